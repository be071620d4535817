/- slices.Repeat at one int; Open. -/
import Derived.Test.YtglplhmclfekfaaUsg
namespace Go.Proofs.Ytglplhmclfekfaa
open Go.RowKit Go.ChangeMaps Go.MapKept
set_option linter.unusedVariables false
set_option linter.unusedSimpArgs false

theorem made_ints (n : Nat) : (madeCells (Value.int .i64 0).cells n).toList = ints (List.replicate n 0) := by
  apply List.ext_getElem
  · simp [ints, size_madeCells]
  · intro i h1 h2
    simp [madeCells, ints, Value.cells, Nat.mod_one]
theorem Addr.add_mk (b o j : Nat) : (⟨b, o, none⟩ : Addr).add j = ⟨b, o + j, none⟩ := by
  unfold Addr.add
  split
  · rename_i h; subst h; rfl
  · rfl
theorem ints_splice (cur cs : List Int) (off : Nat) : splice (ints cur) off (ints cs) = ints (splice cur off cs) := by
  simp [splice, ints]
section
variable {P : Program} {o : Oper} {a : Act} {w : World} {K : Act → World → Prop} {Q : Exit → Act → World → Prop} {ops : Array Oper} {rest : List Oper}
/-- copy into a row of ints; the world a letter -/
theorem wp_copy_ints {d s : Operand} {dT sT : TypeId}
    (ho : o.op = .call { callee := .builtin .copy, args := #[d, s], argTypes := #[dT, sT] }) {elem : TypeId} (hu : P.underlying dT = some (.slice elem)) (hsz : (P.info? elem).map (·.size) = some 1)
    (g off dLen dCap : Nat) (ad : Addr) (sLen sCap : Nat) (hd : a.eval d = .slice (some ⟨g, off, none⟩) dLen dCap) (hs : a.eval s = .slice (some ad) sLen sCap)
    (cur cs : List Int) {t : TypeId} (hg : w.heap[g]? = some (.cells (ints cur).toArray t (0, 0))) (hn : cs.length = min sLen dLen)
    (hat : ∀ j (hj : j < cs.length), w.cell? (ad.add j) = some (.int .i64 cs[j])) (hfit : off + cs.length ≤ cur.length)
    (h : ∀ w', Wrote w w' g (ints (splice cur off cs)) t → K (a.put o.dst (.int .i64 cs.length)) w') : Oper.wp P o a w K Q := by
  have hrun := run_copy_row (P := P) w dT sT o.type elem g off dLen dCap ad sLen sCap (ints cur).toArray t (ints cs) hu hsz hg (by rw [ints_length]; exact hn)
    (fun j v hv => by
      obtain ⟨hj, rfl⟩ := List.getElem?_eq_some_iff.1 hv
      rw [ints_length] at hj
      rw [hat j hj]; simp [ints]) (by simpa [ints] using hfit) (ints_one cs)
  unfold Oper.wp
  simp [execOp, ho, resolve, invoke, builtin, hd, hs, hrun, Result.andThen]
  have e : goInt (ints cs).length = .int .i64 cs.length := by rw [ints_length]; rfl
  rw [e]
  refine h _ ⟨?_, fun k hk => setRow_other w g k _ hk, by simp [World.setRow], rfl, rfl, rfl⟩
  rw [← ints_splice]
  simpa [splice] using setRow_heap w g _ _ t _ hg
theorem wpList_copy_ints (hgd : Region.wanted o (yielded ops a.tmps) = true) {d s : Operand} {dT sT : TypeId}
    (ho : o.op = .call { callee := .builtin .copy, args := #[d, s], argTypes := #[dT, sT] }) {elem : TypeId} (hu : P.underlying dT = some (.slice elem)) (hsz : (P.info? elem).map (·.size) = some 1)
    (g off dLen dCap : Nat) (ad : Addr) (sLen sCap : Nat) (hd : a.eval d = .slice (some ⟨g, off, none⟩) dLen dCap) (hs : a.eval s = .slice (some ad) sLen sCap)
    (cur cs : List Int) {t : TypeId} (hg : w.heap[g]? = some (.cells (ints cur).toArray t (0, 0))) (hn : cs.length = min sLen dLen)
    (hat : ∀ j (hj : j < cs.length), w.cell? (ad.add j) = some (.int .i64 cs[j])) (hfit : off + cs.length ≤ cur.length)
    (h : ∀ w', Wrote w w' g (ints (splice cur off cs)) t → wpList P ops Q rest (a.put o.dst (.int .i64 cs.length)) w') : wpList P ops Q (o :: rest) a w :=
  BigFrame.wpList_want hgd fun K hK => wp_copy_ints ho hu hsz g off dLen dCap ad sLen sCap hd hs cur cs hg hn hat hfit fun w' hw => hK _ _ (h w' hw)
end

theorem splice_fill (k m n : Nat) (h : k + m ≤ n) : splice (List.replicate k (-1 : Int) ++ List.replicate (n - k) 0) k (List.replicate m (-1)) = List.replicate (k + m) (-1) ++ List.replicate (n - (k + m)) 0 := by
  have e1 : (List.replicate k (-1 : Int) ++ List.replicate (n - k) 0).take k = List.replicate k (-1) := by rw [List.take_append_of_le_length (by simp), List.take_of_length_le (by simp)]
  have e2 : (List.replicate k (-1 : Int) ++ List.replicate (n - k) 0).drop (k + m) = List.replicate (n - (k + m)) 0 := by
    rw [List.drop_append, List.drop_eq_nil_of_le (by simp), List.nil_append, List.length_replicate, List.drop_replicate]
    congr 1; omega
  rw [splice, e1, List.length_replicate, e2, ← List.append_assoc, List.replicate_append_replicate]
section
variable {w : World} {p : Nat} {S : Nat → Prop} {T : Tab}
set_option maxHeartbeats 1000000
set_option maxRecDepth 100000
theorem slices_Repeat (x n : Nat) (w : World) (hx : w.cell? ⟨x, 0, none⟩ = some (.int .i64 (-1))) (hn : 1 ≤ n) (hm : n ≤ 4096) :
    Calls Try.prog 89 #[.slice (some ⟨x, 0, none⟩) 1 1, .int .i64 n] w fun e w' => ∃ g, e = .returned (.slice (some ⟨g, 0, none⟩) n n) ∧ w'.heap[g]? = some (.cells (ints (List.replicate n (-1))).toArray 3 (0, 0)) ∧ w.heap.size ≤ g ∧ Kept w w' := by
  have HX := Lib.hid hx; clear hx
  obtain ⟨i0, hi, hz0, hz1, hz2⟩ := info_parts (P := Try.prog) (e := 3) (z := .int .i64 0) (size := 1) (bytes := 8) (by kernel_rfl)
  have HI := Lib.hid hi; clear hi
  have HZ0 := Lib.hid hz0; clear hz0
  have HZ1 := Lib.hid hz1; clear hz1
  have HZ2 := Lib.hid hz2; clear hz2
  go_enter Try.func89, Try.ntmps89
  go_wp2_with (first
    | (go_at_call 131; refine (bits_Mul n _ hm).mono ?_; rintro e w1 ⟨rfl, rfl⟩)
    | (at_make; refine stop_at ?_))
  refine Stop.mk ?_
  refine wpList_make_full _ rfl _ _ 56 rfl 0 3 i0 (.int .i64 0) 1 Try.underlying56 HI.out HZ0.out HZ1.out .i64 .i64 (n : Int) (n : Int) n rfl rfl rfl rfl (by rw [HZ2.out]; omega) (by simp only [maxLen]; omega) (Nat.zero_le _) ?_
  intro w1 hown hg
  have hk1 : Kept w w1 := (Kept.refl w).grown hg (fun k e => by cases e)
  have hb1 : w1.heap[w.heap.size]? = some (.cells (ints (List.replicate n 0)).toArray 3 (0, 0)) := by
    rcases hown.2 with ⟨h, _⟩ | ⟨g, cap, cur, h, _, hh, _, _, hs, ht⟩
    · cases h
    · cases h
      rw [Nat.mul_one] at hs ht
      rw [hh, ← made_ints, ← ht, List.take_of_length_le (by simp; omega)]
  have HB1 := Lib.hid hb1; clear hb1
  have HX1 := Lib.hid (hk1.cell' HX.out)
  clear hown hg HI HZ0 HZ1 HZ2
  go_wp2_with (refine stop_at (o := ⟨some 33, _, _, _, _, _⟩) ?_)
  refine Stop.mk ?_
  refine wpList_copy_ints rfl rfl Try.underlying56 size_int w.heap.size 0 n n ⟨x, 0, none⟩ 1 1 rfl rfl (List.replicate n 0) [-1] HB1.out (by simp; omega) ?_ (by simp; omega) ?_
  · intro j hj
    have : j = 0 := by simp at hj; omega
    subst this
    exact HX1.out
  intro w2 hw2
  have hk2 : Kept w w2 := hw2.kept hk1 (Nat.le_refl _)
  have HB2 := Lib.hid hw2.blk
  clear hw2 HB1 HX1 hk1
  go_wp2
  go_loopw [8] (fun i wr => ∃ k : Nat, 1 ≤ k ∧ k ≤ n ∧ i = .int .i64 k ∧ wr.heap[w.heap.size]? = some (.cells (ints (List.replicate k (-1) ++ List.replicate (n - k) 0)).toArray 3 (0, 0)) ∧ Kept w wr) (fun i _ => n - (intOf i).toNat)
  case atStart =>
    refine ⟨1, by omega, hn, rfl, ?_, hk2⟩
    rw [HB2.out]
    obtain ⟨m, rfl⟩ : ∃ m, n = m + 1 := ⟨n - 1, by omega⟩
    simp [splice, List.replicate_succ]
  case round =>
    obtain ⟨k, hk1, hkn, rfl, hh, hkw⟩ := hrel
    have HH := Lib.hid hh; clear hh
    have HR := Lib.hid (IRow.of_block (rest := []) (by simpa using HH.out))
    by_cases hlt : k < n
    · go_wp2
      have hnk : ¬ n = k := by omega
      refine wp_region_calm ?_
      refine wp_region_E (fun _ => True) 100 (by kernel_rfl) ?_
      refine wpAnyE_take (i := 0) (v := ?_) (listed' := #[true, false, false, false, false, false, false, false, false, false]) (by rfl) (by kernel_rfl) (by kernel_rfl) calm_put trivial (by rfl) ?_ ?_
      rotate_left
      · intro W hW; clear hW; go_simp; try (with_reducible rfl)
      simp only [Act.put, List.getElem_toArray, List.getElem_cons_succ, List.getElem_cons_zero, List.setIfInBounds_toArray, List.set_cons_zero, List.set_cons_succ]
      refine wpAnyE_take (i := 1) (v := ?_) (listed' := #[true, true, false, false, false, false, false, false, false, false]) (by rfl) (by kernel_rfl) (by kernel_rfl) calm_put trivial (by rfl) ?_ ?_
      rotate_left
      · intro W hW; clear hW; go_simp; try (with_reducible rfl)
      simp only [Act.put, List.getElem_toArray, List.getElem_cons_succ, List.getElem_cons_zero, List.setIfInBounds_toArray, List.set_cons_zero, List.set_cons_succ]
      refine wpAnyE_take (i := 2) (v := ?_) (listed' := #[true, true, true, false, false, false, false, false, false, false]) (by rfl) (by kernel_rfl) (by kernel_rfl) calm_put trivial (by rfl) ?_ ?_
      rotate_left
      · intro W hW; clear hW; go_simp; try (with_reducible rfl)
      simp only [Act.put, List.getElem_toArray, List.getElem_cons_succ, List.getElem_cons_zero, List.setIfInBounds_toArray, List.set_cons_zero, List.set_cons_succ]
      refine wpAnyE_take (i := 3) (v := ?_) (listed' := #[true, true, true, true, false, false, false, false, false, false]) (by rfl) (by kernel_rfl) (by kernel_rfl) calm_put trivial (by rfl) ?_ ?_
      rotate_left
      · intro W hW; clear hW; go_simp; try (with_reducible rfl)
      simp only [Act.put, List.getElem_toArray, List.getElem_cons_succ, List.getElem_cons_zero, List.setIfInBounds_toArray, List.set_cons_zero, List.set_cons_succ]
      refine wpAnyE_take (i := 4) (v := ?_) (listed' := #[true, true, true, true, true, false, false, false, false, false]) (by rfl) (by kernel_rfl) (by kernel_rfl) calm_put trivial (by rfl) ?_ ?_
      rotate_left
      · intro W hW; clear hW; go_simp; try (with_reducible rfl)
      simp only [Act.put, List.getElem_toArray, List.getElem_cons_succ, List.getElem_cons_zero, List.setIfInBounds_toArray, List.set_cons_zero, List.set_cons_succ]
      refine wpAnyE_take (i := 5) (v := ?_) (listed' := #[true, true, true, true, true, true, false, false, false, false]) (by rfl) (by kernel_rfl) (by kernel_rfl) calm_put trivial (by rfl) ?_ ?_
      rotate_left
      · intro W hW; clear hW; go_simp; try (with_reducible rfl)
      simp only [Act.put, List.getElem_toArray, List.getElem_cons_succ, List.getElem_cons_zero, List.setIfInBounds_toArray, List.set_cons_zero, List.set_cons_succ]
      refine wpAnyE_take (i := 6) (v := ?_) (listed' := #[true, true, true, true, true, true, true, false, false, false]) (by rfl) (by kernel_rfl) (by kernel_rfl) calm_put trivial (by rfl) ?_ ?_
      rotate_left
      · intro W hW; clear hW; go_simp; try (with_reducible rfl)
      simp only [Act.put, List.getElem_toArray, List.getElem_cons_succ, List.getElem_cons_zero, List.setIfInBounds_toArray, List.set_cons_zero, List.set_cons_succ]
      refine wpAnyE_one (i := 7) (listed' := #[true, true, true, true, true, true, true, true, false, false]) (by rfl) (by kernel_rfl) (by kernel_rfl) (by rfl) (fun K hK => ?_)
      simp only [Act.put, List.getElem_toArray, List.getElem_cons_succ, List.getElem_cons_zero, List.setIfInBounds_toArray, List.set_cons_zero, List.set_cons_succ]
      refine wp_copy_ints (d := .tmp 41) (s := .tmp 44) (by rfl) Try.underlying56 size_int w.heap.size k (n - k) (n - k) ⟨w.heap.size, 0, none⟩ k n (by rfl) (by rfl) (List.replicate k (-1) ++ List.replicate (n - k) 0) (List.replicate (min k (n - k)) (-1)) HH.out (by simp) ?_ (by simp; omega) ?_
      · intro j hj
        have hjk : j < k := by simp at hj; omega
        rw [Addr.add_mk, Nat.zero_add]
        have := HR.out.at j (by simp; omega)
        refine (show wr.drew.cell? _ = _ from this).trans ?_
        simp [List.getElem_append, hjk]
      intro w1 hw1
      simp only [List.length_replicate]
      refine hK _ _ (fun _ => trivial) ?_; clear hK K
      simp only [Act.put, List.getElem_toArray, List.getElem_cons_succ, List.getElem_cons_zero, List.setIfInBounds_toArray, List.set_cons_zero, List.set_cons_succ]
      refine wpAnyE_take (i := 8) (v := ?_) (listed' := #[true, true, true, true, true, true, true, true, true, false]) (by rfl) (by kernel_rfl) (by kernel_rfl) calm_put trivial (by rfl) ?_ ?_
      rotate_left
      · intro W hW; clear hW; go_simp; try (with_reducible rfl)
      simp only [Act.put, List.getElem_toArray, List.getElem_cons_succ, List.getElem_cons_zero, List.setIfInBounds_toArray, List.set_cons_zero, List.set_cons_succ]
      refine wpAnyE_one (i := 9) (listed' := #[true, true, true, true, true, true, true, true, true, true]) (by rfl) (by kernel_rfl) (by kernel_rfl) (by rfl) (fun K hK => ?_)
      go_wp2
      refine hK _ _ (fun _ => trivial) ?_; clear hK K
      refine wpAnyE_done (by kernel_rfl) ?_ _
      refine calm_normal ?_
      go_wp2
      go_roundw
      case rel =>
        refine ⟨k + min k (n - k), by omega, by omega, by go_num, ?_, hw1.kept (hkw.drew) (Nat.le_refl _)⟩
        rw [hw1.blk, splice_fill _ _ _ (by omega)]
      case measure => simp [intOf]; omega
    · obtain rfl : k = n := by omega
      go_wp2
      go_ret
      exact ⟨w.heap.size, rfl, by simpa using HH.out, Nat.le_refl _, hkw⟩
end
end Go.Proofs.Ytglplhmclfekfaa
