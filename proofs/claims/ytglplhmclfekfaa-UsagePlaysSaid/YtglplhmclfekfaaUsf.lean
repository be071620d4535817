/- slices.DeleteFunc, Blocks, Count, Hole. -/
import Derived.Test.YtglplhmclfekfaaUse
namespace Go.Proofs.Ytglplhmclfekfaa
open Go.RowKit Go.ChangeMaps Go.MapKept
set_option linter.unusedVariables false
set_option linter.unusedSimpArgs false

section
variable {P : Program} {ops : Array Oper} {rest : List Oper} {o : Oper} {a : Act} {Q : Exit → Act → World → Prop} {w : World}
theorem Wrote.self {b : Nat} {cur : List Value} {t : TypeId} (h : w.heap[b]? = some (.cells cur.toArray t (0, 0))) : Wrote w w b cur t := ⟨h, fun _ _ => rfl, rfl, rfl, rfl, rfl⟩
/-- clear(s): the row, the world a letter -/
theorem wpList_clear_row (hgd : Region.wanted o (yielded ops a.tmps) = true) (x : Operand) {t e : Nat} (ho : o.op = .call { callee := .builtin .clear, args := #[x], argTypes := #[t] }) (ht : P.underlying t = some (.slice e)) {z : Value}
    (hz : ∀ w, (zeroValue e).run P w = .ok z w) (hzc : z.cells = #[z]) (h1 : z.oneCell' = true) (b off n c : Nat) (hx : a.eval x = .slice (some ⟨b, off, none⟩) n c) (cur : List Value) (et : TypeId) (hb : w.heap[b]? = some (.cells cur.toArray et (0, 0))) (hfit : off + n ≤ cur.length)
    (h : ∀ w1, Wrote w w1 b (cur.take off ++ (List.replicate n z ++ cur.drop (off + n))) et → wpList P ops Q rest (a.put o.dst (.tuple #[])) w1) : wpList P ops Q (o :: rest) a w := by
  refine BigFrame.wpList_want hgd fun K hK => ?_
  have hzl : (Builtin.zeroCells z.cells n).toList = List.replicate n z := by
    rw [hzc]
    simp [Builtin.zeroCells]
    apply List.ext_getElem
    · simp
    · intro i h1 h2
      simp [Nat.mod_one]
  have hst := run_storeCells_at P b off et (List.replicate n z) 0 cur.toArray w hb (by simpa using hfit) (by intro v hv; rw [List.eq_of_mem_replicate hv]; exact h1)
  unfold Oper.wp execOp
  rcases n with _ | n
  · simp [ho, resolve, invoke, builtin, hx, Builtin.clear_, run_underlying ht]
    refine hK _ _ (h w ?_)
    simp
    exact Wrote.self hb
  · simp only [ho, resolve, invoke, builtin, Sem.run_bind, Sem.run_pure, Result.andThen_ok, List.map_toArray, List.map_cons, List.map_nil, hx, Builtin.clear_, run_underlying ht, hz, hzl, hst, List.getElem?_toArray, List.getElem?_cons_zero]
    refine hK _ _ (h _ ⟨?_, ?_, ?_, rfl, rfl, rfl⟩)
    · rw [setRow_heap w b _ _ et _ hb]
      simp [Nat.add_comm, Nat.add_left_comm]
    · intro k hk; exact setRow_other w b k _ hk
    · simp
end

def liveL (l : List Int) : List Int := l.filter (fun x => x != -1)
theorem liveL_snoc_dead (l : List Int) : liveL (l ++ [-1]) = liveL l := by simp [liveL, List.filter_append]
theorem liveL_snoc (l : List Int) (x : Int) (h : x ≠ -1) : liveL (l ++ [x]) = liveL l ++ [x] := by simp [liveL, List.filter_append, h]
theorem liveL_all (l : List Int) (h : ∀ i (hi : i < l.length), l[i] ≠ -1) : liveL l = l := by
  unfold liveL
  rw [List.filter_eq_self]
  intro x hx
  obtain ⟨i, hi, rfl⟩ := List.getElem_of_mem hx
  simpa using h i hi
theorem idxI_cases (l : List Int) (x : Int) : (idxI l x = -1 ∧ ∀ i (h : i < l.length), l[i] ≠ x) ∨ ∃ k, ∃ hk : k < l.length, idxI l x = ((k : Nat) : Int) ∧ l[k] = x ∧ ∀ i (h : i < l.length), i < k → l[i] ≠ x := by
  unfold idxI
  cases h : l.findIdx? (fun y => y == x) with
  | none =>
    rw [List.findIdx?_eq_none_iff] at h
    exact .inl ⟨rfl, fun i hi => by simpa using h _ (List.getElem_mem hi)⟩
  | some k =>
    rw [List.findIdx?_eq_some_iff_getElem] at h
    obtain ⟨hk, hp, hno⟩ := h
    exact .inr ⟨k, hk, rfl, by simpa using hp, fun i hi hik => by simpa using hno i hik⟩
theorem zero_int (w : World) : (zeroValue 3).run Try.prog w = .ok (.int .i64 0) w := by kernel_rfl
theorem take_set_snoc (cs : List Int) (i : Nat) (x : Int) (h : i < cs.length) : (cs.set i x).take (i + 1) = cs.take i ++ [x] := by
  rw [List.take_succ_eq_append_getElem (by simpa using h)]
  simp [List.take_set_of_le]
theorem drop_set_lt (cs : List Int) (i j : Nat) (x : Int) (h : i < j) : (cs.set i x).drop j = cs.drop j := by
  rw [List.drop_set_of_lt h]
theorem drop_at {cs l : List Int} {k : Nat} (h : cs.drop k = l.drop k) (hc : k < cs.length) (hl : k < l.length) : cs[k] = l[k] := by
  have h1 : (cs.drop k)[0]? = (l.drop k)[0]? := by rw [h]
  simpa [hc, hl] using h1
theorem drop_succ_of {cs l : List Int} {k : Nat} (h : cs.drop k = l.drop k) : cs.drop (k + 1) = l.drop (k + 1) := by
  rw [← List.drop_drop, ← List.drop_drop, h]
theorem But.self_trans {g : Nat} {a b c : World} (h : But (fun k => k = g) a b) (k : But (fun k => k = g) b c) : But (fun k => k = g) a c := h.trans k

section
set_option maxHeartbeats 1000000
set_option maxRecDepth 100000
theorem slices_DeleteFunc (l : List Int) (g cap : Nat) (junk : List Value) (w : World) (hl : l.length ≤ 4096) (hcap : l.length + junk.length = cap) (hmax : cap ≤ maxLen) (hb : w.heap[g]? = some (.cells (ints l ++ junk).toArray 3 (0, 0))) :
    Calls Try.prog 95 #[.slice (some ⟨g, 0, none⟩) l.length cap, .func (.func 96) #[] #[]] w fun e w' =>
      ∃ junk', e = .returned (.slice (some ⟨g, 0, none⟩) (liveL l).length cap) ∧ w'.heap[g]? = some (.cells (ints (liveL l) ++ junk').toArray 3 (0, 0)) ∧ But (fun k => k = g) w w' := by
  have HB := Lib.hid hb; clear hb
  have hidx := slices_IndexFunc l g cap
  unfold maxLen at hmax
  rcases idxI_cases l (-1) with ⟨hi, hno⟩ | ⟨i0, hi0, hi, hat, hno⟩
  · rw [hi] at hidx
    have HI := Lib.hid hidx; clear hidx
    have HNO := Lib.hid hno; clear hno
    clear hi
    go_enter Try.func95, Try.ntmps95
    go_wp2_with (go_at_call 135; refine (HI.out _ hl (IRow.of_block HB.out)).mono ?_; rintro e w' ⟨rfl, rfl⟩)
    go_ret
    have e := liveL_all l HNO.out
    exact ⟨junk, by rw [e]; rfl, by rw [e]; exact HB.out, But.refl _ _⟩
  · rw [hi] at hidx
    have HI := Lib.hid hidx; clear hidx
    have HNO := Lib.hid hno; clear hno
    have HAT := Lib.hid hat; clear hat
    clear hi
    have hb1 : ((i0 : Int) == -1) = false := by simp
    go_enter Try.func95, Try.ntmps95
    go_wp2_with (go_at_call 135; refine (HI.out _ hl (IRow.of_block HB.out)).mono ?_; rintro e w' ⟨rfl, rfl⟩)
    go_loopw [5, 6] (fun i j wr => ∃ (ki kj : Nat) (cs : List Int), i = .int .i64 ki ∧ j = .int .i64 kj ∧ ki < kj ∧ kj ≤ l.length ∧ cs.length = l.length ∧
      wr.heap[g]? = some (.cells (ints cs ++ junk).toArray 3 (0, 0)) ∧ cs.take ki = liveL (l.take kj) ∧ cs.drop kj = l.drop kj ∧ But (fun k => k = g) w wr) (fun _ j _ => l.length - (intOf j).toNat)
    case atStart =>
      refine ⟨i0, i0 + 1, l, rfl, by go_num, by omega, by omega, rfl, HB.out, ?_, rfl, But.refl _ _⟩
      rw [List.take_succ_eq_append_getElem hi0, HAT.out, liveL_snoc_dead, liveL_all]
      intro i hi
      have hi' : i < i0 := by simp at hi; omega
      rw [List.getElem_take]
      exact HNO.out i (by omega) hi'
    case round =>
      obtain ⟨ki, kj, cs, rfl, rfl, hij, hjl, hcl, hh, ht, hd, hbt⟩ := hrel
      have HH := Lib.hid hh; clear hh
      have HT := Lib.hid ht; clear ht
      have HD := Lib.hid hd; clear hd
      have HC := Lib.hid hcl; clear hcl
      by_cases hlt : kj < l.length
      · have hck : kj < cs.length := by rw [HC.out]; exact hlt
        have ck := (IRow.of_block HH.out).at kj hck
        rw [drop_at HD.out hck hlt] at ck
        have hsn := List.take_succ_eq_append_getElem hlt
        by_cases hx : l[kj] = -1
        · rw [hx] at ck hsn
          have HSN := Lib.hid hsn; clear hsn
          clear hx
          go_wp2_with (go_at_call 96; refine (usage_isDead _ _).mono ?_; rintro e w' ⟨rfl, rfl⟩)
          go_roundw
          case rel => exact ⟨ki, kj + 1, cs, rfl, by go_num, by omega, by omega, HC.out, HH.out, by rw [HSN.out, liveL_snoc_dead]; exact HT.out, drop_succ_of HD.out, hbt⟩
          case measure => simp [intOf]; omega
        · have HX := Lib.hid hx
          have hne : (l[kj] == -1) = false := by simpa using hx
          clear hx
          generalize hy : l[kj] = y at *
          have HSN := Lib.hid hsn; clear hsn
          clear hy
          have hki : ki < cs.length := by rw [HC.out]; omega
          go_wp2_with (first
            | (go_at_call 96; refine (usage_isDead _ _).mono ?_; rintro e w' ⟨rfl, rfl⟩)
            | (refine wpList_set_cell (o := ⟨none, .store _ _ _, _, _, _, _⟩) rfl _ _ rfl size_int g ki rfl (.int .i64 y) rfl rfl rfl (ints cs ++ junk) 3 HH.out (by rw [List.length_append, ints_length]; omega) ?_; intro w1 hw1))
          go_roundw
          case rel =>
            rw [List.set_append_left _ _ (by rw [ints_length]; exact hki), ints_set] at hw1
            refine ⟨ki + 1, kj + 1, cs.set ki y, by go_num, by go_num, by omega, by omega, by rw [List.length_set]; exact HC.out, hw1.blk, ?_, ?_, hbt.trans (But.wrote hw1 rfl)⟩
            · rw [take_set_snoc _ _ _ hki, HSN.out, liveL_snoc _ _ HX.out, HT.out]
            · rw [drop_set_lt _ _ _ _ (by omega)]; exact drop_succ_of HD.out
          case measure => simp [intOf]; omega
      · have hkj : kj = l.length := by omega
        have hkl : ki < l.length := by omega
        have hfin : cs.take ki = liveL l := by rw [HT.out, hkj, List.take_length]
        have HF := Lib.hid hfin; clear hfin
        have hli : (liveL l).length = ki := by rw [← HF.out, List.length_take, HC.out]; omega
        have HLI := Lib.hid hli; clear hli
        clear hkj
        go_wp2_with (refine stop_at (o := ⟨none, .call _, _, _, _, _⟩) ?_)
        refine Stop.mk ?_
        refine wpList_clear_row rfl _ rfl Try.underlying56 zero_int rfl rfl g ki (l.length - ki) (cap - ki) rfl (ints cs ++ junk) 3 HH.out (by rw [List.length_append, ints_length, HC.out]; omega) ?_
        intro w1 hw1
        go_wp2
        go_ret
        refine ⟨List.replicate (l.length - ki) (.int .i64 0) ++ (ints cs ++ junk).drop (ki + (l.length - ki)), by rw [HLI.out]; rfl, ?_, hbt.trans (But.wrote hw1 rfl)⟩
        have h := hw1.blk
        rw [List.take_append_of_le_length (by rw [ints_length, HC.out]; omega), show (ints cs).take ki = ints (liveL l) from by rw [← HF.out]; simp [ints, List.map_take]] at h
        exact h
end
end Go.Proofs.Ytglplhmclfekfaa
