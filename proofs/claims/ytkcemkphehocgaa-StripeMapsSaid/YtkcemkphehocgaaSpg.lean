/- Rules for the walks of laws over stripes. -/
import Derived.Test.YtkcemkphehocgaaSpl
namespace Go.Proofs.Ytkcemkphehocgaa
open Go.RowKit
set_option linter.unusedVariables false
set_option linter.unusedSimpArgs false

section
variable {P : Program} {ops : Array Oper} {Q : Exit → Act → World → Prop} {md : Region.Mode} {S : World → Prop} {s : Nat}
/-- Just one may come up, and its guard says no. -/
theorem wpAnyE_none {i : Nat} {oi : Oper} {fuel : Nat} {listed listed' : Array Bool} {a : Act} {w : World} (hi : ops[i]? = some oi) (hr : Region.ready md ops listed = [i]) (hl : listed.setIfInBounds i true = listed')
    (hw : Region.wanted oi (yielded ops a.tmps) = false) (hS : i ≠ s → S w) (h : wpAnyE P md ops Q S s fuel listed' (a.put oi.dst undef) w) : wpAnyE P md ops Q S s (fuel + 1) listed a w := by
  subst hl
  refine ⟨fun h0 => (by rw [h0] at hr; cases hr), fun j hj => ?_⟩
  rw [hr] at hj
  obtain rfl : j = i := by simpa using hj
  unfold wpOp
  simp only [hi, hw, Bool.false_eq_true, if_false]
  exact ⟨hS, h⟩
end
theorem row_form {W : World} {base e size n : Nat} {v : Value} {xs : List Value} (h : W.ownsRow base e size v n xs) (hn : n ≠ 0) : ∃ g c, v = .slice (some ⟨g, 0, none⟩) n c ∧ base ≤ g ∧ g < W.heap.size ∧ Cells W g 0 xs ∧ n ≤ c := by
  rcases owns_form h with ⟨_, h0, _⟩ | ⟨g, c, rfl, hb, _, hc, hcs⟩
  · exact absurd h0 hn
  · obtain ⟨_, _, _, e2, _, hh, _⟩ := h.2.resolve_left (fun h => by omega)
    cases e2
    exact ⟨g, c, rfl, hb, (Array.getElem?_eq_some_iff.1 hh).1, hcs, hc⟩
theorem exec_zero_sec {W : World} {a : Act} {o : Oper} (ho : o.op = .build 34 #[]) : (execOp a.eval o).run Try.prog W = .ok (.value (.agg (u8s zeroB).toArray)) W := by
  have hr : ∀ w : World, (Instr.build 34 #[]).run Try.prog w = .ok (.agg (u8s zeroB).toArray) w := fun w => run_build w 34 #[] (u8s zeroB).toArray (by kernel_rfl)
  unfold execOp
  simp only [ho, List.map_toArray, List.map_nil, Sem.run_bind, hr, Result.andThen_ok, Sem.run_pure]
theorem secs_secsV (l : List (List Int)) : secs l = secsV l := by
  simp only [secs, secsV, u8s, List.map_flatten, List.flatMap]; rfl
theorem wpList_make_secs {ops : Array Oper} {rest : List Oper} {o : Oper} {a : Act} {w : World} {Q : Exit → Act → World → Prop} (hgd : Region.wanted o (yielded ops a.tmps) = true) (x y : Operand) (ho : o.op = .makeSlice 58 x y) (n : Nat) (hn : n ≤ 4096) (hx : a.eval x = .int .i64 (n : Int)) (hy : a.eval y = .int .i64 (n : Int))
    (h : ∀ w1, Hid (w1.heap[w.heap.size]? = some (.cells (secsV (List.replicate n zeroB)).toArray 34 (0, 0))) → w.heap.size < w1.heap.size → Kept w w1 → wpList Try.prog ops Q rest (a.put o.dst (.slice (some ⟨w.heap.size, 0, none⟩) n n)) w1) : wpList Try.prog ops Q (o :: rest) a w := by
  refine BigFrame.wpList_want hgd fun K hK => ?_
  have h1 := secs_info
  cases hi : Try.prog.info? 34 with
  | none => simp [hi] at h1
  | some i =>
    simp only [hi, Option.map_some, Option.some.injEq, Prod.mk.injEq] at h1
    have hr := run_make (P := Try.prog) w 58 34 i _ Try.underlying58 hi h1.1 .i64 .i64 n n (by omega) (Int.le_refl _) (by rw [h1.2.2]; omega) (by omega)
    have h5 : madeCells (Value.agg (List.replicate 64 (.int .u8 0)).toArray).cells (n * i.size) = (secsV (List.replicate n zeroB)).toArray := by
      rw [h1.2.1, ← secs_secsV, secs_zero]
      exact made_const (by decide) (fun i h => by have h' : i < (List.replicate 64 (Value.int IntKind.u8 0)).length := h; exact (List.getElem_replicate h')) _
    simp only [Int.toNat_natCast, h5] at hr
    unfold Oper.wp execOp
    simp only [ho, hx, hy, Sem.run_bind, hr, Result.andThen_ok, Sem.run_pure]
    exact hK _ _ (h _ (Lib.hid (heap_alloc_new w _)) (by simp) ((Kept.refl _).alloc _))
theorem near_row {n : Nat} (h : n ≤ 12) : Near (rowL n) := ⟨by rw [rowL_len]; omega, fun k hk => by
  rw [rowL_len] at hk
  have : (rowL n).getD k (0, 0) = ((k : Int), (k : Int)) := by rw [List.getD_eq_getElem?_getD, rowL, List.getElem?_map, List.getElem?_range hk]; rfl
  rw [this]; exact ⟨by show (-1000000 : Int) ≤ (k : Int); omega, by show (k : Int) ≤ 1000000; omega⟩⟩
theorem split_slotN {n s : Nat} (h2 : 2 ≤ n) (hs : s < 8 * (n - 1)) : splitX n (s : Int) = (((s / (n - 1) : Nat) : Int), ((slotK n (s / (n - 1)) (s % (n - 1)) : Nat) : Int), 0) := by
  unfold splitX
  rw [if_neg (by omega), if_neg (by omega), Int.toNat_natCast]
theorem home_row {n s : Nat} (h2 : 2 ≤ n) (hs : s < 8 * (n - 1)) : homeX (rowL n) (s : Int) = ((((slotK n (s / (n - 1)) (s % (n - 1)) : Nat) : Int), ((slotK n (s / (n - 1)) (s % (n - 1)) : Nat) : Int) + ((s / (n - 1) : Nat) : Int)), 0) := by
  have hk := slotK_lt (w := n) (t := s / (n - 1)) (Nat.mod_lt s (show 0 < n - 1 by omega))
  unfold homeX
  rw [rowL_len, split_slotN h2 hs]
  simp only [if_true, Int.toNat_natCast]
  rw [rowL_plc _ hk]
end Go.Proofs.Ytkcemkphehocgaa
