/- A disk.Bank: Crash sorts. -/
import Derived.Test.YtglplhmclfekfaaGreatSort
import Derived.Test.YtglplhmclfekfaaGreatDkm
import Derived.Test.YtglplhmclfekfaaGreatEA
namespace Go.Proofs.YtglplhmclfekfaaGreat
open Go.RowKit Go.Shelf Go.Lib Go.Sort
set_option linter.unusedVariables false
set_option linter.unusedSimpArgs false

section
variable {w : World} {Y : Lay} {T : BankT}
set_option maxHeartbeats 1000000
set_option maxRecDepth 100000
theorem closure_cmp (h : BankD w Y T) {x y : Nat × Nat} (hx : T.Has x) (hy : T.Has y) (hlx : (T.d x.1).sin.length ≤ 4096) (hly : (T.d y.1).sin.length ≤ 4096) :
    Calls Tryz.prog 79 #[.agg #[.pointer (some ⟨Y.A (2 + 4 * x.1), 0, none⟩), .int .i64 (x.2 : Int)], .agg #[.pointer (some ⟨Y.A (2 + 4 * y.1), 0, none⟩), .int .i64 (y.2 : Int)]] w fun e w' =>
      e = .returned (.int .i64 (Lib.compareInt (T.since x) (T.since y))) ∧ ∃ q os', w' = grow (w.drewN q) os' := by
  have hcon := fun W' => AnyG.cmp_Compare_int Tryz.cmpL (T.since x) (T.since y) W'
  change ∀ W', Calls Tryz.prog 80 _ _ _ at hcon
  have x2 := h.m2 hx.1
  have y2 := h.m2 hy.1
  have xs := h.cell_sin hx.1 hx.2
  have ys := h.cell_sin hy.1 hy.2
  change w.cell? _ = some (.int .i64 (T.since x)) at xs
  change w.cell? _ = some (.int .i64 (T.since y)) at ys
  have hx2 := hx.2
  have hy2 := hy.2
  have hlt : ∀ {p : Addr} {v : Value}, w.cell? p = some v → p.block < w.heap.size := fun h => World.block_lt_of_cell? _ _ h
  have hxb := hlt x2; have hyb := hlt y2; have hxs := hlt xs; have hys := hlt ys
  dsimp only at hxb hyb hxs hys
  obtain ⟨xk, xa⟩ := x
  obtain ⟨yk, ya⟩ := y
  dsimp only at *
  generalize T.since (xk, xa) = vx at *
  generalize T.since (yk, ya) = vy at *
  generalize (T.d xk).sin.length = nx at *
  generalize (T.d yk).sin.length = ny at *
  generalize Lib.compareInt vx vy = r at *
  have HC := Lib.hid hcon
  clear h hcon hx hy hlt
  go_enter Tryz.func79, Tryz.ntmps79
  have K := ((Kept.refl w).alloc (.cells #[.pointer (some ⟨Y.A (2 + 4 * xk), 0, none⟩), .int .i64 (xa : Int)] 110)).alloc (.cells #[.pointer (some ⟨Y.A (2 + 4 * yk), 0, none⟩), .int .i64 (ya : Int)] 110)
  have b1 := heap_alloc_new (w.alloc (.cells #[.pointer (some ⟨Y.A (2 + 4 * xk), 0, none⟩), .int .i64 (xa : Int)] 110)) (.cells #[.pointer (some ⟨Y.A (2 + 4 * yk), 0, none⟩), .int .i64 (ya : Int)] 110)
  have b0 := ((Kept.refl (w.alloc (.cells #[.pointer (some ⟨Y.A (2 + 4 * xk), 0, none⟩), .int .i64 (xa : Int)] 110))).alloc (.cells #[.pointer (some ⟨Y.A (2 + 4 * yk), 0, none⟩), .int .i64 (ya : Int)] 110)).block (heap_alloc_new w (.cells #[.pointer (some ⟨Y.A (2 + 4 * xk), 0, none⟩), .int .i64 (xa : Int)] 110))
  rw [World.size_alloc] at b1
  go_upto_region 1 with fail
  obtain ⟨W2, hW2⟩ : ∃ W2, W2 = (w.alloc (.cells #[.pointer (some ⟨Y.A (2 + 4 * xk), 0, none⟩), .int .i64 (xa : Int)] 110)).alloc (.cells #[.pointer (some ⟨Y.A (2 + 4 * yk), 0, none⟩), .int .i64 (ya : Int)] 110) := ⟨_, rfl⟩
  rw [← hW2] at K b0 b1 ⊢
  have HW := Lib.hid hW2; clear hW2
  have p0 := K.cell' x2
  have p1 := K.cell' y2
  have p2 := K.cell' xs
  have p3 := K.cell' ys
  have q0 : W2.cell? ⟨w.heap.size, 0, none⟩ = some (.pointer (some ⟨Y.A (2 + 4 * xk), 0, none⟩)) := cell_of_row _ _ 0 _ _ _ b0
  have q1 : W2.cell? ⟨w.heap.size, 1, none⟩ = some (.int .i64 (xa : Int)) := cell_of_row _ _ 1 _ _ _ b0
  have q2 : W2.cell? ⟨w.heap.size + 1, 0, none⟩ = some (.pointer (some ⟨Y.A (2 + 4 * yk), 0, none⟩)) := cell_of_row _ _ 0 _ _ _ b1
  have q3 : W2.cell? ⟨w.heap.size + 1, 1, none⟩ = some (.int .i64 (ya : Int)) := cell_of_row _ _ 1 _ _ _ b1
  clear K b0 b1 x2 y2 xs ys
  go_quiet (first | (go_at_call 80; refine Calls.quiet_of_same (HC.out _)))
  go_wp2
  go_ret
  exact ⟨rfl, nq, #[_, _], by rw [HW.out]; rfl⟩
end
end Go.Proofs.YtglplhmclfekfaaGreat
