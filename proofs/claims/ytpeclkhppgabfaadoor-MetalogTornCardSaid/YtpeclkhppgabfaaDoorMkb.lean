/- Rules: a row of bytes made; a sector of noughts. -/
import Derived.Test.YtpeclkhppgabfaaDoorPaL
import Derived.Test.YtpeclkhppgabfaaDoorPaI
namespace Go.Proofs.YtpeclkhppgabfaaDoor
open Go.RowKit
set_option linter.unusedVariables false
set_option linter.unusedSimpArgs false
theorem size_byte : (Tryd.prog.info? 5).map (·.size) = some 1 := by kernel_rfl
theorem wpList_make_row {ops : Array Oper} {rest : List Oper} {o : Oper} {a : Act} {w : World} {Q : Exit → Act → World → Prop} (hgd : o.guard = none) (x y : Operand) (ho : o.op = .makeSlice 25 x y) (n : Nat) (hn : n ≤ 100000) (hx : a.eval x = .int .i64 (n : Int)) (hy : a.eval y = .int .i64 (n : Int))
    (h : ∀ w1, Hid (w1.heap[w.heap.size]? = some (.cells (u8s (List.replicate n 0)).toArray 5 (0, 0))) → w.heap.size < w1.heap.size → Kept w w1 → wpList Tryd.prog ops Q rest (a.put o.dst (.slice (some ⟨w.heap.size, 0, none⟩) n n)) w1) : wpList Tryd.prog ops Q (o :: rest) a w := by
  refine wpList_plain hgd fun K hK => ?_
  have h1 : (Tryd.prog.info? 5).map (fun i => (i.zero, i.size, i.bytes)) = some (some (.int .u8 0), 1, 1) := by kernel_rfl
  cases hi : Tryd.prog.info? 5 with
  | none => simp [hi] at h1
  | some i =>
    simp only [hi, Option.map_some, Option.some.injEq, Prod.mk.injEq] at h1
    have hr := run_make (P := Tryd.prog) w 25 5 i _ Tryd.underlying25 hi h1.1 .i64 .i64 n n (by omega) (Int.le_refl _) (by rw [h1.2.2]; omega) (by omega)
    have h5 : madeCells (Value.int .u8 0).cells (n * i.size) = (u8s (List.replicate n 0)).toArray := by
      rw [h1.2.1, Nat.mul_one, u8s, List.map_replicate]
      exact made_const (by decide) (fun i h => by have h' : i < 1 := h; have : i = 0 := by omega
                                                  subst this; rfl) _
    simp only [Int.toNat_natCast, h5] at hr
    unfold Oper.wp execOp
    simp only [ho, hx, hy, Sem.run_bind, hr, Result.andThen_ok, Sem.run_pure]
    exact hK _ _ (h _ (Lib.hid (heap_alloc_new w _)) (by simp) ((Kept.refl _).alloc _))
theorem wpList_sec_zero {ops : Array Oper} {rest : List Oper} {o : Oper} {a : Act} {w : World} {Q : Exit → Act → World → Prop} (hgd : o.guard = none) (ho : o.op = .build 39 #[])
    (h : wpList Tryd.prog ops Q rest (a.put o.dst (.agg (u8s zeroB).toArray)) w) : wpList Tryd.prog ops Q (o :: rest) a w := by
  refine wpList_plain hgd fun K hK => ?_
  have hr : ∀ w : World, (Instr.build 39 #[]).run Tryd.prog w = .ok (.agg (u8s zeroB).toArray) w := fun w => run_build w 39 #[] (u8s zeroB).toArray (by kernel_rfl)
  unfold Oper.wp execOp
  simp only [ho, List.map_toArray, List.map_nil, Sem.run_bind, hr, Result.andThen_ok, Sem.run_pure]
  exact hK _ _ h
end Go.Proofs.YtpeclkhppgabfaaDoor
