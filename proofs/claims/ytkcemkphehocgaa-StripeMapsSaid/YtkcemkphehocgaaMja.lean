/- A place in memory: rules. -/
import Derived.Test.YtkcemkphehocgaaDlh
import Derived.Test.YtkcemkphehocgaaDlw
import Derived.Test.YtkcemkphehocgaaDlv
namespace Go.Proofs.Ytkcemkphehocgaa
open Go.RowKit
set_option linter.unusedVariables false
set_option linter.unusedSimpArgs false

theorem one_plc (x y : Int) : ∀ u ∈ [Value.int .i64 x, .int .i64 y], u.oneCell' = true := by intro u hu; simp at hu; rcases hu with rfl | rfl <;> rfl
/-- a place lies in block b -/
def Pl (W : World) (b : Nat) (x y : Int) : Prop := W.cell? ⟨b, 0, none⟩ = some (.int .i64 x) ∧ W.cell? ⟨b, 1, none⟩ = some (.int .i64 y)
theorem Pl.kept {W W' : World} {b : Nat} {x y : Int} (h : Pl W b x y) (hk : Kept W W') : Pl W' b x y := ⟨hk.cell' h.1, hk.cell' h.2⟩
theorem Pl.same {W W' : World} {b : Nat} {x y : Int} (h : Pl W b x y) (hs : W'.heap[b]? = W.heap[b]?) : Pl W' b x y :=
  ⟨(World.cell?_of_block (a := ⟨b, 0, none⟩) hs).trans h.1, (World.cell?_of_block (a := ⟨b, 1, none⟩) hs).trans h.2⟩
theorem Pl.of {W : World} {b : Nat} {x y : Int} (h : W.heap[b]? = some (.cells [Value.int .i64 x, .int .i64 y].toArray 32 (0, 0))) : Pl W b x y := ⟨cell_of_row _ _ 0 _ _ _ h, cell_of_row _ _ 1 _ _ _ h⟩
theorem exec_load_plc {W : World} {a : Act} {o : Oper} (x : Operand) (ho : o.op = .load 32 x) (b : Nat) (hx : a.eval x = .pointer (some ⟨b, 0, none⟩)) (xs : List Value) (hl : xs.length = 2) (hc : Cells W b 0 xs) :
    (execOp a.eval o).run Try.prog W = .ok (.value (.agg xs.toArray)) W := by
  obtain ⟨⟨d, hd1, hd2⟩, hs⟩ := ty_plc
  unfold execOp
  simp only [ho, hx, Instr.loadAt, Instr.sureAddr, Sem.run_bind, Sem.run_pure, Result.andThen_ok, run_loadVar_mid W b 0 32 xs d (rangeAt_of_cells hc) hd1 hd2 (by rw [hs, hl])]
theorem exec_eq_plc {W : World} {a : Act} {o : Oper} (x y : Operand) {t' : TypeId} (ho : o.op = .binOp .eql 32 x y t') (p q r s : Int) (hx : a.eval x = .agg #[.int .i64 p, .int .i64 q]) (hy : a.eval y = .agg #[.int .i64 r, .int .i64 s]) :
    (execOp a.eval o).run Try.prog W = .ok (.value (.bool (p == r && q == s))) W := by
  have heq := run_equal_plc W p q r s
  unfold execOp
  simp only [ho, hx, hy, Sem.run_bind]
  rw [run_eqGuard_agg _ _ _ _ _ _ _ eqg_plc]
  simp only [Result.andThen_ok]
  rw [run_eql_struct]
  simp only [Op.equal, Op.maxDepth, heq, Result.andThen_ok, Sem.run_pure, Sem.run_bind]
section
variable {P : Program} {ops : Array Oper} {rest : List Oper} {o : Oper} {a : Act} {w : World} {Q : Exit → Act → World → Prop}
/-- a parameter of many cells that lies in a block of its own; the world a letter -/
theorem wpList_box_row (hgd : Region.wanted o (yielded ops a.tmps) = true) (T : TypeId) (x : Operand) (ho : o.op = .box T x) (zs : List Value) (hx : a.eval x = .agg zs.toArray)
    (h : ∀ w1, Hid (w1.heap[w.heap.size]? = some (.cells zs.toArray T (0, 0))) → w.heap.size < w1.heap.size → Kept w w1 → wpList P ops Q rest (a.put o.dst (.pointer (some ⟨w.heap.size, 0, none⟩))) w1) : wpList P ops Q (o :: rest) a w := by
  refine BigFrame.wpList_want hgd fun K hK => ?_
  unfold Oper.wp execOp
  simp only [ho, hx, Instr.box, newVar, newRow, Sem.run_bind, Result.andThen_ok, Sem.run_pure, run_newObj_alloc, Value.cells]
  exact hK _ _ (h _ (Lib.hid (heap_alloc_new w _)) (by simp) ((Kept.refl _).alloc _))
end
theorem BankT.inE_zero {T : BankT} {d a : Int} (h : T.inE d a = 0) : ∃ k b : Nat, d = (k : Int) ∧ a = (b : Int) ∧ k < T.l.length ∧ b < (T.d k).sin.length := by
  unfold BankT.inE at h
  by_cases hr : T.readyE d ≠ 0
  · rw [if_pos hr] at h; exact absurd h hr
  · rw [if_neg hr] at h
    obtain ⟨k, rfl, hk⟩ := BankT.readyE_in (by simpa using hr)
    rw [Int.toNat_natCast] at h
    by_cases hb : a < 0 ∨ ((T.d k).sin.length : Int) ≤ a
    · rw [if_pos hb] at h; cases h
    · exact ⟨k, a.toNat, rfl, by omega, hk, by omega⟩
theorem zeroB_byte : zeroB.length = 64 ∧ ∀ x ∈ zeroB, IsByte x := by
  refine ⟨zeroB_length, fun x hx => ?_⟩
  have : x = 0 := List.eq_of_mem_replicate (n := 64) (by rw [show List.replicate 64 (0 : Int) = zeroB by decide]; exact hx)
  rw [this]; unfold IsByte; decide
theorem BankT.read_sec {T : BankT} (h : T.Inv) (d a : Int) : (T.read d a).1.length = 64 ∧ ∀ x ∈ (T.read d a).1, IsByte x := by
  unfold BankT.read
  by_cases hi : T.inE d a = 0
  · obtain ⟨k, b, rfl, rfl, hk, hb⟩ := BankT.inE_zero hi
    rw [if_pos hi, Int.toNat_natCast, Int.toNat_natCast]
    exact (h.ok.d hk).new.at hb
  · rw [if_neg hi]; exact zeroB_byte
section
variable {w0 W : World} {R : Nat → Prop} {q : Nat} {T : BankT}
theorem BK.box {w1 : World} (h : BK w0 R W q T) (hk : Kept W w1) (hs : W.heap.size < w1.heap.size) : BK w0 (fun k => R k ∨ k = W.heap.size) w1 q T := h.more hk _ (Nat.le_refl _) hs
end
end Go.Proofs.Ytkcemkphehocgaa
