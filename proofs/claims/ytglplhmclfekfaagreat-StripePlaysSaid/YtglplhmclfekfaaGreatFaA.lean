/- FaA: several texts in one: Mia Mja Mid Mie Mij Mif. -/
import Derived.Test.YtglplhmclfekfaaGreatLiv
import Derived.Test.YtglplhmclfekfaaGreatMic
import Derived.Test.YtglplhmclfekfaaGreatDlh
import Derived.Test.YtglplhmclfekfaaGreatDlw
import Derived.Test.YtglplhmclfekfaaGreatDlv
import Derived.ScopeJumps
import Derived.WalkMore
/- What the mirror makes of a bank, in plain Lean. -/
namespace Go.Proofs.YtglplhmclfekfaaGreat
open Go.RowKit
set_option linter.unusedVariables false
set_option linter.unusedSimpArgs false


/-- what mirror.Write does -/
def BankT.mWrite (T : BankT) (x0 x1 y0 y1 : Int) (s : List Int) : BankT × Int :=
  if (T.write x0 x1 s).2 ≠ 0 ∧ lostB (T.write x0 x1 s).2 = false then T.write x0 x1 s
  else if ((T.write x0 x1 s).1.write y0 y1 s).2 ≠ 0 ∧ lostB ((T.write x0 x1 s).1.write y0 y1 s).2 = false then (T.write x0 x1 s).1.write y0 y1 s
  else (((T.write x0 x1 s).1.write y0 y1 s).1, if (T.write x0 x1 s).2 = 0 ∨ ((T.write x0 x1 s).1.write y0 y1 s).2 = 0 then 0 else 5)
/-- what mirror.Read tells -/
def BankT.mRead (T : BankT) (x0 x1 y0 y1 : Int) : List Int × Int :=
  if lostB (T.read x0 x1).2 then (if lostB (T.read y0 y1).2 then ((T.read y0 y1).1, 5) else T.read y0 y1) else T.read x0 x1
/-- what mirror.Alike does -/
def BankT.mAlike (T : BankT) (x0 x1 y0 y1 : Int) : BankT × Bool × Int :=
  if (T.read x0 x1).2 ≠ 0 ∧ lostB (T.read x0 x1).2 = false then (T, false, (T.read x0 x1).2)
  else if (T.read y0 y1).2 ≠ 0 ∧ lostB (T.read y0 y1).2 = false then (T, false, (T.read y0 y1).2)
  else if (T.read x0 x1).2 ≠ 0 ∧ (T.read y0 y1).2 ≠ 0 then (T, false, 5)
  else if (T.read x0 x1).2 ≠ 0 ∨ (T.read y0 y1).2 ≠ 0 ∨ (T.read x0 x1).1 = (T.read y0 y1).1 then (T, false, 0)
  else if lostB (T.write y0 y1 (T.read x0 x1).1).2 then ((T.write y0 y1 (T.read x0 x1).1).1, false, 0)
  else ((T.write y0 y1 (T.read x0 x1).1).1, (T.write y0 y1 (T.read x0 x1).1).2 == 0, (T.write y0 y1 (T.read x0 x1).1).2)
/-- what mirror.Copy does -/
def BankT.mCopy (T : BankT) (x0 x1 y0 y1 : Int) : BankT × Int :=
  if (T.read x0 x1).2 ≠ 0 then (T, (T.read x0 x1).2) else T.write y0 y1 (T.read x0 x1).1
end Go.Proofs.YtglplhmclfekfaaGreat
/- A place in memory: rules. -/
namespace Go.Proofs.YtglplhmclfekfaaGreat
open Go.RowKit
set_option linter.unusedVariables false
set_option linter.unusedSimpArgs false

theorem one_plc (x y : Int) : ∀ u ∈ [Value.int .i64 x, .int .i64 y], u.oneCell' = true := by intro u hu; simp at hu; rcases hu with rfl | rfl <;> rfl
/-- a place lies in block b -/
def Pl (W : World) (b : Nat) (x y : Int) : Prop := W.cell? ⟨b, 0, none⟩ = some (.int .i64 x) ∧ W.cell? ⟨b, 1, none⟩ = some (.int .i64 y)
theorem Pl.kept {W W' : World} {b : Nat} {x y : Int} (h : Pl W b x y) (hk : Kept W W') : Pl W' b x y := ⟨hk.cell' h.1, hk.cell' h.2⟩
theorem Pl.same {W W' : World} {b : Nat} {x y : Int} (h : Pl W b x y) (hs : W'.heap[b]? = W.heap[b]?) : Pl W' b x y :=
  ⟨(World.cell?_of_block (a := ⟨b, 0, none⟩) hs).trans h.1, (World.cell?_of_block (a := ⟨b, 1, none⟩) hs).trans h.2⟩
theorem Pl.of {W : World} {b : Nat} {x y : Int} (h : W.heap[b]? = some (.cells [Value.int .i64 x, .int .i64 y].toArray 47 (0, 0))) : Pl W b x y := ⟨cell_of_row _ _ 0 _ _ _ h, cell_of_row _ _ 1 _ _ _ h⟩
theorem exec_load_plc {W : World} {a : Act} {o : Oper} (x : Operand) (ho : o.op = .load 47 x) (b : Nat) (hx : a.eval x = .pointer (some ⟨b, 0, none⟩)) (xs : List Value) (hl : xs.length = 2) (hc : Cells W b 0 xs) :
    (execOp a.eval o).run Tryz.prog W = .ok (.value (.agg xs.toArray)) W := by
  obtain ⟨⟨d, hd1, hd2⟩, hs⟩ := ty_plc
  unfold execOp
  simp only [ho, hx, Instr.loadAt, Instr.sureAddr, Sem.run_bind, Sem.run_pure, Result.andThen_ok, run_loadVar_mid W b 0 47 xs d (rangeAt_of_cells hc) hd1 hd2 (by rw [hs, hl])]
theorem exec_eq_plc {W : World} {a : Act} {o : Oper} (x y : Operand) {t' : TypeId} (ho : o.op = .binOp .eql 47 x y t') (p q r s : Int) (hx : a.eval x = .agg #[.int .i64 p, .int .i64 q]) (hy : a.eval y = .agg #[.int .i64 r, .int .i64 s]) :
    (execOp a.eval o).run Tryz.prog W = .ok (.value (.bool (p == r && q == s))) W := by
  have heq := run_equal_plc W p q r s
  unfold execOp
  simp only [ho, hx, hy, Sem.run_bind]
  rw [run_eqGuard_agg _ _ _ _ _ _ _ eqg_plc]
  simp only [Result.andThen_ok]
  rw [run_eql_struct]
  simp only [Op.equal, Op.maxDepth, heq, Result.andThen_ok, Sem.run_pure, Sem.run_bind]
section
variable {P : Program} {ops : Array Oper} {rest : List Oper} {o : Oper} {a : Act} {w : World} {Q : Exit → Act → World → Prop}
/-- a parameter of many cells that lies in a block of its own; the world a letter -/
theorem wpList_box_row (hgd : Region.wanted o (yielded ops a.tmps) = true) (T : TypeId) (x : Operand) (ho : o.op = .box T x) (zs : List Value) (hx : a.eval x = .agg zs.toArray)
    (h : ∀ w1, Hid (w1.heap[w.heap.size]? = some (.cells zs.toArray T (0, 0))) → w.heap.size < w1.heap.size → Kept w w1 → wpList P ops Q rest (a.put o.dst (.pointer (some ⟨w.heap.size, 0, none⟩))) w1) : wpList P ops Q (o :: rest) a w := by
  refine BigFrame.wpList_want hgd fun K hK => ?_
  unfold Oper.wp execOp
  simp only [ho, hx, Instr.box, newVar, newRow, Sem.run_bind, Result.andThen_ok, Sem.run_pure, run_newObj_alloc, Value.cells]
  exact hK _ _ (h _ (Lib.hid (heap_alloc_new w _)) (by simp) ((Kept.refl _).alloc _))
end
theorem BankT.inE_zero {T : BankT} {d a : Int} (h : T.inE d a = 0) : ∃ k b : Nat, d = (k : Int) ∧ a = (b : Int) ∧ k < T.l.length ∧ b < (T.d k).sin.length := by
  unfold BankT.inE at h
  by_cases hr : T.readyE d ≠ 0
  · rw [if_pos hr] at h; exact absurd h hr
  · rw [if_neg hr] at h
    obtain ⟨k, rfl, hk⟩ := BankT.readyE_in (by simpa using hr)
    rw [Int.toNat_natCast] at h
    by_cases hb : a < 0 ∨ ((T.d k).sin.length : Int) ≤ a
    · rw [if_pos hb] at h; cases h
    · exact ⟨k, a.toNat, rfl, by omega, hk, by omega⟩
theorem zeroB_byte : zeroB.length = 64 ∧ ∀ x ∈ zeroB, IsByte x := by
  refine ⟨zeroB_length, fun x hx => ?_⟩
  have : x = 0 := List.eq_of_mem_replicate (n := 64) (by rw [show List.replicate 64 (0 : Int) = zeroB by decide]; exact hx)
  rw [this]; unfold IsByte; decide
theorem BankT.read_sec {T : BankT} (h : T.Inv) (d a : Int) : (T.read d a).1.length = 64 ∧ ∀ x ∈ (T.read d a).1, IsByte x := by
  unfold BankT.read
  by_cases hi : T.inE d a = 0
  · obtain ⟨k, b, rfl, rfl, hk, hb⟩ := BankT.inE_zero hi
    rw [if_pos hi, Int.toNat_natCast, Int.toNat_natCast]
    exact (h.ok.d hk).new.at hb
  · rw [if_neg hi]; exact zeroB_byte
section
variable {w0 W : World} {R : Nat → Prop} {q : Nat} {T : BankT}
theorem BK.box {w1 : World} (h : BK w0 R W q T) (hk : Kept W w1) (hs : W.heap.size < w1.heap.size) : BK w0 (fun k => R k ∨ k = W.heap.size) w1 q T := h.more hk _ (Nat.le_refl _) hs
end
end Go.Proofs.YtglplhmclfekfaaGreat
/- mirror: Copy and Read on a law's bank. -/
namespace Go.Proofs.YtglplhmclfekfaaGreat
open Go.RowKit
set_option linter.unusedVariables false
set_option linter.unusedSimpArgs false

section
variable {w0 W : World} {R : Nat → Prop} {q : Nat} {T : BankT}
set_option maxHeartbeats 2000000
set_option maxRecDepth 100000
--
--
--
--
--
--
--
--
--
--
--
--
--
--
--
--
--
--
--
--
--
--
--
--
--
--
--
--
--
--
--
--
--
--
--
--
--
--
--
--
--
--
--
--
--
--
--
--
--
--
--
--
--
--
--
--
--
--
--
--
--
--
--
--
--
--
--
--
--
--
--
--
--
--
--
--
--
--
--
--
--
--
--
--
--
--
--
--
--
--
--
--
--
--
--
--
--
--
--
--
--
--
--
--
--
--
--
--
--
--
--
--
--
--
--
--
--
--
--
--
--
--
--
--
--
--
--
--
--
--
--
--
--
--
--
--
--
--
--
--
--
--
--
--
--
--
--
--
--
--
--
--
--
--
--
--
--
--
--
--
--
--
--
--
--
--
--
--
--
--
--
--
--
--
--
--
--
--
--
--
--
--
--
--
--
--
--
--
--
--
--
--
--
--
--
--
--
--
--
--
--
--
--
--
--
--
--
--
--
--
--
--
--
--
--
--
end
end Go.Proofs.YtglplhmclfekfaaGreat
/- mirror: Write on a law's bank. -/
namespace Go.Proofs.YtglplhmclfekfaaGreat
open Go.RowKit
set_option linter.unusedVariables false
set_option linter.unusedSimpArgs false

section
variable {w0 W : World} {R : Nat → Prop} {q : Nat} {T : BankT}
set_option maxHeartbeats 2000000
set_option maxRecDepth 100000
--
--
--
--
--
--
--
--
--
--
--
--
--
--
--
--
--
--
--
--
--
--
--
--
--
--
--
--
--
--
--
--
--
--
--
--
--
--
--
--
--
--
--
--
--
--
--
--
--
--
--
--
--
--
--
--
--
--
--
--
--
--
--
--
--
--
--
--
--
--
--
--
--
--
--
--
--
--
--
--
--
--
--
--
--
--
--
--
--
--
--
--
--
--
--
--
--
--
--
--
--
--
--
--
--
--
--
--
--
--
--
--
--
--
--
--
--
--
--
--
--
--
--
--
--
--
--
--
--
--
--
--
--
--
--
--
--
--
--
--
--
--
--
--
--
--
--
--
--
--
--
--
--
--
--
--
--
--
--
--
--
--
--
--
--
--
--
--
--
--
--
--
--
--
--
--
--
--
--
--
end
end Go.Proofs.YtglplhmclfekfaaGreat
/- mirror: Alike on a law's bank. -/
namespace Go.Proofs.YtglplhmclfekfaaGreat
open Go.RowKit
set_option linter.unusedVariables false
set_option linter.unusedSimpArgs false

section
variable {w0 W : World} {R : Nat → Prop} {q : Nat} {T : BankT}
set_option maxHeartbeats 2000000
set_option maxRecDepth 100000
--
--
--
--
--
--
--
--
--
--
--
--
--
--
--
--
--
--
--
--
--
--
--
--
--
--
--
--
--
--
--
--
--
--
--
--
--
--
--
--
--
--
--
--
--
--
--
--
--
--
--
--
--
--
--
--
--
--
--
--
--
--
--
--
--
--
--
--
--
--
--
--
--
--
--
--
--
--
--
--
--
--
--
--
--
--
--
--
--
--
--
--
--
--
--
--
--
--
--
--
--
--
--
--
--
--
--
--
--
--
--
--
--
--
--
--
--
--
--
--
--
--
--
--
--
--
--
--
--
--
--
--
--
--
--
--
--
--
--
--
--
--
--
--
--
--
--
--
--
--
--
--
--
--
--
--
--
--
--
--
--
--
--
--
--
--
--
--
--
--
--
--
--
--
--
--
--
--
--
--
--
--
--
--
--
--
--
--
--
--
--
--
--
--
--
--
--
--
--
--
--
--
--
--
--
--
--
--
--
--
--
--
--
--
--
--
--
--
--
--
--
--
--
--
--
--
--
--
--
--
--
--
--
--
--
--
--
--
--
end
end Go.Proofs.YtglplhmclfekfaaGreat
/- law12: sector, laid. -/
namespace Go.Proofs.YtglplhmclfekfaaGreat
open Go.RowKit
set_option linter.unusedVariables false
set_option linter.unusedSimpArgs false

section
variable {w : World}
set_option maxHeartbeats 1000000
set_option maxRecDepth 100000
--
--
--
--
--
--
--
--
--
--
--
--
--
--
--
--
--
--
--
--
--
--
--
--
--
--
--
--
--
--
--
--
--
--
--
--
--
--
--
--
--
--
--
--
--
--
--
--
--
end
end Go.Proofs.YtglplhmclfekfaaGreat
