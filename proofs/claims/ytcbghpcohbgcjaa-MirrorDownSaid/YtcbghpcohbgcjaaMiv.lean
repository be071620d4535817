/- Rules for a drawn region: one that may not come up; sectors compared. -/
import Derived.Test.YtcbghpcohbgcjaaDlw
namespace Go.Proofs.Ytcbghpcohbgcjaa
open Go.RowKit
set_option linter.unusedVariables false
set_option linter.unusedSimpArgs false

section
variable {P : Program} {ops : Array Oper} {Q : Exit → Act → World → Prop} {md : Region.Mode} {S : World → Prop} {s : Nat}
/-- Just one may come up, and its guard says no. -/
theorem wpAnyE_none {i : Nat} {oi : Oper} {fuel : Nat} {listed listed' : Array Bool} {a : Act} {w : World} (hi : ops[i]? = some oi) (hr : Region.ready md ops listed = [i]) (hl : listed.setIfInBounds i true = listed')
    (hw : Region.wanted oi (yielded ops a.tmps) = false) (hS : i ≠ s → S w) (h : wpAnyE P md ops Q S s fuel listed' (a.put oi.dst undef) w) : wpAnyE P md ops Q S s (fuel + 1) listed a w := by
  subst hl
  refine ⟨fun h0 => (by rw [h0] at hr; cases hr), fun j hj => ?_⟩
  rw [hr] at hj
  obtain rfl : j = i := by simpa using hj
  unfold wpOp
  simp only [hi, hw, Bool.false_eq_true, if_false]
  exact ⟨hS, h⟩
end
theorem exec_neq_secB {W : World} {a : Act} {o : Oper} (x y : Operand) {t' : TypeId} (ho : o.op = .binOp .neq 36 x y t') (xs ys : List Int) (hxl : xs.length = 64) (hyl : ys.length = 64) (b : Bool) (hb : (!(xs == ys)) = b) (hx : a.eval x = .agg (u8s xs).toArray) (hy : a.eval y = .agg (u8s ys).toArray) :
    (execOp a.eval o).run Try.prog W = .ok (.value (.bool b)) W := by
  have heq := run_equal_secA xs ys hxl hyl W
  unfold execOp
  simp only [ho, hx, hy, Sem.run_bind]
  rw [run_eqGuard_agg _ _ _ _ _ _ _ eqg_sec]
  simp only [Result.andThen_ok]
  rw [run_neq_struct, heq]
  simp only [Result.andThen_ok, Sem.run_pure, hb]
theorem exec_eq_secB {W : World} {a : Act} {o : Oper} (x y : Operand) {t' : TypeId} (ho : o.op = .binOp .eql 36 x y t') (xs ys : List Int) (hxl : xs.length = 64) (hyl : ys.length = 64) (b : Bool) (hb : (xs == ys) = b) (hx : a.eval x = .agg (u8s xs).toArray) (hy : a.eval y = .agg (u8s ys).toArray) :
    (execOp a.eval o).run Try.prog W = .ok (.value (.bool b)) W := by
  have heq := run_equal_secA xs ys hxl hyl W
  unfold execOp
  simp only [ho, hx, hy, Sem.run_bind]
  rw [run_eqGuard_agg _ _ _ _ _ _ _ eqg_sec]
  simp only [Result.andThen_ok]
  rw [run_eql_struct, heq]
  simp only [Result.andThen_ok, Sem.run_pure, hb]
end Go.Proofs.Ytcbghpcohbgcjaa
