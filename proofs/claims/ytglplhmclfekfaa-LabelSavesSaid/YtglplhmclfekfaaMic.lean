/- errors.Is at two numbers of api.Errno; mirror.lost. -/
import Derived.Test.YtglplhmclfekfaaEA
import Derived.LaidEql
import Derived.Stop.Asserts
import Derived.RowKitTokens
import Derived.Lib.IfaceEq
namespace Go.Proofs.Ytglplhmclfekfaa
open Go.RowKit Go.Extern.Stop Go.Stop Go.Extern
set_option linter.unusedVariables false
set_option linter.unusedSimpArgs false

def cmpE (t : TypeId) : Sem Value := do
  Go.Extern.Rtype.noPackHeld "Comparable" t
  pure (.bool (← typeInfo t).comparable)
theorem isTypeOfE (v : Value) (w : World) : (Extern.ReflectliteType.typeOf #[.iface 27 v]).run Try.prog w = .ok (.iface 233 (.agg #[.pointer (some ⟨0, 27, none⟩)])) w := by kernel_rfl
theorem isComparableE (w : World) : ((Extern.ReflectliteType.method cmpE) #[.agg #[.pointer (some ⟨0, 27, none⟩)]]).run Try.prog w = .ok (.bool true) w := by kernel_rfl
theorem isMethodE (n : Nat) (v : Value) (w : World) : (Go.method (n + 1) 233 v "Comparable").run Try.prog w = .ok (209, v) w := by kernel_rfl
theorem isCompE : (Try.prog.info? 27).map (·.comparable) = some true := by kernel_rfl
theorem noIsE (v : Value) (xT : TypeId) (w : World) : (Instr.typeAssert (.iface 27 v) xT 235 true).run Try.prog w = .ok (.tuple #[.nilIface, .bool false]) w := run_typeAssert_lacksB Try.underlying235 (by kernel_rfl) (by kernel_rfl) v xT w
theorem noUnwrapE (v : Value) (xT : TypeId) (w : World) : (Instr.typeAssert (.iface 27 v) xT 238 true).run Try.prog w = .ok (.tuple #[.nilIface, .bool false]) w := run_typeAssert_lacksB Try.underlying238 (by kernel_rfl) (by kernel_rfl) v xT w
theorem noUnwrapsE (v : Value) (xT : TypeId) (w : World) : (Instr.typeAssert (.iface 27 v) xT 240 true).run Try.prog w = .ok (.tuple #[.nilIface, .bool false]) w := run_typeAssert_lacksB Try.underlying240 (by kernel_rfl) (by kernel_rfl) v xT w
theorem eqlE (a b : Int) (w : World) : (binOp .eql 222 (.iface 27 (.int .i64 a)) (.iface 27 (.int .i64 b))).run Try.prog w = .ok (.bool (a == b)) w :=
  Go.Lib.run_eql_iface_int w a b Try.underlying222 isCompE Try.underlying27
set_option maxHeartbeats 1000000
set_option maxRecDepth 100000
theorem errors_Is (a b : Int) (w : World) : Calls Try.prog 163 #[.iface 27 (.int .i64 a), .iface 27 (.int .i64 b)] w fun e w' => e = .returned (.bool (a == b)) ∧ w = w' := by
  have h8 := @run_callFunc_extern Try.prog 181 _ Extern.ReflectliteType.typeOf Try.func181 (by kernel_rfl) (by kernel_rfl) (by kernel_rfl) (by kernel_rfl)
  have h32 := @run_callFunc_extern Try.prog 209 _ (Extern.ReflectliteType.method cmpE) Try.func209 (by kernel_rfl) (by kernel_rfl) (by kernel_rfl) (by kernel_rfl)
  have tT := isTypeOfE
  have cT := isComparableE
  have mR := isMethodE
  have nE := noIsE
  have uE := noUnwrapE
  have vE := noUnwrapsE
  have hab : (a == b) = true ∨ (a == b) = false := by cases (a == b) <;> simp
  rcases hab with hab | hab
  all_goals
    have heq := eqlE a b w
    rw [hab] at heq ⊢
    go_enter Try.func163, Try.ntmps163
    go_wp2
    refine wp_loop_rounds 1 ?_
    rw [rounds_succ]
    go_wp2
    go_ret
    exact ⟨rfl, rfl⟩
/-- an answer that says that a copy is lost -/
def lostB (e : Int) : Bool := e == 8 || e == 7
theorem mirror_lost (e : Int) (w : World) : Calls Try.prog 136 #[.int .i64 e] w fun e' w' => e' = .returned (.bool (lostB e)) ∧ w = w' := by
  have h1 := errors_Is e 8 w
  have h2 := errors_Is e 7 w
  unfold lostB
  have hab : (e == 8) = true ∨ (e == 8) = false := by cases (e == 8) <;> simp
  rcases hab with hab | hab
  · rw [hab] at h1 ⊢
    have H1 := Lib.hid h1; clear h1 h2
    go_enter Try.func136, Try.ntmps136
    go_wp2_with fail
    refine Calls.mono H1.out ?_
    rintro e w' ⟨rfl, rfl⟩
    go_wp2
    go_ret
    exact ⟨rfl, rfl⟩
  · rw [hab] at h1 ⊢
    have H1 := Lib.hid h1; have H2 := Lib.hid h2; clear h1 h2
    go_enter Try.func136, Try.ntmps136
    go_wp2_with fail
    refine Calls.mono H1.out ?_
    rintro e w' ⟨rfl, rfl⟩
    go_wp2_with fail
    refine Calls.mono H2.out ?_
    rintro e w' ⟨rfl, rfl⟩
    go_wp2
    go_ret
    exact ⟨rfl, rfl⟩
end Go.Proofs.Ytglplhmclfekfaa
