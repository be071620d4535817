/- errors.Is at two numbers of api.Errno; mirror.lost. -/
import Derived.Test.YtglplhmclfekfaaGreatEA
import Derived.LaidEql
import Derived.Stop.Asserts
import Derived.RowKitTokens
import Derived.Lib.IfaceEq
namespace Go.Proofs.YtglplhmclfekfaaGreat
open Go.RowKit Go.Extern.Stop Go.Stop Go.Extern
set_option linter.unusedVariables false
set_option linter.unusedSimpArgs false

def cmpE (t : TypeId) : Sem Value := do
  Go.Extern.Rtype.noPackHeld "Comparable" t
  pure (.bool (← typeInfo t).comparable)
--
theorem isComparableE (w : World) : ((Extern.ReflectliteType.method cmpE) #[.agg #[.pointer (some ⟨0, 29, none⟩)]]).run Tryz.prog w = .ok (.bool true) w := by kernel_rfl
--
theorem isCompE : (Tryz.prog.info? 29).map (·.comparable) = some true := by kernel_rfl
--
--
--
--
--
set_option maxHeartbeats 1000000
set_option maxRecDepth 100000
--
--
--
--
--
--
--
--
--
--
--
--
--
--
--
--
--
--
--
--
--
/-- an answer that says that a copy is lost -/
def lostB (e : Int) : Bool := e == 8 || e == 7
--
--
--
--
--
--
--
--
--
--
--
--
--
--
--
--
--
--
--
--
--
--
--
--
--
--
--
end Go.Proofs.YtglplhmclfekfaaGreat
