/- Noughts are a sector. -/
import Derived.Test.YtpeclkhppgabfaaDoorPaM
import Derived.Test.YtpeclkhppgabfaaDoorPaI
namespace Go.Proofs.YtpeclkhppgabfaaDoor
theorem zeroB_secZ : SecB zeroB := ⟨zeroB_byte.1, zeroB_byte.2⟩
end Go.Proofs.YtpeclkhppgabfaaDoor
