/-
  DERIVED. GIVEN WITH THE SEED: THE CARDS: each row of YtpnpconphpbcaaaDoorRows.lean that lists a variable, with what it lists TIED to the program's text (the seventh form; the later family's looks); each row that meets fmt, with fmt's text TOLD by the authors' own Lean function (tested against real Go, not proved from fmt's source: count such statements apart). THE CARD IS WHAT COUNTS. Prove the row's statement (the work); the ties are given (YtpnpconphpbcaaaDoorTie.lean); close each card by the builder's one call (the guide's Derived/Test/ToyasCard.lean, 'card_holds'). Laid BY PROGRAM, IN A SANDBOX (cutbox-door.mjs). By AI agents, Wed Nov 11 2026. No macro, syntax, notation, axiom, sorry.
-/
import Derived.Test.YtpnpconphpbcaaaDoorRows
import GoSem.ClaimSeven
namespace Go.Proofs.YtpnpconphpbcaaaDoor
namespace Rows

/-- THE TIED CARD OF 'braidworklaw06.ExtentCounts'. -/
def extentCountsCard : Claim7 := { stood := { row := extentCountsRow, standIns := [], harness := (true, "0e16bd087cbe1f7823131b2a208e299cfa879bd431f71b29ef96ac8b5614529e"), looks := false }, kinds := [], alts := [], laidByText := true, laidKinds := [.data], laidTests := true, laidLooks := .later }
def ExtentCountsCardSaid : Prop := Claim7.holds Tryd.pinned (.plain (OpenSpec.ofChange extentCountsSpec)) extentCountsCard

/-- THE TIED CARD OF 'braidworklaw06.ExtentLeast'. -/
def extentLeastCard : Claim7 := { stood := { row := extentLeastRow, standIns := [], harness := (true, "0e16bd087cbe1f7823131b2a208e299cfa879bd431f71b29ef96ac8b5614529e"), looks := false }, kinds := [], alts := [], laidByText := true, laidKinds := [.data], laidTests := true, laidLooks := .later }
def ExtentLeastCardSaid : Prop := Claim7.holds Tryd.pinned (.plain (OpenSpec.ofChange extentLeastSpec)) extentLeastCard

/-- THE TIED CARD OF 'braidworklaw06.ExtentWhole'. -/
def extentWholeCard : Claim7 := { stood := { row := extentWholeRow, standIns := [], harness := (true, "0e16bd087cbe1f7823131b2a208e299cfa879bd431f71b29ef96ac8b5614529e"), looks := false }, kinds := [], alts := [], laidByText := true, laidKinds := [.data], laidTests := true, laidLooks := .later }
def ExtentWholeCardSaid : Prop := Claim7.holds Tryd.pinned (.plain (OpenSpec.ofChange extentWholeSpec)) extentWholeCard

/-- THE TIED CARD OF 'braidworklaw06.ExtentBounds'. -/
def extentBoundsCard : Claim7 := { stood := { row := extentBoundsRow, standIns := [], harness := (true, "0e16bd087cbe1f7823131b2a208e299cfa879bd431f71b29ef96ac8b5614529e"), looks := false }, kinds := [], alts := [], laidByText := true, laidKinds := [.data], laidTests := true, laidLooks := .later }
def ExtentBoundsCardSaid : Prop := Claim7.holds Tryd.pinned (.plain (OpenSpec.ofChange extentBoundsSpec)) extentBoundsCard

/-- THE SECOND FORM's CARD OF 'braidworklaw06.ExtentCounts'. -/
def extentCountsUptoCard : Claim7 := { stood := { row := extentCountsUptoRow, standIns := [], harness := (true, "0e16bd087cbe1f7823131b2a208e299cfa879bd431f71b29ef96ac8b5614529e"), looks := false }, kinds := [], alts := [], laidByText := true, laidKinds := [.data], laidTests := true, laidLooks := .later }
def ExtentCountsUptoCardSaid : Prop := Claim7.holds Tryd.pinned (.plain (OpenSpec.upto extentCountsSpec)) extentCountsUptoCard

/-- THE SECOND FORM's CARD OF 'braidworklaw06.ExtentLeast'. -/
def extentLeastUptoCard : Claim7 := { stood := { row := extentLeastUptoRow, standIns := [], harness := (true, "0e16bd087cbe1f7823131b2a208e299cfa879bd431f71b29ef96ac8b5614529e"), looks := false }, kinds := [], alts := [], laidByText := true, laidKinds := [.data], laidTests := true, laidLooks := .later }
def ExtentLeastUptoCardSaid : Prop := Claim7.holds Tryd.pinned (.plain (OpenSpec.upto extentLeastSpec)) extentLeastUptoCard

/-- THE SECOND FORM's CARD OF 'braidworklaw06.ExtentWhole'. -/
def extentWholeUptoCard : Claim7 := { stood := { row := extentWholeUptoRow, standIns := [], harness := (true, "0e16bd087cbe1f7823131b2a208e299cfa879bd431f71b29ef96ac8b5614529e"), looks := false }, kinds := [], alts := [], laidByText := true, laidKinds := [.data], laidTests := true, laidLooks := .later }
def ExtentWholeUptoCardSaid : Prop := Claim7.holds Tryd.pinned (.plain (OpenSpec.upto extentWholeSpec)) extentWholeUptoCard

/-- THE SECOND FORM's CARD OF 'braidworklaw06.ExtentBounds'. -/
def extentBoundsUptoCard : Claim7 := { stood := { row := extentBoundsUptoRow, standIns := [], harness := (true, "0e16bd087cbe1f7823131b2a208e299cfa879bd431f71b29ef96ac8b5614529e"), looks := false }, kinds := [], alts := [], laidByText := true, laidKinds := [.data], laidTests := true, laidLooks := .later }
def ExtentBoundsUptoCardSaid : Prop := Claim7.holds Tryd.pinned (.plain (OpenSpec.upto extentBoundsSpec)) extentBoundsUptoCard
end Rows
end Go.Proofs.YtpnpconphpbcaaaDoor
