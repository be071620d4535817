/-
  DERIVED. GIVEN WITH THE SEED: THE CARDS: each row of YtglplhmclfekfaaDoorRows.lean that lists a variable, with what it lists TIED to the program's text (the seventh form; the later family's looks); each row that meets fmt, with fmt's text TOLD by the authors' own Lean function (tested against real Go, not proved from fmt's source: count such statements apart). THE CARD IS WHAT COUNTS. Prove the row's statement (the work); the ties are given (YtglplhmclfekfaaDoorTie.lean); close each card by the builder's one call (the guide's Derived/Test/ToyasCard.lean, 'card_holds'). Laid BY PROGRAM, IN A SANDBOX (cutbox-door.mjs). By AI agents, Wed Nov 11 2026. No macro, syntax, notation, axiom, sorry.
-/
import Derived.Test.YtglplhmclfekfaaDoorRows
import GoSem.ClaimSeven
namespace Go.Proofs.YtglplhmclfekfaaDoor
namespace Rows

/-- THE TIED CARD OF 'braidworklaw06.ExtentApart'. -/
def extentApartCard : Claim7 := { stood := { row := extentApartRow, standIns := [], harness := (true, "5a725c130bf51c59c1531926db4bbbc875445110d06352b9deabe17cf640ab9e"), looks := false }, kinds := [], alts := [], laidByText := true, laidKinds := [.data], laidTests := true, laidLooks := .later }
def ExtentApartCardSaid : Prop := Claim7.holds Tryd.pinned (.plain (OpenSpec.ofChange extentApartSpec)) extentApartCard

/-- THE TIED CARD OF 'braidworklaw06.ExtentPlays'. -/
def extentPlaysCard : Claim7 := { stood := { row := extentPlaysRow, standIns := [], harness := (true, "5a725c130bf51c59c1531926db4bbbc875445110d06352b9deabe17cf640ab9e"), looks := false }, kinds := [], alts := [], laidByText := true, laidKinds := [.data], laidTests := true, laidLooks := .later }
def ExtentPlaysCardSaid : Prop := Claim7.holds Tryd.pinned (.plain (OpenSpec.ofChange extentPlaysSpec)) extentPlaysCard

/-- THE SECOND FORM's CARD OF 'braidworklaw06.ExtentApart'. -/
def extentApartUptoCard : Claim7 := { stood := { row := extentApartUptoRow, standIns := [], harness := (true, "5a725c130bf51c59c1531926db4bbbc875445110d06352b9deabe17cf640ab9e"), looks := false }, kinds := [], alts := [], laidByText := true, laidKinds := [.data], laidTests := true, laidLooks := .later }
def ExtentApartUptoCardSaid : Prop := Claim7.holds Tryd.pinned (.plain (OpenSpec.upto extentApartSpec)) extentApartUptoCard

/-- THE SECOND FORM's CARD OF 'braidworklaw06.ExtentPlays'. -/
def extentPlaysUptoCard : Claim7 := { stood := { row := extentPlaysUptoRow, standIns := [], harness := (true, "5a725c130bf51c59c1531926db4bbbc875445110d06352b9deabe17cf640ab9e"), looks := false }, kinds := [], alts := [], laidByText := true, laidKinds := [.data], laidTests := true, laidLooks := .later }
def ExtentPlaysUptoCardSaid : Prop := Claim7.holds Tryd.pinned (.plain (OpenSpec.upto extentPlaysSpec)) extentPlaysUptoCard
end Rows
end Go.Proofs.YtglplhmclfekfaaDoor
