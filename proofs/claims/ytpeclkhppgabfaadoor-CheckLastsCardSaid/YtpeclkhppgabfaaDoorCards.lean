/-
  DERIVED. GIVEN WITH THE SEED: THE CARDS: each row of YtpeclkhppgabfaaDoorRows.lean that lists a variable, with what it lists TIED to the program's text (the seventh form; the later family's looks); each row that meets fmt, with fmt's text TOLD by the authors' own Lean function (tested against real Go, not proved from fmt's source: count such statements apart). THE CARD IS WHAT COUNTS. Prove the row's statement (the work); the ties are given (YtpeclkhppgabfaaDoorTie.lean); close each card by the builder's one call (the guide's Derived/Test/ToyasCard.lean, 'card_holds'). Laid BY PROGRAM, IN A SANDBOX (cutbox-door.mjs). By AI agents, Wed Nov 11 2026. No macro, syntax, notation, axiom, sorry.
-/
import Derived.Test.YtpeclkhppgabfaaDoorRows
import GoSem.ClaimSeven
namespace Go.Proofs.YtpeclkhppgabfaaDoor
namespace Rows

/-- THE TIED CARD OF 'braidworklaw10.CheckSizes'. -/
def checkSizesCard : Claim7 := { stood := { row := checkSizesRow, standIns := [], harness := (true, "ff338382274df95fa8732897f3e4fd25986465669a8caf6d413a5de24045372d"), looks := false }, kinds := [], alts := [], laidByText := true, laidKinds := [.sentinel], laidTests := true, laidLooks := .later }
def CheckSizesCardSaid : Prop := Claim7.holds Tryd.pinned (.plain (OpenSpec.ofChange checkSizesSpec)) checkSizesCard

/-- THE TIED CARD OF 'braidworklaw10.CheckNewest'. -/
def checkNewestCard : Claim7 := { stood := { row := checkNewestRow, standIns := [], harness := (true, "ff338382274df95fa8732897f3e4fd25986465669a8caf6d413a5de24045372d"), looks := false }, kinds := [], alts := [], laidByText := true, laidKinds := [.sentinel], laidTests := true, laidLooks := .later }
def CheckNewestCardSaid : Prop := Claim7.holds Tryd.pinned (.plain (OpenSpec.ofChange checkNewestSpec)) checkNewestCard

/-- THE TIED CARD OF 'braidworklaw10.CheckTorn'. -/
def checkTornCard : Claim7 := { stood := { row := checkTornRow, standIns := [], harness := (true, "ff338382274df95fa8732897f3e4fd25986465669a8caf6d413a5de24045372d"), looks := false }, kinds := [], alts := [], laidByText := true, laidKinds := [.sentinel], laidTests := true, laidLooks := .later }
def CheckTornCardSaid : Prop := Claim7.holds Tryd.pinned (.plain (OpenSpec.ofChange checkTornSpec)) checkTornCard

/-- THE TIED CARD OF 'braidworklaw10.CheckLasts'. -/
def checkLastsCard : Claim7 := { stood := { row := checkLastsRow, standIns := [], harness := (true, "ff338382274df95fa8732897f3e4fd25986465669a8caf6d413a5de24045372d"), looks := false }, kinds := [], alts := [], laidByText := true, laidKinds := [.sentinel], laidTests := true, laidLooks := .later }
def CheckLastsCardSaid : Prop := Claim7.holds Tryd.pinned (.plain (OpenSpec.ofChange checkLastsSpec)) checkLastsCard

/-- THE TIED CARD OF 'braidworklaw09.MetalogFull'. -/
def metalogFullCard : Claim7 := { stood := { row := metalogFullRow, standIns := [], harness := (true, "ff338382274df95fa8732897f3e4fd25986465669a8caf6d413a5de24045372d"), looks := false }, kinds := [], alts := [], laidByText := true, laidKinds := [.sentinel], laidTests := true, laidLooks := .later }
def MetalogFullCardSaid : Prop := Claim7.holds Tryd.pinned (.plain (OpenSpec.ofChange metalogFullSpec)) metalogFullCard

/-- THE TIED CARD OF 'braidworklaw09.MetalogOlder'. -/
def metalogOlderCard : Claim7 := { stood := { row := metalogOlderRow, standIns := [], harness := (true, "ff338382274df95fa8732897f3e4fd25986465669a8caf6d413a5de24045372d"), looks := false }, kinds := [], alts := [], laidByText := true, laidKinds := [.sentinel], laidTests := true, laidLooks := .later }
def MetalogOlderCardSaid : Prop := Claim7.holds Tryd.pinned (.plain (OpenSpec.ofChange metalogOlderSpec)) metalogOlderCard

/-- THE TIED CARD OF 'braidworklaw09.MetalogAny'. -/
def metalogAnyCard : Claim7 := { stood := { row := metalogAnyRow, standIns := [], harness := (true, "ff338382274df95fa8732897f3e4fd25986465669a8caf6d413a5de24045372d"), looks := false }, kinds := [], alts := [], laidByText := true, laidKinds := [.sentinel], laidTests := true, laidLooks := .later }
def MetalogAnyCardSaid : Prop := Claim7.holds Tryd.pinned (.plain (OpenSpec.ofChange metalogAnySpec)) metalogAnyCard

/-- THE TIED CARD OF 'braidworklaw09.MetalogDead'. -/
def metalogDeadCard : Claim7 := { stood := { row := metalogDeadRow, standIns := [], harness := (true, "ff338382274df95fa8732897f3e4fd25986465669a8caf6d413a5de24045372d"), looks := false }, kinds := [], alts := [], laidByText := true, laidKinds := [.sentinel], laidTests := true, laidLooks := .later }
def MetalogDeadCardSaid : Prop := Claim7.holds Tryd.pinned (.plain (OpenSpec.ofChange metalogDeadSpec)) metalogDeadCard

/-- THE TIED CARD OF 'braidworklaw09.MetalogTorn'. -/
def metalogTornCard : Claim7 := { stood := { row := metalogTornRow, standIns := [], harness := (true, "ff338382274df95fa8732897f3e4fd25986465669a8caf6d413a5de24045372d"), looks := false }, kinds := [], alts := [], laidByText := true, laidKinds := [.sentinel], laidTests := true, laidLooks := .later }
def MetalogTornCardSaid : Prop := Claim7.holds Tryd.pinned (.plain (OpenSpec.ofChange metalogTornSpec)) metalogTornCard

/-- THE TIED CARD OF 'braidworklaw09.MetalogLasts'. -/
def metalogLastsCard : Claim7 := { stood := { row := metalogLastsRow, standIns := [], harness := (true, "ff338382274df95fa8732897f3e4fd25986465669a8caf6d413a5de24045372d"), looks := false }, kinds := [], alts := [], laidByText := true, laidKinds := [.sentinel], laidTests := true, laidLooks := .later }
def MetalogLastsCardSaid : Prop := Claim7.holds Tryd.pinned (.plain (OpenSpec.ofChange metalogLastsSpec)) metalogLastsCard

/-- THE SECOND FORM's CARD OF 'braidworklaw10.CheckSizes'. -/
def checkSizesUptoCard : Claim7 := { stood := { row := checkSizesUptoRow, standIns := [], harness := (true, "ff338382274df95fa8732897f3e4fd25986465669a8caf6d413a5de24045372d"), looks := false }, kinds := [], alts := [], laidByText := true, laidKinds := [.sentinel], laidTests := true, laidLooks := .later }
def CheckSizesUptoCardSaid : Prop := Claim7.holds Tryd.pinned (.plain (OpenSpec.upto checkSizesSpec)) checkSizesUptoCard

/-- THE SECOND FORM's CARD OF 'braidworklaw10.CheckNewest'. -/
def checkNewestUptoCard : Claim7 := { stood := { row := checkNewestUptoRow, standIns := [], harness := (true, "ff338382274df95fa8732897f3e4fd25986465669a8caf6d413a5de24045372d"), looks := false }, kinds := [], alts := [], laidByText := true, laidKinds := [.sentinel], laidTests := true, laidLooks := .later }
def CheckNewestUptoCardSaid : Prop := Claim7.holds Tryd.pinned (.plain (OpenSpec.upto checkNewestSpec)) checkNewestUptoCard

/-- THE SECOND FORM's CARD OF 'braidworklaw10.CheckTorn'. -/
def checkTornUptoCard : Claim7 := { stood := { row := checkTornUptoRow, standIns := [], harness := (true, "ff338382274df95fa8732897f3e4fd25986465669a8caf6d413a5de24045372d"), looks := false }, kinds := [], alts := [], laidByText := true, laidKinds := [.sentinel], laidTests := true, laidLooks := .later }
def CheckTornUptoCardSaid : Prop := Claim7.holds Tryd.pinned (.plain (OpenSpec.upto checkTornSpec)) checkTornUptoCard

/-- THE SECOND FORM's CARD OF 'braidworklaw10.CheckLasts'. -/
def checkLastsUptoCard : Claim7 := { stood := { row := checkLastsUptoRow, standIns := [], harness := (true, "ff338382274df95fa8732897f3e4fd25986465669a8caf6d413a5de24045372d"), looks := false }, kinds := [], alts := [], laidByText := true, laidKinds := [.sentinel], laidTests := true, laidLooks := .later }
def CheckLastsUptoCardSaid : Prop := Claim7.holds Tryd.pinned (.plain (OpenSpec.upto checkLastsSpec)) checkLastsUptoCard

/-- THE SECOND FORM's CARD OF 'braidworklaw09.MetalogFull'. -/
def metalogFullUptoCard : Claim7 := { stood := { row := metalogFullUptoRow, standIns := [], harness := (true, "ff338382274df95fa8732897f3e4fd25986465669a8caf6d413a5de24045372d"), looks := false }, kinds := [], alts := [], laidByText := true, laidKinds := [.sentinel], laidTests := true, laidLooks := .later }
def MetalogFullUptoCardSaid : Prop := Claim7.holds Tryd.pinned (.plain (OpenSpec.upto metalogFullSpec)) metalogFullUptoCard

/-- THE SECOND FORM's CARD OF 'braidworklaw09.MetalogOlder'. -/
def metalogOlderUptoCard : Claim7 := { stood := { row := metalogOlderUptoRow, standIns := [], harness := (true, "ff338382274df95fa8732897f3e4fd25986465669a8caf6d413a5de24045372d"), looks := false }, kinds := [], alts := [], laidByText := true, laidKinds := [.sentinel], laidTests := true, laidLooks := .later }
def MetalogOlderUptoCardSaid : Prop := Claim7.holds Tryd.pinned (.plain (OpenSpec.upto metalogOlderSpec)) metalogOlderUptoCard

/-- THE SECOND FORM's CARD OF 'braidworklaw09.MetalogAny'. -/
def metalogAnyUptoCard : Claim7 := { stood := { row := metalogAnyUptoRow, standIns := [], harness := (true, "ff338382274df95fa8732897f3e4fd25986465669a8caf6d413a5de24045372d"), looks := false }, kinds := [], alts := [], laidByText := true, laidKinds := [.sentinel], laidTests := true, laidLooks := .later }
def MetalogAnyUptoCardSaid : Prop := Claim7.holds Tryd.pinned (.plain (OpenSpec.upto metalogAnySpec)) metalogAnyUptoCard

/-- THE SECOND FORM's CARD OF 'braidworklaw09.MetalogDead'. -/
def metalogDeadUptoCard : Claim7 := { stood := { row := metalogDeadUptoRow, standIns := [], harness := (true, "ff338382274df95fa8732897f3e4fd25986465669a8caf6d413a5de24045372d"), looks := false }, kinds := [], alts := [], laidByText := true, laidKinds := [.sentinel], laidTests := true, laidLooks := .later }
def MetalogDeadUptoCardSaid : Prop := Claim7.holds Tryd.pinned (.plain (OpenSpec.upto metalogDeadSpec)) metalogDeadUptoCard

/-- THE SECOND FORM's CARD OF 'braidworklaw09.MetalogTorn'. -/
def metalogTornUptoCard : Claim7 := { stood := { row := metalogTornUptoRow, standIns := [], harness := (true, "ff338382274df95fa8732897f3e4fd25986465669a8caf6d413a5de24045372d"), looks := false }, kinds := [], alts := [], laidByText := true, laidKinds := [.sentinel], laidTests := true, laidLooks := .later }
def MetalogTornUptoCardSaid : Prop := Claim7.holds Tryd.pinned (.plain (OpenSpec.upto metalogTornSpec)) metalogTornUptoCard

/-- THE SECOND FORM's CARD OF 'braidworklaw09.MetalogLasts'. -/
def metalogLastsUptoCard : Claim7 := { stood := { row := metalogLastsUptoRow, standIns := [], harness := (true, "ff338382274df95fa8732897f3e4fd25986465669a8caf6d413a5de24045372d"), looks := false }, kinds := [], alts := [], laidByText := true, laidKinds := [.sentinel], laidTests := true, laidLooks := .later }
def MetalogLastsUptoCardSaid : Prop := Claim7.holds Tryd.pinned (.plain (OpenSpec.upto metalogLastsSpec)) metalogLastsUptoCard
end Rows
end Go.Proofs.YtpeclkhppgabfaaDoor
