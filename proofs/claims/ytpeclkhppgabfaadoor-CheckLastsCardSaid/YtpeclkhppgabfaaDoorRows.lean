/-
  NARROWER THAN 'FOR EVERY INPUT', by the rows' own cells (each row's printed sentence says how): CheckSizes: laid · CheckNewest: laid · CheckTorn: laid · CheckLasts: laid · MetalogFull: laid · MetalogOlder: laid · MetalogAny: laid · MetalogDead: laid · MetalogTorn: laid · MetalogLasts: laid.
  DERIVED. THE GIVEN ROWS OF THIS SEAT. 10 by the template 'for every input the law returns true; each argument reads behind the call as it read before'; 0 by the template 'total and deterministic' (their statements: YtpeclkhppgabfaaDoorTotals.lean).
  GIVEN WITH THE SEED: the statements are not yours to turn. If you find one false, say at which input.
  Laid BY PROGRAM, IN A SANDBOX (cutbox-rows.mjs): the forced cells as the released guide's own fill.sh prints them over the translation 74e34bbd74340ea7… (all of the seat's roots in one cut). By AI agents, Wed Nov 11 2026. No macro, syntax, notation, axiom, sorry.
-/
import Derived.Test.YtpeclkhppgabfaaDoorChecked
import GoSem.Claim
import GoSem.ClaimJoined
import GoSem.ClaimMapViews
import Derived.JoinedTies
import Derived.KernelRfl
namespace Go.Proofs.YtpeclkhppgabfaaDoor
/- THE CELL 'sum', in the pinned program and in every row, IS THE sha256 OF THE DUMP (.gsa) THAT YtpeclkhppgabfaaDoorProg.lean LOADS. Nothing in Lean hashes anything: it is a label: what it is worth is what the hold of that sum in a sandbox is worth. -/
noncomputable def Tryd.pinned : Pinned := { name := "ytpeclkhppgabfaadoor", sum := "74e34bbd74340ea7d486841881c16d1e5861e064cf3a0abacbca3d2daf86b276", checked := Tryd.checked }
namespace Rows
def none {H : Type} : Left H := { results := [], args := [] }

/- WHAT THE LISTED PACKAGE-LEVEL VARIABLES READ AS WHEN THE CALL BEGINS. Each datum BY PROGRAM (the guide's laid-datum.mjs) off the statement by which the dump's own 'gosem.cut.vars' lays the variable. In a bare row this is a premise. The card (YtpeclkhppgabfaaDoorCards.lean) ties it to the program's text. -/
def laid_bytes_ErrTooLarge {H : Type} : DataW H := .iface "*errors.errorString" (.ptr (.agg [.lit (.string [98, 121, 116, 101, 115, 46, 66, 117, 102, 102, 101, 114, 58, 32, 116, 111, 111, 32, 108, 97, 114, 103, 101])]))

/-- 'braidworklaw10.CheckSizes': WHATEVER THE INPUT: true; the input reads as it did. -/
def checkSizesSpec : ChangeSpec := { name := "checkSizes", fn := fun _ => fun
  | [d1, d2, d3] => { results := [.lit (.bool true)], args := [d1, d2, d3] }
  | _ => none }
def checkSizesRow : OpenClaim := { program := "ytpeclkhppgabfaadoor", sum := "74e34bbd74340ea7d486841881c16d1e5861e064cf3a0abacbca3d2daf86b276", func := "braidwork/braidworklaw10.CheckSizes", spec := "checkSizes", unfollowed := true, recurses := true, named := ["bytes.ErrTooLarge"], apart := false, laid := [("bytes.ErrTooLarge", laid_bytes_ErrTooLarge)] }
def CheckSizesSaid : Prop := checkSizesRow.holds Tryd.pinned (OpenSpec.ofChange checkSizesSpec)

/-- ITS FALSE NEIGHBOUR: 'it returns false'. Refute it at one input. -/
def checkSizesWrong : ChangeSpec := { name := "checkSizes", fn := fun _ => fun
  | [d1, d2, d3] => { results := [.lit (.bool false)], args := [d1, d2, d3] }
  | _ => none }
def CheckSizesWrongFalsely : Prop := checkSizesRow.holds Tryd.pinned (OpenSpec.ofChange checkSizesWrong)

/-- 'braidworklaw10.CheckNewest': WHATEVER THE INPUT: true; the input reads as it did. -/
def checkNewestSpec : ChangeSpec := { name := "checkNewest", fn := fun _ => fun
  | [d1, d2, d3, d4] => { results := [.lit (.bool true)], args := [d1, d2, d3, d4] }
  | _ => none }
def checkNewestRow : OpenClaim := { program := "ytpeclkhppgabfaadoor", sum := "74e34bbd74340ea7d486841881c16d1e5861e064cf3a0abacbca3d2daf86b276", func := "braidwork/braidworklaw10.CheckNewest", spec := "checkNewest", unfollowed := true, recurses := true, named := ["bytes.ErrTooLarge"], apart := false, laid := [("bytes.ErrTooLarge", laid_bytes_ErrTooLarge)] }
def CheckNewestSaid : Prop := checkNewestRow.holds Tryd.pinned (OpenSpec.ofChange checkNewestSpec)

/-- ITS FALSE NEIGHBOUR: 'it returns false'. Refute it at one input. -/
def checkNewestWrong : ChangeSpec := { name := "checkNewest", fn := fun _ => fun
  | [d1, d2, d3, d4] => { results := [.lit (.bool false)], args := [d1, d2, d3, d4] }
  | _ => none }
def CheckNewestWrongFalsely : Prop := checkNewestRow.holds Tryd.pinned (OpenSpec.ofChange checkNewestWrong)

/-- 'braidworklaw10.CheckTorn': WHATEVER THE INPUT: true; the input reads as it did. -/
def checkTornSpec : ChangeSpec := { name := "checkTorn", fn := fun _ => fun
  | [d1, d2, d3] => { results := [.lit (.bool true)], args := [d1, d2, d3] }
  | _ => none }
def checkTornRow : OpenClaim := { program := "ytpeclkhppgabfaadoor", sum := "74e34bbd74340ea7d486841881c16d1e5861e064cf3a0abacbca3d2daf86b276", func := "braidwork/braidworklaw10.CheckTorn", spec := "checkTorn", unfollowed := true, recurses := true, named := ["bytes.ErrTooLarge"], apart := false, laid := [("bytes.ErrTooLarge", laid_bytes_ErrTooLarge)] }
def CheckTornSaid : Prop := checkTornRow.holds Tryd.pinned (OpenSpec.ofChange checkTornSpec)

/-- ITS FALSE NEIGHBOUR: 'it returns false'. Refute it at one input. -/
def checkTornWrong : ChangeSpec := { name := "checkTorn", fn := fun _ => fun
  | [d1, d2, d3] => { results := [.lit (.bool false)], args := [d1, d2, d3] }
  | _ => none }
def CheckTornWrongFalsely : Prop := checkTornRow.holds Tryd.pinned (OpenSpec.ofChange checkTornWrong)

/-- 'braidworklaw10.CheckLasts': WHATEVER THE INPUT: true; the input reads as it did. -/
def checkLastsSpec : ChangeSpec := { name := "checkLasts", fn := fun _ => fun
  | [d1, d2, d3, d4] => { results := [.lit (.bool true)], args := [d1, d2, d3, d4] }
  | _ => none }
def checkLastsRow : OpenClaim := { program := "ytpeclkhppgabfaadoor", sum := "74e34bbd74340ea7d486841881c16d1e5861e064cf3a0abacbca3d2daf86b276", func := "braidwork/braidworklaw10.CheckLasts", spec := "checkLasts", unfollowed := true, recurses := true, named := ["bytes.ErrTooLarge"], apart := false, laid := [("bytes.ErrTooLarge", laid_bytes_ErrTooLarge)] }
def CheckLastsSaid : Prop := checkLastsRow.holds Tryd.pinned (OpenSpec.ofChange checkLastsSpec)

/-- ITS FALSE NEIGHBOUR: 'it returns false'. Refute it at one input. -/
def checkLastsWrong : ChangeSpec := { name := "checkLasts", fn := fun _ => fun
  | [d1, d2, d3, d4] => { results := [.lit (.bool false)], args := [d1, d2, d3, d4] }
  | _ => none }
def CheckLastsWrongFalsely : Prop := checkLastsRow.holds Tryd.pinned (OpenSpec.ofChange checkLastsWrong)

/-- 'braidworklaw09.MetalogFull': WHATEVER THE INPUT: true; the input reads as it did. -/
def metalogFullSpec : ChangeSpec := { name := "metalogFull", fn := fun _ => fun
  | [d] => { results := [.lit (.bool true)], args := [d] }
  | _ => none }
def metalogFullRow : OpenClaim := { program := "ytpeclkhppgabfaadoor", sum := "74e34bbd74340ea7d486841881c16d1e5861e064cf3a0abacbca3d2daf86b276", func := "braidwork/braidworklaw09.MetalogFull", spec := "metalogFull", unfollowed := true, recurses := true, named := ["bytes.ErrTooLarge"], apart := false, laid := [("bytes.ErrTooLarge", laid_bytes_ErrTooLarge)] }
def MetalogFullSaid : Prop := metalogFullRow.holds Tryd.pinned (OpenSpec.ofChange metalogFullSpec)

/-- ITS FALSE NEIGHBOUR: 'it returns false'. Refute it at one input. -/
def metalogFullWrong : ChangeSpec := { name := "metalogFull", fn := fun _ => fun
  | [d] => { results := [.lit (.bool false)], args := [d] }
  | _ => none }
def MetalogFullWrongFalsely : Prop := metalogFullRow.holds Tryd.pinned (OpenSpec.ofChange metalogFullWrong)

/-- 'braidworklaw09.MetalogOlder': WHATEVER THE INPUT: true; the input reads as it did. -/
def metalogOlderSpec : ChangeSpec := { name := "metalogOlder", fn := fun _ => fun
  | [d1, d2, d3] => { results := [.lit (.bool true)], args := [d1, d2, d3] }
  | _ => none }
def metalogOlderRow : OpenClaim := { program := "ytpeclkhppgabfaadoor", sum := "74e34bbd74340ea7d486841881c16d1e5861e064cf3a0abacbca3d2daf86b276", func := "braidwork/braidworklaw09.MetalogOlder", spec := "metalogOlder", unfollowed := true, recurses := true, named := ["bytes.ErrTooLarge"], apart := false, laid := [("bytes.ErrTooLarge", laid_bytes_ErrTooLarge)] }
def MetalogOlderSaid : Prop := metalogOlderRow.holds Tryd.pinned (OpenSpec.ofChange metalogOlderSpec)

/-- ITS FALSE NEIGHBOUR: 'it returns false'. Refute it at one input. -/
def metalogOlderWrong : ChangeSpec := { name := "metalogOlder", fn := fun _ => fun
  | [d1, d2, d3] => { results := [.lit (.bool false)], args := [d1, d2, d3] }
  | _ => none }
def MetalogOlderWrongFalsely : Prop := metalogOlderRow.holds Tryd.pinned (OpenSpec.ofChange metalogOlderWrong)

/-- 'braidworklaw09.MetalogAny': WHATEVER THE INPUT: true; the input reads as it did. -/
def metalogAnySpec : ChangeSpec := { name := "metalogAny", fn := fun _ => fun
  | [d1, d2] => { results := [.lit (.bool true)], args := [d1, d2] }
  | _ => none }
def metalogAnyRow : OpenClaim := { program := "ytpeclkhppgabfaadoor", sum := "74e34bbd74340ea7d486841881c16d1e5861e064cf3a0abacbca3d2daf86b276", func := "braidwork/braidworklaw09.MetalogAny", spec := "metalogAny", unfollowed := true, recurses := true, named := ["bytes.ErrTooLarge"], apart := false, laid := [("bytes.ErrTooLarge", laid_bytes_ErrTooLarge)] }
def MetalogAnySaid : Prop := metalogAnyRow.holds Tryd.pinned (OpenSpec.ofChange metalogAnySpec)

/-- ITS FALSE NEIGHBOUR: 'it returns false'. Refute it at one input. -/
def metalogAnyWrong : ChangeSpec := { name := "metalogAny", fn := fun _ => fun
  | [d1, d2] => { results := [.lit (.bool false)], args := [d1, d2] }
  | _ => none }
def MetalogAnyWrongFalsely : Prop := metalogAnyRow.holds Tryd.pinned (OpenSpec.ofChange metalogAnyWrong)

/-- 'braidworklaw09.MetalogDead': WHATEVER THE INPUT: true; the input reads as it did. -/
def metalogDeadSpec : ChangeSpec := { name := "metalogDead", fn := fun _ => fun
  | [d1, d2, d3] => { results := [.lit (.bool true)], args := [d1, d2, d3] }
  | _ => none }
def metalogDeadRow : OpenClaim := { program := "ytpeclkhppgabfaadoor", sum := "74e34bbd74340ea7d486841881c16d1e5861e064cf3a0abacbca3d2daf86b276", func := "braidwork/braidworklaw09.MetalogDead", spec := "metalogDead", unfollowed := true, recurses := true, named := ["bytes.ErrTooLarge"], apart := false, laid := [("bytes.ErrTooLarge", laid_bytes_ErrTooLarge)] }
def MetalogDeadSaid : Prop := metalogDeadRow.holds Tryd.pinned (OpenSpec.ofChange metalogDeadSpec)

/-- ITS FALSE NEIGHBOUR: 'it returns false'. Refute it at one input. -/
def metalogDeadWrong : ChangeSpec := { name := "metalogDead", fn := fun _ => fun
  | [d1, d2, d3] => { results := [.lit (.bool false)], args := [d1, d2, d3] }
  | _ => none }
def MetalogDeadWrongFalsely : Prop := metalogDeadRow.holds Tryd.pinned (OpenSpec.ofChange metalogDeadWrong)

/-- 'braidworklaw09.MetalogTorn': WHATEVER THE INPUT: true; the input reads as it did. -/
def metalogTornSpec : ChangeSpec := { name := "metalogTorn", fn := fun _ => fun
  | [d1, d2] => { results := [.lit (.bool true)], args := [d1, d2] }
  | _ => none }
def metalogTornRow : OpenClaim := { program := "ytpeclkhppgabfaadoor", sum := "74e34bbd74340ea7d486841881c16d1e5861e064cf3a0abacbca3d2daf86b276", func := "braidwork/braidworklaw09.MetalogTorn", spec := "metalogTorn", unfollowed := true, recurses := true, named := ["bytes.ErrTooLarge"], apart := false, laid := [("bytes.ErrTooLarge", laid_bytes_ErrTooLarge)] }
def MetalogTornSaid : Prop := metalogTornRow.holds Tryd.pinned (OpenSpec.ofChange metalogTornSpec)

/-- ITS FALSE NEIGHBOUR: 'it returns false'. Refute it at one input. -/
def metalogTornWrong : ChangeSpec := { name := "metalogTorn", fn := fun _ => fun
  | [d1, d2] => { results := [.lit (.bool false)], args := [d1, d2] }
  | _ => none }
def MetalogTornWrongFalsely : Prop := metalogTornRow.holds Tryd.pinned (OpenSpec.ofChange metalogTornWrong)

/-- 'braidworklaw09.MetalogLasts': WHATEVER THE INPUT: true; the input reads as it did. -/
def metalogLastsSpec : ChangeSpec := { name := "metalogLasts", fn := fun _ => fun
  | [d1, d2, d3, d4] => { results := [.lit (.bool true)], args := [d1, d2, d3, d4] }
  | _ => none }
def metalogLastsRow : OpenClaim := { program := "ytpeclkhppgabfaadoor", sum := "74e34bbd74340ea7d486841881c16d1e5861e064cf3a0abacbca3d2daf86b276", func := "braidwork/braidworklaw09.MetalogLasts", spec := "metalogLasts", unfollowed := true, recurses := true, named := ["bytes.ErrTooLarge"], apart := false, laid := [("bytes.ErrTooLarge", laid_bytes_ErrTooLarge)] }
def MetalogLastsSaid : Prop := metalogLastsRow.holds Tryd.pinned (OpenSpec.ofChange metalogLastsSpec)

/-- ITS FALSE NEIGHBOUR: 'it returns false'. Refute it at one input. -/
def metalogLastsWrong : ChangeSpec := { name := "metalogLasts", fn := fun _ => fun
  | [d1, d2, d3, d4] => { results := [.lit (.bool false)], args := [d1, d2, d3, d4] }
  | _ => none }
def MetalogLastsWrongFalsely : Prop := metalogLastsRow.holds Tryd.pinned (OpenSpec.ofChange metalogLastsWrong)

/- THE SECOND FORM. 'bulk': how many values and letters a reading holds, each counted each time it is reached (what is shared counts as often as it is met; a slice's spare places count too). A statement '..UptoSaid' is the law's where the arguments, and the package variables that the reading takes, are together of bulk at most 1048576: NARROWER than '..Said'. Prove '..Said' where nothing that the law and all that it calls make is longer than what came in: it says more and counts as full. Else prove '..UptoSaid'. A law counts once. -/
mutual
def uptoBulk {H : Type} : DataW H → Nat
  | .lit (.string bytes) => bytes.length + 1
  | .lit _ => 1
  | .nil => 1
  | .ptr d => uptoBulk d + 1
  | .slice elems spare => uptoBulkAll elems + uptoBulkAll spare + 1
  | .agg parts => uptoBulkAll parts + 1
  | .iface _ d => uptoBulk d + 1
  | .map entries => uptoBulkEntries entries + 1
  | .held _ => 1
def uptoBulkAll {H : Type} : List (DataW H) → Nat
  | [] => 0
  | d :: r => uptoBulk d + uptoBulkAll r
def uptoBulkEntries {H : Type} : List (Lit × DataW H) → Nat
  | [] => 0
  | x :: r => uptoBulkEntry x + uptoBulkEntries r
def uptoBulkEntry {H : Type} : Lit × DataW H → Nat
  | (.string bytes, d) => bytes.length + uptoBulk d + 1
  | (_, d) => uptoBulk d + 1
 end
def uptoSmall : (H : Type) → List (DataW H) → Bool := fun _ ds => decide (uptoBulkAll ds ≤ 1048576)
def OpenSpec.upto (s : _root_.Go.ChangeSpec) : _root_.Go.OpenSpec := { _root_.Go.OpenSpec.ofChange s with cond := some uptoSmall }

/-- 'braidworklaw10.CheckSizes', WHERE WHAT IT READS IS OF BULK AT MOST 1048576: true; the input reads as it did. -/
def checkSizesUptoRow : OpenClaim := { program := "ytpeclkhppgabfaadoor", sum := "74e34bbd74340ea7d486841881c16d1e5861e064cf3a0abacbca3d2daf86b276", func := "braidwork/braidworklaw10.CheckSizes", spec := "checkSizes", unfollowed := true, recurses := true, named := ["bytes.ErrTooLarge"], apart := false, laid := [("bytes.ErrTooLarge", laid_bytes_ErrTooLarge)], narrowed := true }
def CheckSizesUptoSaid : Prop := checkSizesUptoRow.holds Tryd.pinned (OpenSpec.upto checkSizesSpec)

/-- 'braidworklaw10.CheckNewest', WHERE WHAT IT READS IS OF BULK AT MOST 1048576: true; the input reads as it did. -/
def checkNewestUptoRow : OpenClaim := { program := "ytpeclkhppgabfaadoor", sum := "74e34bbd74340ea7d486841881c16d1e5861e064cf3a0abacbca3d2daf86b276", func := "braidwork/braidworklaw10.CheckNewest", spec := "checkNewest", unfollowed := true, recurses := true, named := ["bytes.ErrTooLarge"], apart := false, laid := [("bytes.ErrTooLarge", laid_bytes_ErrTooLarge)], narrowed := true }
def CheckNewestUptoSaid : Prop := checkNewestUptoRow.holds Tryd.pinned (OpenSpec.upto checkNewestSpec)

/-- 'braidworklaw10.CheckTorn', WHERE WHAT IT READS IS OF BULK AT MOST 1048576: true; the input reads as it did. -/
def checkTornUptoRow : OpenClaim := { program := "ytpeclkhppgabfaadoor", sum := "74e34bbd74340ea7d486841881c16d1e5861e064cf3a0abacbca3d2daf86b276", func := "braidwork/braidworklaw10.CheckTorn", spec := "checkTorn", unfollowed := true, recurses := true, named := ["bytes.ErrTooLarge"], apart := false, laid := [("bytes.ErrTooLarge", laid_bytes_ErrTooLarge)], narrowed := true }
def CheckTornUptoSaid : Prop := checkTornUptoRow.holds Tryd.pinned (OpenSpec.upto checkTornSpec)

/-- 'braidworklaw10.CheckLasts', WHERE WHAT IT READS IS OF BULK AT MOST 1048576: true; the input reads as it did. -/
def checkLastsUptoRow : OpenClaim := { program := "ytpeclkhppgabfaadoor", sum := "74e34bbd74340ea7d486841881c16d1e5861e064cf3a0abacbca3d2daf86b276", func := "braidwork/braidworklaw10.CheckLasts", spec := "checkLasts", unfollowed := true, recurses := true, named := ["bytes.ErrTooLarge"], apart := false, laid := [("bytes.ErrTooLarge", laid_bytes_ErrTooLarge)], narrowed := true }
def CheckLastsUptoSaid : Prop := checkLastsUptoRow.holds Tryd.pinned (OpenSpec.upto checkLastsSpec)

/-- 'braidworklaw09.MetalogFull', WHERE WHAT IT READS IS OF BULK AT MOST 1048576: true; the input reads as it did. -/
def metalogFullUptoRow : OpenClaim := { program := "ytpeclkhppgabfaadoor", sum := "74e34bbd74340ea7d486841881c16d1e5861e064cf3a0abacbca3d2daf86b276", func := "braidwork/braidworklaw09.MetalogFull", spec := "metalogFull", unfollowed := true, recurses := true, named := ["bytes.ErrTooLarge"], apart := false, laid := [("bytes.ErrTooLarge", laid_bytes_ErrTooLarge)], narrowed := true }
def MetalogFullUptoSaid : Prop := metalogFullUptoRow.holds Tryd.pinned (OpenSpec.upto metalogFullSpec)

/-- 'braidworklaw09.MetalogOlder', WHERE WHAT IT READS IS OF BULK AT MOST 1048576: true; the input reads as it did. -/
def metalogOlderUptoRow : OpenClaim := { program := "ytpeclkhppgabfaadoor", sum := "74e34bbd74340ea7d486841881c16d1e5861e064cf3a0abacbca3d2daf86b276", func := "braidwork/braidworklaw09.MetalogOlder", spec := "metalogOlder", unfollowed := true, recurses := true, named := ["bytes.ErrTooLarge"], apart := false, laid := [("bytes.ErrTooLarge", laid_bytes_ErrTooLarge)], narrowed := true }
def MetalogOlderUptoSaid : Prop := metalogOlderUptoRow.holds Tryd.pinned (OpenSpec.upto metalogOlderSpec)

/-- 'braidworklaw09.MetalogAny', WHERE WHAT IT READS IS OF BULK AT MOST 1048576: true; the input reads as it did. -/
def metalogAnyUptoRow : OpenClaim := { program := "ytpeclkhppgabfaadoor", sum := "74e34bbd74340ea7d486841881c16d1e5861e064cf3a0abacbca3d2daf86b276", func := "braidwork/braidworklaw09.MetalogAny", spec := "metalogAny", unfollowed := true, recurses := true, named := ["bytes.ErrTooLarge"], apart := false, laid := [("bytes.ErrTooLarge", laid_bytes_ErrTooLarge)], narrowed := true }
def MetalogAnyUptoSaid : Prop := metalogAnyUptoRow.holds Tryd.pinned (OpenSpec.upto metalogAnySpec)

/-- 'braidworklaw09.MetalogDead', WHERE WHAT IT READS IS OF BULK AT MOST 1048576: true; the input reads as it did. -/
def metalogDeadUptoRow : OpenClaim := { program := "ytpeclkhppgabfaadoor", sum := "74e34bbd74340ea7d486841881c16d1e5861e064cf3a0abacbca3d2daf86b276", func := "braidwork/braidworklaw09.MetalogDead", spec := "metalogDead", unfollowed := true, recurses := true, named := ["bytes.ErrTooLarge"], apart := false, laid := [("bytes.ErrTooLarge", laid_bytes_ErrTooLarge)], narrowed := true }
def MetalogDeadUptoSaid : Prop := metalogDeadUptoRow.holds Tryd.pinned (OpenSpec.upto metalogDeadSpec)

/-- 'braidworklaw09.MetalogTorn', WHERE WHAT IT READS IS OF BULK AT MOST 1048576: true; the input reads as it did. -/
def metalogTornUptoRow : OpenClaim := { program := "ytpeclkhppgabfaadoor", sum := "74e34bbd74340ea7d486841881c16d1e5861e064cf3a0abacbca3d2daf86b276", func := "braidwork/braidworklaw09.MetalogTorn", spec := "metalogTorn", unfollowed := true, recurses := true, named := ["bytes.ErrTooLarge"], apart := false, laid := [("bytes.ErrTooLarge", laid_bytes_ErrTooLarge)], narrowed := true }
def MetalogTornUptoSaid : Prop := metalogTornUptoRow.holds Tryd.pinned (OpenSpec.upto metalogTornSpec)

/-- 'braidworklaw09.MetalogLasts', WHERE WHAT IT READS IS OF BULK AT MOST 1048576: true; the input reads as it did. -/
def metalogLastsUptoRow : OpenClaim := { program := "ytpeclkhppgabfaadoor", sum := "74e34bbd74340ea7d486841881c16d1e5861e064cf3a0abacbca3d2daf86b276", func := "braidwork/braidworklaw09.MetalogLasts", spec := "metalogLasts", unfollowed := true, recurses := true, named := ["bytes.ErrTooLarge"], apart := false, laid := [("bytes.ErrTooLarge", laid_bytes_ErrTooLarge)], narrowed := true }
def MetalogLastsUptoSaid : Prop := metalogLastsUptoRow.holds Tryd.pinned (OpenSpec.upto metalogLastsSpec)

end Rows
end Go.Proofs.YtpeclkhppgabfaaDoor
