/-
  No cell of these rows narrows 'for every input' (looked for: loops, veiled, ifaces, maps, wideKeys, modest, calm, conditions, laid).
  DERIVED. THE GIVEN ROWS OF THIS SEAT. 5 by the template 'for every input the law returns true; each argument reads behind the call as it read before'; 0 by the template 'total and deterministic' (their statements: YtiijfocdjcjlaaaGreatTotals.lean).
  GIVEN WITH THE SEED: the statements are not yours to turn. If you find one false, say at which input.
  Laid BY PROGRAM, IN A SANDBOX (cutbox-rows.mjs): the forced cells as the released guide's own fill.sh prints them over the translation c9e404c3c332dba6… (all of the seat's roots in one cut). By AI agents, Wed Nov 11 2026. No macro, syntax, notation, axiom, sorry.
-/
import Derived.Test.YtiijfocdjcjlaaaGreatChecked
import GoSem.Claim
import GoSem.ClaimJoined
import GoSem.ClaimMapViews
import Derived.JoinedTies
import Derived.KernelRfl
namespace Go.Proofs.YtiijfocdjcjlaaaGreat
/- THE CELL 'sum', in the pinned program and in every row, IS THE sha256 OF THE DUMP (.gsa) THAT YtiijfocdjcjlaaaGreatProg.lean LOADS. Nothing in Lean hashes anything: it is a label: what it is worth is what the hold of that sum in a sandbox is worth. -/
noncomputable def Tryz.pinned : Pinned := { name := "ytiijfocdjcjlaaagreat", sum := "c9e404c3c332dba6e8ac0c6876e77f39a230617a25e6bce6728af3615e9f9cee", checked := Tryz.checked }
namespace Rows
def none {H : Type} : Left H := { results := [], args := [] }

/-- 'braidworklaw18.StateApart': WHATEVER THE INPUT: true; the input reads as it did. -/
def stateApartSpec : ChangeSpec := { name := "stateApart", fn := fun _ => fun
  | [d] => { results := [.lit (.bool true)], args := [d] }
  | _ => none }
def stateApartRow : OpenClaim := { program := "ytiijfocdjcjlaaagreat", sum := "c9e404c3c332dba6e8ac0c6876e77f39a230617a25e6bce6728af3615e9f9cee", func := "braidwork/braidworklaw18.StateApart", spec := "stateApart", inPlace := ["slices.overlaps[braidwork/api.Group]"], unfollowed := true, recurses := true, plainKeys := false, apart := false }
def StateApartSaid : Prop := stateApartRow.holds Tryz.pinned (OpenSpec.ofChange stateApartSpec)

/-- ITS FALSE NEIGHBOUR: 'it returns false'. Refute it at one input. -/
def stateApartWrong : ChangeSpec := { name := "stateApart", fn := fun _ => fun
  | [d] => { results := [.lit (.bool false)], args := [d] }
  | _ => none }
def StateApartWrongFalsely : Prop := stateApartRow.holds Tryz.pinned (OpenSpec.ofChange stateApartWrong)

/-- 'braidworklaw18.StateDirty': WHATEVER THE INPUT: true; the input reads as it did. -/
def stateDirtySpec : ChangeSpec := { name := "stateDirty", fn := fun _ => fun
  | [d1, d2] => { results := [.lit (.bool true)], args := [d1, d2] }
  | _ => none }
def stateDirtyRow : OpenClaim := { program := "ytiijfocdjcjlaaagreat", sum := "c9e404c3c332dba6e8ac0c6876e77f39a230617a25e6bce6728af3615e9f9cee", func := "braidwork/braidworklaw18.StateDirty", spec := "stateDirty", inPlace := ["slices.overlaps[braidwork/api.Group]"], unfollowed := true, recurses := true, plainKeys := false, apart := false }
def StateDirtySaid : Prop := stateDirtyRow.holds Tryz.pinned (OpenSpec.ofChange stateDirtySpec)

/-- ITS FALSE NEIGHBOUR: 'it returns false'. Refute it at one input. -/
def stateDirtyWrong : ChangeSpec := { name := "stateDirty", fn := fun _ => fun
  | [d1, d2] => { results := [.lit (.bool false)], args := [d1, d2] }
  | _ => none }
def StateDirtyWrongFalsely : Prop := stateDirtyRow.holds Tryz.pinned (OpenSpec.ofChange stateDirtyWrong)

/-- 'braidworklaw18.StateGroups': WHATEVER THE INPUT: true; the input reads as it did. -/
def stateGroupsSpec : ChangeSpec := { name := "stateGroups", fn := fun _ => fun
  | [d1, d2] => { results := [.lit (.bool true)], args := [d1, d2] }
  | _ => none }
def stateGroupsRow : OpenClaim := { program := "ytiijfocdjcjlaaagreat", sum := "c9e404c3c332dba6e8ac0c6876e77f39a230617a25e6bce6728af3615e9f9cee", func := "braidwork/braidworklaw18.StateGroups", spec := "stateGroups", inPlace := ["slices.overlaps[braidwork/api.Group]"], unfollowed := true, recurses := true, plainKeys := false, apart := false }
def StateGroupsSaid : Prop := stateGroupsRow.holds Tryz.pinned (OpenSpec.ofChange stateGroupsSpec)

/-- ITS FALSE NEIGHBOUR: 'it returns false'. Refute it at one input. -/
def stateGroupsWrong : ChangeSpec := { name := "stateGroups", fn := fun _ => fun
  | [d1, d2] => { results := [.lit (.bool false)], args := [d1, d2] }
  | _ => none }
def StateGroupsWrongFalsely : Prop := stateGroupsRow.holds Tryz.pinned (OpenSpec.ofChange stateGroupsWrong)

/-- 'braidworklaw18.StateHeld': WHATEVER THE INPUT: true; the input reads as it did. -/
def stateHeldSpec : ChangeSpec := { name := "stateHeld", fn := fun _ => fun
  | [d1, d2] => { results := [.lit (.bool true)], args := [d1, d2] }
  | _ => none }
def stateHeldRow : OpenClaim := { program := "ytiijfocdjcjlaaagreat", sum := "c9e404c3c332dba6e8ac0c6876e77f39a230617a25e6bce6728af3615e9f9cee", func := "braidwork/braidworklaw18.StateHeld", spec := "stateHeld", inPlace := ["slices.overlaps[braidwork/api.Group]"], unfollowed := true, recurses := true, plainKeys := false, apart := false }
def StateHeldSaid : Prop := stateHeldRow.holds Tryz.pinned (OpenSpec.ofChange stateHeldSpec)

/-- ITS FALSE NEIGHBOUR: 'it returns false'. Refute it at one input. -/
def stateHeldWrong : ChangeSpec := { name := "stateHeld", fn := fun _ => fun
  | [d1, d2] => { results := [.lit (.bool false)], args := [d1, d2] }
  | _ => none }
def StateHeldWrongFalsely : Prop := stateHeldRow.holds Tryz.pinned (OpenSpec.ofChange stateHeldWrong)

/-- 'braidworklaw18.StateGone': WHATEVER THE INPUT: true; the input reads as it did. -/
def stateGoneSpec : ChangeSpec := { name := "stateGone", fn := fun _ => fun
  | [d1, d2] => { results := [.lit (.bool true)], args := [d1, d2] }
  | _ => none }
def stateGoneRow : OpenClaim := { program := "ytiijfocdjcjlaaagreat", sum := "c9e404c3c332dba6e8ac0c6876e77f39a230617a25e6bce6728af3615e9f9cee", func := "braidwork/braidworklaw18.StateGone", spec := "stateGone", inPlace := ["slices.overlaps[braidwork/api.Group]"], unfollowed := true, recurses := true, plainKeys := false, apart := false }
def StateGoneSaid : Prop := stateGoneRow.holds Tryz.pinned (OpenSpec.ofChange stateGoneSpec)

/-- ITS FALSE NEIGHBOUR: 'it returns false'. Refute it at one input. -/
def stateGoneWrong : ChangeSpec := { name := "stateGone", fn := fun _ => fun
  | [d1, d2] => { results := [.lit (.bool false)], args := [d1, d2] }
  | _ => none }
def StateGoneWrongFalsely : Prop := stateGoneRow.holds Tryz.pinned (OpenSpec.ofChange stateGoneWrong)

/- THE SECOND FORM. 'bulk': how many values and letters a reading holds, each counted each time it is reached (what is shared counts as often as it is met; a slice's spare places count too). A statement '..UptoSaid' is the law's where the arguments, and the package variables that the reading takes, are together of bulk at most 1048576: NARROWER than '..Said'. Prove '..Said' where nothing that the law and all that it calls make is longer than what came in: it says more and counts as full. Else prove '..UptoSaid'. A law counts once. -/
mutual
def uptoBulk {H : Type} : DataW H → Nat
  | .lit (.string bytes) => bytes.length + 1
  | .lit _ => 1
  | .nil => 1
  | .ptr d => uptoBulk d + 1
  | .slice elems spare => uptoBulkAll elems + uptoBulkAll spare + 1
  | .agg parts => uptoBulkAll parts + 1
  | .iface _ d => uptoBulk d + 1
  | .map entries => uptoBulkEntries entries + 1
  | .held _ => 1
def uptoBulkAll {H : Type} : List (DataW H) → Nat
  | [] => 0
  | d :: r => uptoBulk d + uptoBulkAll r
def uptoBulkEntries {H : Type} : List (Lit × DataW H) → Nat
  | [] => 0
  | x :: r => uptoBulkEntry x + uptoBulkEntries r
def uptoBulkEntry {H : Type} : Lit × DataW H → Nat
  | (.string bytes, d) => bytes.length + uptoBulk d + 1
  | (_, d) => uptoBulk d + 1
 end
def uptoSmall : (H : Type) → List (DataW H) → Bool := fun _ ds => decide (uptoBulkAll ds ≤ 1048576)
def OpenSpec.upto (s : _root_.Go.ChangeSpec) : _root_.Go.OpenSpec := { _root_.Go.OpenSpec.ofChange s with cond := some uptoSmall }

/-- 'braidworklaw18.StateApart', WHERE WHAT IT READS IS OF BULK AT MOST 1048576: true; the input reads as it did. -/
def stateApartUptoRow : OpenClaim := { program := "ytiijfocdjcjlaaagreat", sum := "c9e404c3c332dba6e8ac0c6876e77f39a230617a25e6bce6728af3615e9f9cee", func := "braidwork/braidworklaw18.StateApart", spec := "stateApart", inPlace := ["slices.overlaps[braidwork/api.Group]"], unfollowed := true, recurses := true, plainKeys := false, apart := false, narrowed := true }
def StateApartUptoSaid : Prop := stateApartUptoRow.holds Tryz.pinned (OpenSpec.upto stateApartSpec)

/-- 'braidworklaw18.StateDirty', WHERE WHAT IT READS IS OF BULK AT MOST 1048576: true; the input reads as it did. -/
def stateDirtyUptoRow : OpenClaim := { program := "ytiijfocdjcjlaaagreat", sum := "c9e404c3c332dba6e8ac0c6876e77f39a230617a25e6bce6728af3615e9f9cee", func := "braidwork/braidworklaw18.StateDirty", spec := "stateDirty", inPlace := ["slices.overlaps[braidwork/api.Group]"], unfollowed := true, recurses := true, plainKeys := false, apart := false, narrowed := true }
def StateDirtyUptoSaid : Prop := stateDirtyUptoRow.holds Tryz.pinned (OpenSpec.upto stateDirtySpec)

/-- 'braidworklaw18.StateGroups', WHERE WHAT IT READS IS OF BULK AT MOST 1048576: true; the input reads as it did. -/
def stateGroupsUptoRow : OpenClaim := { program := "ytiijfocdjcjlaaagreat", sum := "c9e404c3c332dba6e8ac0c6876e77f39a230617a25e6bce6728af3615e9f9cee", func := "braidwork/braidworklaw18.StateGroups", spec := "stateGroups", inPlace := ["slices.overlaps[braidwork/api.Group]"], unfollowed := true, recurses := true, plainKeys := false, apart := false, narrowed := true }
def StateGroupsUptoSaid : Prop := stateGroupsUptoRow.holds Tryz.pinned (OpenSpec.upto stateGroupsSpec)

/-- 'braidworklaw18.StateHeld', WHERE WHAT IT READS IS OF BULK AT MOST 1048576: true; the input reads as it did. -/
def stateHeldUptoRow : OpenClaim := { program := "ytiijfocdjcjlaaagreat", sum := "c9e404c3c332dba6e8ac0c6876e77f39a230617a25e6bce6728af3615e9f9cee", func := "braidwork/braidworklaw18.StateHeld", spec := "stateHeld", inPlace := ["slices.overlaps[braidwork/api.Group]"], unfollowed := true, recurses := true, plainKeys := false, apart := false, narrowed := true }
def StateHeldUptoSaid : Prop := stateHeldUptoRow.holds Tryz.pinned (OpenSpec.upto stateHeldSpec)

/-- 'braidworklaw18.StateGone', WHERE WHAT IT READS IS OF BULK AT MOST 1048576: true; the input reads as it did. -/
def stateGoneUptoRow : OpenClaim := { program := "ytiijfocdjcjlaaagreat", sum := "c9e404c3c332dba6e8ac0c6876e77f39a230617a25e6bce6728af3615e9f9cee", func := "braidwork/braidworklaw18.StateGone", spec := "stateGone", inPlace := ["slices.overlaps[braidwork/api.Group]"], unfollowed := true, recurses := true, plainKeys := false, apart := false, narrowed := true }
def StateGoneUptoSaid : Prop := stateGoneUptoRow.holds Tryz.pinned (OpenSpec.upto stateGoneSpec)

end Rows
end Go.Proofs.YtiijfocdjcjlaaaGreat
