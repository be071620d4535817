/-
  No cell of these rows narrows 'for every input' (looked for: loops, veiled, ifaces, maps, wideKeys, modest, calm, conditions, laid).
  DERIVED. THE GIVEN ROWS OF THIS SEAT. 7 by the template 'for every input the law returns true; each argument reads behind the call as it read before'; 0 by the template 'total and deterministic' (their statements: YtpnpconphpbcaaaTotals.lean).
  GIVEN WITH THE SEED: the statements are not yours to turn. If you find one false, say at which input.
  Laid BY PROGRAM, IN A SANDBOX (cutbox-rows.mjs): the forced cells as the released guide's own fill.sh prints them over the translation 431afaa4840a69ff… (all of the seat's roots in one cut). By AI agents, Wed Nov 11 2026. No macro, syntax, notation, axiom, sorry.
-/
import Derived.Test.YtpnpconphpbcaaaChecked
import GoSem.Claim
import GoSem.ClaimJoined
import GoSem.ClaimMapViews
import Derived.JoinedTies
import Derived.KernelRfl
namespace Go.Proofs.Ytpnpconphpbcaaa
/- THE CELL 'sum', in the pinned program and in every row, IS THE sha256 OF THE DUMP (.gsa) THAT YtpnpconphpbcaaaProg.lean LOADS. Nothing in Lean hashes anything: it is a label: what it is worth is what the hold of that sum in a sandbox is worth. -/
noncomputable def Try.pinned : Pinned := { name := "ytpnpconphpbcaaa", sum := "431afaa4840a69ff58bc1c7baa6ed0b4aac21f45eeb2e451db00960c2812f773", checked := Try.checked }
namespace Rows
def none {H : Type} : Left H := { results := [], args := [] }

/-- 'braidworklaw04.LabelTells': WHATEVER THE INPUT: true; the input reads as it did. -/
def labelTellsSpec : ChangeSpec := { name := "labelTells", fn := fun _ => fun
  | [d1, d2] => { results := [.lit (.bool true)], args := [d1, d2] }
  | _ => none }
def labelTellsRow : OpenClaim := { program := "ytpnpconphpbcaaa", sum := "431afaa4840a69ff58bc1c7baa6ed0b4aac21f45eeb2e451db00960c2812f773", func := "braidwork/braidworklaw04.LabelTells", spec := "labelTells", unfollowed := true, recurses := true, apart := false }
def LabelTellsSaid : Prop := labelTellsRow.holds Try.pinned (OpenSpec.ofChange labelTellsSpec)

/-- ITS FALSE NEIGHBOUR: 'it returns false'. Refute it at one input. -/
def labelTellsWrong : ChangeSpec := { name := "labelTells", fn := fun _ => fun
  | [d1, d2] => { results := [.lit (.bool false)], args := [d1, d2] }
  | _ => none }
def LabelTellsWrongFalsely : Prop := labelTellsRow.holds Try.pinned (OpenSpec.ofChange labelTellsWrong)

/-- 'braidworklaw04.LabelBack': WHATEVER THE INPUT: true; the input reads as it did. -/
def labelBackSpec : ChangeSpec := { name := "labelBack", fn := fun _ => fun
  | [d1, d2] => { results := [.lit (.bool true)], args := [d1, d2] }
  | _ => none }
def labelBackRow : OpenClaim := { program := "ytpnpconphpbcaaa", sum := "431afaa4840a69ff58bc1c7baa6ed0b4aac21f45eeb2e451db00960c2812f773", func := "braidwork/braidworklaw04.LabelBack", spec := "labelBack", unfollowed := true, recurses := true, apart := false }
def LabelBackSaid : Prop := labelBackRow.holds Try.pinned (OpenSpec.ofChange labelBackSpec)

/-- ITS FALSE NEIGHBOUR: 'it returns false'. Refute it at one input. -/
def labelBackWrong : ChangeSpec := { name := "labelBack", fn := fun _ => fun
  | [d1, d2] => { results := [.lit (.bool false)], args := [d1, d2] }
  | _ => none }
def LabelBackWrongFalsely : Prop := labelBackRow.holds Try.pinned (OpenSpec.ofChange labelBackWrong)

/-- 'braidworklaw04.LabelMembers': WHATEVER THE INPUT: true; the input reads as it did. -/
def labelMembersSpec : ChangeSpec := { name := "labelMembers", fn := fun _ => fun
  | [d1, d2] => { results := [.lit (.bool true)], args := [d1, d2] }
  | _ => none }
def labelMembersRow : OpenClaim := { program := "ytpnpconphpbcaaa", sum := "431afaa4840a69ff58bc1c7baa6ed0b4aac21f45eeb2e451db00960c2812f773", func := "braidwork/braidworklaw04.LabelMembers", spec := "labelMembers", unfollowed := true, recurses := true, apart := false }
def LabelMembersSaid : Prop := labelMembersRow.holds Try.pinned (OpenSpec.ofChange labelMembersSpec)

/-- ITS FALSE NEIGHBOUR: 'it returns false'. Refute it at one input. -/
def labelMembersWrong : ChangeSpec := { name := "labelMembers", fn := fun _ => fun
  | [d1, d2] => { results := [.lit (.bool false)], args := [d1, d2] }
  | _ => none }
def LabelMembersWrongFalsely : Prop := labelMembersRow.holds Try.pinned (OpenSpec.ofChange labelMembersWrong)

/-- 'braidworklaw14.UsageEmptiest': WHATEVER THE INPUT: true; the input reads as it did. -/
def usageEmptiestSpec : ChangeSpec := { name := "usageEmptiest", fn := fun _ => fun
  | [d1, d2] => { results := [.lit (.bool true)], args := [d1, d2] }
  | _ => none }
def usageEmptiestRow : OpenClaim := { program := "ytpnpconphpbcaaa", sum := "431afaa4840a69ff58bc1c7baa6ed0b4aac21f45eeb2e451db00960c2812f773", func := "braidwork/braidworklaw14.UsageEmptiest", spec := "usageEmptiest", unfollowed := true, recurses := true, apart := false }
def UsageEmptiestSaid : Prop := usageEmptiestRow.holds Try.pinned (OpenSpec.ofChange usageEmptiestSpec)

/-- ITS FALSE NEIGHBOUR: 'it returns false'. Refute it at one input. -/
def usageEmptiestWrong : ChangeSpec := { name := "usageEmptiest", fn := fun _ => fun
  | [d1, d2] => { results := [.lit (.bool false)], args := [d1, d2] }
  | _ => none }
def UsageEmptiestWrongFalsely : Prop := usageEmptiestRow.holds Try.pinned (OpenSpec.ofChange usageEmptiestWrong)

/-- 'braidworklaw14.UsageHoles': WHATEVER THE INPUT: true; the input reads as it did. -/
def usageHolesSpec : ChangeSpec := { name := "usageHoles", fn := fun _ => fun
  | [d1, d2] => { results := [.lit (.bool true)], args := [d1, d2] }
  | _ => none }
def usageHolesRow : OpenClaim := { program := "ytpnpconphpbcaaa", sum := "431afaa4840a69ff58bc1c7baa6ed0b4aac21f45eeb2e451db00960c2812f773", func := "braidwork/braidworklaw14.UsageHoles", spec := "usageHoles", unfollowed := true, recurses := true, apart := false }
def UsageHolesSaid : Prop := usageHolesRow.holds Try.pinned (OpenSpec.ofChange usageHolesSpec)

/-- ITS FALSE NEIGHBOUR: 'it returns false'. Refute it at one input. -/
def usageHolesWrong : ChangeSpec := { name := "usageHoles", fn := fun _ => fun
  | [d1, d2] => { results := [.lit (.bool false)], args := [d1, d2] }
  | _ => none }
def UsageHolesWrongFalsely : Prop := usageHolesRow.holds Try.pinned (OpenSpec.ofChange usageHolesWrong)

/-- 'braidworklaw14.UsageMoves': WHATEVER THE INPUT: true; the input reads as it did. -/
def usageMovesSpec : ChangeSpec := { name := "usageMoves", fn := fun _ => fun
  | [d] => { results := [.lit (.bool true)], args := [d] }
  | _ => none }
def usageMovesRow : OpenClaim := { program := "ytpnpconphpbcaaa", sum := "431afaa4840a69ff58bc1c7baa6ed0b4aac21f45eeb2e451db00960c2812f773", func := "braidwork/braidworklaw14.UsageMoves", spec := "usageMoves", unfollowed := true, recurses := true, apart := false }
def UsageMovesSaid : Prop := usageMovesRow.holds Try.pinned (OpenSpec.ofChange usageMovesSpec)

/-- ITS FALSE NEIGHBOUR: 'it returns false'. Refute it at one input. -/
def usageMovesWrong : ChangeSpec := { name := "usageMoves", fn := fun _ => fun
  | [d] => { results := [.lit (.bool false)], args := [d] }
  | _ => none }
def UsageMovesWrongFalsely : Prop := usageMovesRow.holds Try.pinned (OpenSpec.ofChange usageMovesWrong)

/-- 'braidworklaw14.UsageTurned': WHATEVER THE INPUT: true; the input reads as it did. -/
def usageTurnedSpec : ChangeSpec := { name := "usageTurned", fn := fun _ => fun
  | [d1, d2] => { results := [.lit (.bool true)], args := [d1, d2] }
  | _ => none }
def usageTurnedRow : OpenClaim := { program := "ytpnpconphpbcaaa", sum := "431afaa4840a69ff58bc1c7baa6ed0b4aac21f45eeb2e451db00960c2812f773", func := "braidwork/braidworklaw14.UsageTurned", spec := "usageTurned", unfollowed := true, recurses := true, apart := false }
def UsageTurnedSaid : Prop := usageTurnedRow.holds Try.pinned (OpenSpec.ofChange usageTurnedSpec)

/-- ITS FALSE NEIGHBOUR: 'it returns false'. Refute it at one input. -/
def usageTurnedWrong : ChangeSpec := { name := "usageTurned", fn := fun _ => fun
  | [d1, d2] => { results := [.lit (.bool false)], args := [d1, d2] }
  | _ => none }
def UsageTurnedWrongFalsely : Prop := usageTurnedRow.holds Try.pinned (OpenSpec.ofChange usageTurnedWrong)

/- THE SECOND FORM. 'bulk': how many values and letters a reading holds, each counted each time it is reached (what is shared counts as often as it is met; a slice's spare places count too). A statement '..UptoSaid' is the law's where the arguments, and the package variables that the reading takes, are together of bulk at most 1048576: NARROWER than '..Said'. Prove '..Said' where nothing that the law and all that it calls make is longer than what came in: it says more and counts as full. Else prove '..UptoSaid'. A law counts once. -/
mutual
def uptoBulk {H : Type} : DataW H → Nat
  | .lit (.string bytes) => bytes.length + 1
  | .lit _ => 1
  | .nil => 1
  | .ptr d => uptoBulk d + 1
  | .slice elems spare => uptoBulkAll elems + uptoBulkAll spare + 1
  | .agg parts => uptoBulkAll parts + 1
  | .iface _ d => uptoBulk d + 1
  | .map entries => uptoBulkEntries entries + 1
  | .held _ => 1
def uptoBulkAll {H : Type} : List (DataW H) → Nat
  | [] => 0
  | d :: r => uptoBulk d + uptoBulkAll r
def uptoBulkEntries {H : Type} : List (Lit × DataW H) → Nat
  | [] => 0
  | x :: r => uptoBulkEntry x + uptoBulkEntries r
def uptoBulkEntry {H : Type} : Lit × DataW H → Nat
  | (.string bytes, d) => bytes.length + uptoBulk d + 1
  | (_, d) => uptoBulk d + 1
 end
def uptoSmall : (H : Type) → List (DataW H) → Bool := fun _ ds => decide (uptoBulkAll ds ≤ 1048576)
def OpenSpec.upto (s : _root_.Go.ChangeSpec) : _root_.Go.OpenSpec := { _root_.Go.OpenSpec.ofChange s with cond := some uptoSmall }

/-- 'braidworklaw04.LabelTells', WHERE WHAT IT READS IS OF BULK AT MOST 1048576: true; the input reads as it did. -/
def labelTellsUptoRow : OpenClaim := { program := "ytpnpconphpbcaaa", sum := "431afaa4840a69ff58bc1c7baa6ed0b4aac21f45eeb2e451db00960c2812f773", func := "braidwork/braidworklaw04.LabelTells", spec := "labelTells", unfollowed := true, recurses := true, apart := false, narrowed := true }
def LabelTellsUptoSaid : Prop := labelTellsUptoRow.holds Try.pinned (OpenSpec.upto labelTellsSpec)

/-- 'braidworklaw04.LabelBack', WHERE WHAT IT READS IS OF BULK AT MOST 1048576: true; the input reads as it did. -/
def labelBackUptoRow : OpenClaim := { program := "ytpnpconphpbcaaa", sum := "431afaa4840a69ff58bc1c7baa6ed0b4aac21f45eeb2e451db00960c2812f773", func := "braidwork/braidworklaw04.LabelBack", spec := "labelBack", unfollowed := true, recurses := true, apart := false, narrowed := true }
def LabelBackUptoSaid : Prop := labelBackUptoRow.holds Try.pinned (OpenSpec.upto labelBackSpec)

/-- 'braidworklaw04.LabelMembers', WHERE WHAT IT READS IS OF BULK AT MOST 1048576: true; the input reads as it did. -/
def labelMembersUptoRow : OpenClaim := { program := "ytpnpconphpbcaaa", sum := "431afaa4840a69ff58bc1c7baa6ed0b4aac21f45eeb2e451db00960c2812f773", func := "braidwork/braidworklaw04.LabelMembers", spec := "labelMembers", unfollowed := true, recurses := true, apart := false, narrowed := true }
def LabelMembersUptoSaid : Prop := labelMembersUptoRow.holds Try.pinned (OpenSpec.upto labelMembersSpec)

/-- 'braidworklaw14.UsageEmptiest', WHERE WHAT IT READS IS OF BULK AT MOST 1048576: true; the input reads as it did. -/
def usageEmptiestUptoRow : OpenClaim := { program := "ytpnpconphpbcaaa", sum := "431afaa4840a69ff58bc1c7baa6ed0b4aac21f45eeb2e451db00960c2812f773", func := "braidwork/braidworklaw14.UsageEmptiest", spec := "usageEmptiest", unfollowed := true, recurses := true, apart := false, narrowed := true }
def UsageEmptiestUptoSaid : Prop := usageEmptiestUptoRow.holds Try.pinned (OpenSpec.upto usageEmptiestSpec)

/-- 'braidworklaw14.UsageHoles', WHERE WHAT IT READS IS OF BULK AT MOST 1048576: true; the input reads as it did. -/
def usageHolesUptoRow : OpenClaim := { program := "ytpnpconphpbcaaa", sum := "431afaa4840a69ff58bc1c7baa6ed0b4aac21f45eeb2e451db00960c2812f773", func := "braidwork/braidworklaw14.UsageHoles", spec := "usageHoles", unfollowed := true, recurses := true, apart := false, narrowed := true }
def UsageHolesUptoSaid : Prop := usageHolesUptoRow.holds Try.pinned (OpenSpec.upto usageHolesSpec)

/-- 'braidworklaw14.UsageMoves', WHERE WHAT IT READS IS OF BULK AT MOST 1048576: true; the input reads as it did. -/
def usageMovesUptoRow : OpenClaim := { program := "ytpnpconphpbcaaa", sum := "431afaa4840a69ff58bc1c7baa6ed0b4aac21f45eeb2e451db00960c2812f773", func := "braidwork/braidworklaw14.UsageMoves", spec := "usageMoves", unfollowed := true, recurses := true, apart := false, narrowed := true }
def UsageMovesUptoSaid : Prop := usageMovesUptoRow.holds Try.pinned (OpenSpec.upto usageMovesSpec)

/-- 'braidworklaw14.UsageTurned', WHERE WHAT IT READS IS OF BULK AT MOST 1048576: true; the input reads as it did. -/
def usageTurnedUptoRow : OpenClaim := { program := "ytpnpconphpbcaaa", sum := "431afaa4840a69ff58bc1c7baa6ed0b4aac21f45eeb2e451db00960c2812f773", func := "braidwork/braidworklaw14.UsageTurned", spec := "usageTurned", unfollowed := true, recurses := true, apart := false, narrowed := true }
def UsageTurnedUptoSaid : Prop := usageTurnedUptoRow.holds Try.pinned (OpenSpec.upto usageTurnedSpec)

end Rows
end Go.Proofs.Ytpnpconphpbcaaa
