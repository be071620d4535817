/-
  No cell of these rows narrows 'for every input' (looked for: loops, veiled, ifaces, maps, wideKeys, modest, calm, conditions, laid).
  DERIVED. THE GIVEN ROWS OF THIS SEAT. 5 by the template 'for every input the law returns true; each argument reads behind the call as it read before'; 0 by the template 'total and deterministic' (their statements: YtglplhmclfekfaaTotals.lean).
  GIVEN WITH THE SEED: the statements are not yours to turn. If you find one false, say at which input.
  Laid BY PROGRAM, IN A SANDBOX (cutbox-rows.mjs): the forced cells as the released guide's own fill.sh prints them over the translation dba6d99337dd5a89… (all of the seat's roots in one cut). By AI agents, Wed Nov 11 2026. No macro, syntax, notation, axiom, sorry.
-/
import Derived.Test.YtglplhmclfekfaaChecked
import GoSem.Claim
import GoSem.ClaimJoined
import GoSem.ClaimMapViews
import Derived.JoinedTies
import Derived.KernelRfl
namespace Go.Proofs.Ytglplhmclfekfaa
/- THE CELL 'sum', in the pinned program and in every row, IS THE sha256 OF THE DUMP (.gsa) THAT YtglplhmclfekfaaProg.lean LOADS. Nothing in Lean hashes anything: it is a label: what it is worth is what the hold of that sum in a sandbox is worth. -/
noncomputable def Try.pinned : Pinned := { name := "ytglplhmclfekfaa", sum := "dba6d99337dd5a89bdf35f340ed1a111440c31401c242951a2ea74052ce2a861", checked := Try.checked }
namespace Rows
def none {H : Type} : Left H := { results := [], args := [] }

/-- 'braidworklaw03.DiskAgain': WHATEVER THE INPUT: true; the input reads as it did. -/
def diskAgainSpec : ChangeSpec := { name := "diskAgain", fn := fun _ => fun
  | [d1, d2, d3] => { results := [.lit (.bool true)], args := [d1, d2, d3] }
  | _ => none }
def diskAgainRow : OpenClaim := { program := "ytglplhmclfekfaa", sum := "dba6d99337dd5a89bdf35f340ed1a111440c31401c242951a2ea74052ce2a861", func := "braidwork/braidworklaw03.DiskAgain", spec := "diskAgain", unfollowed := true, recurses := true, apart := false }
def DiskAgainSaid : Prop := diskAgainRow.holds Try.pinned (OpenSpec.ofChange diskAgainSpec)

/-- ITS FALSE NEIGHBOUR: 'it returns false'. Refute it at one input. -/
def diskAgainWrong : ChangeSpec := { name := "diskAgain", fn := fun _ => fun
  | [d1, d2, d3] => { results := [.lit (.bool false)], args := [d1, d2, d3] }
  | _ => none }
def DiskAgainWrongFalsely : Prop := diskAgainRow.holds Try.pinned (OpenSpec.ofChange diskAgainWrong)

/-- 'braidworklaw14.UsagePlays': WHATEVER THE INPUT: true; the input reads as it did. -/
def usagePlaysSpec : ChangeSpec := { name := "usagePlays", fn := fun _ => fun
  | [d] => { results := [.lit (.bool true)], args := [d] }
  | _ => none }
def usagePlaysRow : OpenClaim := { program := "ytglplhmclfekfaa", sum := "dba6d99337dd5a89bdf35f340ed1a111440c31401c242951a2ea74052ce2a861", func := "braidwork/braidworklaw14.UsagePlays", spec := "usagePlays", inPlace := ["maps.clone"], unfollowed := true, recurses := true, apart := false }
def UsagePlaysSaid : Prop := usagePlaysRow.holds Try.pinned (OpenSpec.ofChange usagePlaysSpec)

/-- ITS FALSE NEIGHBOUR: 'it returns false'. Refute it at one input. -/
def usagePlaysWrong : ChangeSpec := { name := "usagePlays", fn := fun _ => fun
  | [d] => { results := [.lit (.bool false)], args := [d] }
  | _ => none }
def UsagePlaysWrongFalsely : Prop := usagePlaysRow.holds Try.pinned (OpenSpec.ofChange usagePlaysWrong)

/-- 'braidworklaw14.UsageDrops': WHATEVER THE INPUT: true; the input reads as it did. -/
def usageDropsSpec : ChangeSpec := { name := "usageDrops", fn := fun _ => fun
  | [d1, d2] => { results := [.lit (.bool true)], args := [d1, d2] }
  | _ => none }
def usageDropsRow : OpenClaim := { program := "ytglplhmclfekfaa", sum := "dba6d99337dd5a89bdf35f340ed1a111440c31401c242951a2ea74052ce2a861", func := "braidwork/braidworklaw14.UsageDrops", spec := "usageDrops", inPlace := ["maps.clone"], unfollowed := true, recurses := true, apart := false }
def UsageDropsSaid : Prop := usageDropsRow.holds Try.pinned (OpenSpec.ofChange usageDropsSpec)

/-- ITS FALSE NEIGHBOUR: 'it returns false'. Refute it at one input. -/
def usageDropsWrong : ChangeSpec := { name := "usageDrops", fn := fun _ => fun
  | [d1, d2] => { results := [.lit (.bool false)], args := [d1, d2] }
  | _ => none }
def UsageDropsWrongFalsely : Prop := usageDropsRow.holds Try.pinned (OpenSpec.ofChange usageDropsWrong)

/-- 'braidworklaw12.MirrorPlays': WHATEVER THE INPUT: true; the input reads as it did. -/
def mirrorPlaysSpec : ChangeSpec := { name := "mirrorPlays", fn := fun _ => fun
  | [d] => { results := [.lit (.bool true)], args := [d] }
  | _ => none }
def mirrorPlaysRow : OpenClaim := { program := "ytglplhmclfekfaa", sum := "dba6d99337dd5a89bdf35f340ed1a111440c31401c242951a2ea74052ce2a861", func := "braidwork/braidworklaw12.MirrorPlays", spec := "mirrorPlays", inPlace := ["internal/reflectlite.TypeOf"], unfollowed := true, recurses := true, apart := false }
def MirrorPlaysSaid : Prop := mirrorPlaysRow.holds Try.pinned (OpenSpec.ofChange mirrorPlaysSpec)

/-- ITS FALSE NEIGHBOUR: 'it returns false'. Refute it at one input. -/
def mirrorPlaysWrong : ChangeSpec := { name := "mirrorPlays", fn := fun _ => fun
  | [d] => { results := [.lit (.bool false)], args := [d] }
  | _ => none }
def MirrorPlaysWrongFalsely : Prop := mirrorPlaysRow.holds Try.pinned (OpenSpec.ofChange mirrorPlaysWrong)

/-- 'braidworklaw04.LabelSaves': WHATEVER THE INPUT: true; the input reads as it did. -/
def labelSavesSpec : ChangeSpec := { name := "labelSaves", fn := fun _ => fun
  | [d1, d2, d3, d4, d5, d6] => { results := [.lit (.bool true)], args := [d1, d2, d3, d4, d5, d6] }
  | _ => none }
def labelSavesRow : OpenClaim := { program := "ytglplhmclfekfaa", sum := "dba6d99337dd5a89bdf35f340ed1a111440c31401c242951a2ea74052ce2a861", func := "braidwork/braidworklaw04.LabelSaves", spec := "labelSaves", unfollowed := true, recurses := true, apart := false }
def LabelSavesSaid : Prop := labelSavesRow.holds Try.pinned (OpenSpec.ofChange labelSavesSpec)

/-- ITS FALSE NEIGHBOUR: 'it returns false'. Refute it at one input. -/
def labelSavesWrong : ChangeSpec := { name := "labelSaves", fn := fun _ => fun
  | [d1, d2, d3, d4, d5, d6] => { results := [.lit (.bool false)], args := [d1, d2, d3, d4, d5, d6] }
  | _ => none }
def LabelSavesWrongFalsely : Prop := labelSavesRow.holds Try.pinned (OpenSpec.ofChange labelSavesWrong)

/- THE SECOND FORM. 'bulk': how many values and letters a reading holds, each counted each time it is reached (what is shared counts as often as it is met; a slice's spare places count too). A statement '..UptoSaid' is the law's where the arguments, and the package variables that the reading takes, are together of bulk at most 1048576: NARROWER than '..Said'. Prove '..Said' where nothing that the law and all that it calls make is longer than what came in: it says more and counts as full. Else prove '..UptoSaid'. A law counts once. -/
mutual
def uptoBulk {H : Type} : DataW H → Nat
  | .lit (.string bytes) => bytes.length + 1
  | .lit _ => 1
  | .nil => 1
  | .ptr d => uptoBulk d + 1
  | .slice elems spare => uptoBulkAll elems + uptoBulkAll spare + 1
  | .agg parts => uptoBulkAll parts + 1
  | .iface _ d => uptoBulk d + 1
  | .map entries => uptoBulkEntries entries + 1
  | .held _ => 1
def uptoBulkAll {H : Type} : List (DataW H) → Nat
  | [] => 0
  | d :: r => uptoBulk d + uptoBulkAll r
def uptoBulkEntries {H : Type} : List (Lit × DataW H) → Nat
  | [] => 0
  | x :: r => uptoBulkEntry x + uptoBulkEntries r
def uptoBulkEntry {H : Type} : Lit × DataW H → Nat
  | (.string bytes, d) => bytes.length + uptoBulk d + 1
  | (_, d) => uptoBulk d + 1
 end
def uptoSmall : (H : Type) → List (DataW H) → Bool := fun _ ds => decide (uptoBulkAll ds ≤ 1048576)
def OpenSpec.upto (s : _root_.Go.ChangeSpec) : _root_.Go.OpenSpec := { _root_.Go.OpenSpec.ofChange s with cond := some uptoSmall }

/-- 'braidworklaw03.DiskAgain', WHERE WHAT IT READS IS OF BULK AT MOST 1048576: true; the input reads as it did. -/
def diskAgainUptoRow : OpenClaim := { program := "ytglplhmclfekfaa", sum := "dba6d99337dd5a89bdf35f340ed1a111440c31401c242951a2ea74052ce2a861", func := "braidwork/braidworklaw03.DiskAgain", spec := "diskAgain", unfollowed := true, recurses := true, apart := false, narrowed := true }
def DiskAgainUptoSaid : Prop := diskAgainUptoRow.holds Try.pinned (OpenSpec.upto diskAgainSpec)

/-- 'braidworklaw14.UsagePlays', WHERE WHAT IT READS IS OF BULK AT MOST 1048576: true; the input reads as it did. -/
def usagePlaysUptoRow : OpenClaim := { program := "ytglplhmclfekfaa", sum := "dba6d99337dd5a89bdf35f340ed1a111440c31401c242951a2ea74052ce2a861", func := "braidwork/braidworklaw14.UsagePlays", spec := "usagePlays", inPlace := ["maps.clone"], unfollowed := true, recurses := true, apart := false, narrowed := true }
def UsagePlaysUptoSaid : Prop := usagePlaysUptoRow.holds Try.pinned (OpenSpec.upto usagePlaysSpec)

/-- 'braidworklaw14.UsageDrops', WHERE WHAT IT READS IS OF BULK AT MOST 1048576: true; the input reads as it did. -/
def usageDropsUptoRow : OpenClaim := { program := "ytglplhmclfekfaa", sum := "dba6d99337dd5a89bdf35f340ed1a111440c31401c242951a2ea74052ce2a861", func := "braidwork/braidworklaw14.UsageDrops", spec := "usageDrops", inPlace := ["maps.clone"], unfollowed := true, recurses := true, apart := false, narrowed := true }
def UsageDropsUptoSaid : Prop := usageDropsUptoRow.holds Try.pinned (OpenSpec.upto usageDropsSpec)

/-- 'braidworklaw12.MirrorPlays', WHERE WHAT IT READS IS OF BULK AT MOST 1048576: true; the input reads as it did. -/
def mirrorPlaysUptoRow : OpenClaim := { program := "ytglplhmclfekfaa", sum := "dba6d99337dd5a89bdf35f340ed1a111440c31401c242951a2ea74052ce2a861", func := "braidwork/braidworklaw12.MirrorPlays", spec := "mirrorPlays", inPlace := ["internal/reflectlite.TypeOf"], unfollowed := true, recurses := true, apart := false, narrowed := true }
def MirrorPlaysUptoSaid : Prop := mirrorPlaysUptoRow.holds Try.pinned (OpenSpec.upto mirrorPlaysSpec)

/-- 'braidworklaw04.LabelSaves', WHERE WHAT IT READS IS OF BULK AT MOST 1048576: true; the input reads as it did. -/
def labelSavesUptoRow : OpenClaim := { program := "ytglplhmclfekfaa", sum := "dba6d99337dd5a89bdf35f340ed1a111440c31401c242951a2ea74052ce2a861", func := "braidwork/braidworklaw04.LabelSaves", spec := "labelSaves", unfollowed := true, recurses := true, apart := false, narrowed := true }
def LabelSavesUptoSaid : Prop := labelSavesUptoRow.holds Try.pinned (OpenSpec.upto labelSavesSpec)

end Rows
end Go.Proofs.Ytglplhmclfekfaa
