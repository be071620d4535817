/-
  No cell of these rows narrows 'for every input' (looked for: loops, veiled, ifaces, maps, wideKeys, modest, calm, conditions, laid).
  DERIVED. THE GIVEN ROWS OF THIS SEAT. 12 by the template 'for every input the law returns true; each argument reads behind the call as it read before'; 0 by the template 'total and deterministic' (their statements: YtcbghpcohbgcjaaTotals.lean).
  GIVEN WITH THE SEED: the statements are not yours to turn. If you find one false, say at which input.
  Laid BY PROGRAM, IN A SANDBOX (cutbox-rows.mjs): the forced cells as the released guide's own fill.sh prints them over the translation 68119984baf223af… (all of the seat's roots in one cut). By AI agents, Wed Nov 11 2026. No macro, syntax, notation, axiom, sorry.
-/
import Derived.Test.YtcbghpcohbgcjaaChecked
import GoSem.Claim
import GoSem.ClaimJoined
import GoSem.ClaimMapViews
import Derived.JoinedTies
import Derived.KernelRfl
namespace Go.Proofs.Ytcbghpcohbgcjaa
/- THE CELL 'sum', in the pinned program and in every row, IS THE sha256 OF THE DUMP (.gsa) THAT YtcbghpcohbgcjaaProg.lean LOADS. Nothing in Lean hashes anything: it is a label: what it is worth is what the hold of that sum in a sandbox is worth. -/
noncomputable def Try.pinned : Pinned := { name := "ytcbghpcohbgcjaa", sum := "68119984baf223af1c557aa0950a123aec979b3de269267eaf2a3f3a78700f16", checked := Try.checked }
namespace Rows
def none {H : Type} : Left H := { results := [], args := [] }

/-- 'braidworklaw03.DiskFails': WHATEVER THE INPUT: true; the input reads as it did. -/
def diskFailsSpec : ChangeSpec := { name := "diskFails", fn := fun _ => fun
  | [d1, d2, d3] => { results := [.lit (.bool true)], args := [d1, d2, d3] }
  | _ => none }
def diskFailsRow : OpenClaim := { program := "ytcbghpcohbgcjaa", sum := "68119984baf223af1c557aa0950a123aec979b3de269267eaf2a3f3a78700f16", func := "braidwork/braidworklaw03.DiskFails", spec := "diskFails", unfollowed := true, recurses := true, apart := false }
def DiskFailsSaid : Prop := diskFailsRow.holds Try.pinned (OpenSpec.ofChange diskFailsSpec)

/-- ITS FALSE NEIGHBOUR: 'it returns false'. Refute it at one input. -/
def diskFailsWrong : ChangeSpec := { name := "diskFails", fn := fun _ => fun
  | [d1, d2, d3] => { results := [.lit (.bool false)], args := [d1, d2, d3] }
  | _ => none }
def DiskFailsWrongFalsely : Prop := diskFailsRow.holds Try.pinned (OpenSpec.ofChange diskFailsWrong)

/-- 'braidworklaw03.DiskAgain': WHATEVER THE INPUT: true; the input reads as it did. -/
def diskAgainSpec : ChangeSpec := { name := "diskAgain", fn := fun _ => fun
  | [d1, d2, d3] => { results := [.lit (.bool true)], args := [d1, d2, d3] }
  | _ => none }
def diskAgainRow : OpenClaim := { program := "ytcbghpcohbgcjaa", sum := "68119984baf223af1c557aa0950a123aec979b3de269267eaf2a3f3a78700f16", func := "braidwork/braidworklaw03.DiskAgain", spec := "diskAgain", unfollowed := true, recurses := true, apart := false }
def DiskAgainSaid : Prop := diskAgainRow.holds Try.pinned (OpenSpec.ofChange diskAgainSpec)

/-- ITS FALSE NEIGHBOUR: 'it returns false'. Refute it at one input. -/
def diskAgainWrong : ChangeSpec := { name := "diskAgain", fn := fun _ => fun
  | [d1, d2, d3] => { results := [.lit (.bool false)], args := [d1, d2, d3] }
  | _ => none }
def DiskAgainWrongFalsely : Prop := diskAgainRow.holds Try.pinned (OpenSpec.ofChange diskAgainWrong)

/-- 'braidworklaw12.MirrorHomes': WHATEVER THE INPUT: true; the input reads as it did. -/
def mirrorHomesSpec : ChangeSpec := { name := "mirrorHomes", fn := fun _ => fun
  | [d1, d2] => { results := [.lit (.bool true)], args := [d1, d2] }
  | _ => none }
def mirrorHomesRow : OpenClaim := { program := "ytcbghpcohbgcjaa", sum := "68119984baf223af1c557aa0950a123aec979b3de269267eaf2a3f3a78700f16", func := "braidwork/braidworklaw12.MirrorHomes", spec := "mirrorHomes", inPlace := ["internal/reflectlite.TypeOf"], unfollowed := true, recurses := true, apart := false }
def MirrorHomesSaid : Prop := mirrorHomesRow.holds Try.pinned (OpenSpec.ofChange mirrorHomesSpec)

/-- ITS FALSE NEIGHBOUR: 'it returns false'. Refute it at one input. -/
def mirrorHomesWrong : ChangeSpec := { name := "mirrorHomes", fn := fun _ => fun
  | [d1, d2] => { results := [.lit (.bool false)], args := [d1, d2] }
  | _ => none }
def MirrorHomesWrongFalsely : Prop := mirrorHomesRow.holds Try.pinned (OpenSpec.ofChange mirrorHomesWrong)

/-- 'braidworklaw12.MirrorCopies': WHATEVER THE INPUT: true; the input reads as it did. -/
def mirrorCopiesSpec : ChangeSpec := { name := "mirrorCopies", fn := fun _ => fun
  | [d1, d2, d3, d4, d5] => { results := [.lit (.bool true)], args := [d1, d2, d3, d4, d5] }
  | _ => none }
def mirrorCopiesRow : OpenClaim := { program := "ytcbghpcohbgcjaa", sum := "68119984baf223af1c557aa0950a123aec979b3de269267eaf2a3f3a78700f16", func := "braidwork/braidworklaw12.MirrorCopies", spec := "mirrorCopies", inPlace := ["internal/reflectlite.TypeOf"], unfollowed := true, recurses := true, apart := false }
def MirrorCopiesSaid : Prop := mirrorCopiesRow.holds Try.pinned (OpenSpec.ofChange mirrorCopiesSpec)

/-- ITS FALSE NEIGHBOUR: 'it returns false'. Refute it at one input. -/
def mirrorCopiesWrong : ChangeSpec := { name := "mirrorCopies", fn := fun _ => fun
  | [d1, d2, d3, d4, d5] => { results := [.lit (.bool false)], args := [d1, d2, d3, d4, d5] }
  | _ => none }
def MirrorCopiesWrongFalsely : Prop := mirrorCopiesRow.holds Try.pinned (OpenSpec.ofChange mirrorCopiesWrong)

/-- 'braidworklaw12.MirrorLives': WHATEVER THE INPUT: true; the input reads as it did. -/
def mirrorLivesSpec : ChangeSpec := { name := "mirrorLives", fn := fun _ => fun
  | [d1, d2, d3] => { results := [.lit (.bool true)], args := [d1, d2, d3] }
  | _ => none }
def mirrorLivesRow : OpenClaim := { program := "ytcbghpcohbgcjaa", sum := "68119984baf223af1c557aa0950a123aec979b3de269267eaf2a3f3a78700f16", func := "braidwork/braidworklaw12.MirrorLives", spec := "mirrorLives", inPlace := ["internal/reflectlite.TypeOf"], unfollowed := true, recurses := true, apart := false }
def MirrorLivesSaid : Prop := mirrorLivesRow.holds Try.pinned (OpenSpec.ofChange mirrorLivesSpec)

/-- ITS FALSE NEIGHBOUR: 'it returns false'. Refute it at one input. -/
def mirrorLivesWrong : ChangeSpec := { name := "mirrorLives", fn := fun _ => fun
  | [d1, d2, d3] => { results := [.lit (.bool false)], args := [d1, d2, d3] }
  | _ => none }
def MirrorLivesWrongFalsely : Prop := mirrorLivesRow.holds Try.pinned (OpenSpec.ofChange mirrorLivesWrong)

/-- 'braidworklaw12.MirrorAlike': WHATEVER THE INPUT: true; the input reads as it did. -/
def mirrorAlikeSpec : ChangeSpec := { name := "mirrorAlike", fn := fun _ => fun
  | [d1, d2, d3] => { results := [.lit (.bool true)], args := [d1, d2, d3] }
  | _ => none }
def mirrorAlikeRow : OpenClaim := { program := "ytcbghpcohbgcjaa", sum := "68119984baf223af1c557aa0950a123aec979b3de269267eaf2a3f3a78700f16", func := "braidwork/braidworklaw12.MirrorAlike", spec := "mirrorAlike", inPlace := ["internal/reflectlite.TypeOf"], unfollowed := true, recurses := true, apart := false }
def MirrorAlikeSaid : Prop := mirrorAlikeRow.holds Try.pinned (OpenSpec.ofChange mirrorAlikeSpec)

/-- ITS FALSE NEIGHBOUR: 'it returns false'. Refute it at one input. -/
def mirrorAlikeWrong : ChangeSpec := { name := "mirrorAlike", fn := fun _ => fun
  | [d1, d2, d3] => { results := [.lit (.bool false)], args := [d1, d2, d3] }
  | _ => none }
def MirrorAlikeWrongFalsely : Prop := mirrorAlikeRow.holds Try.pinned (OpenSpec.ofChange mirrorAlikeWrong)

/-- 'braidworklaw12.MirrorDown': WHATEVER THE INPUT: true; the input reads as it did. -/
def mirrorDownSpec : ChangeSpec := { name := "mirrorDown", fn := fun _ => fun
  | [d1, d2, d3, d4] => { results := [.lit (.bool true)], args := [d1, d2, d3, d4] }
  | _ => none }
def mirrorDownRow : OpenClaim := { program := "ytcbghpcohbgcjaa", sum := "68119984baf223af1c557aa0950a123aec979b3de269267eaf2a3f3a78700f16", func := "braidwork/braidworklaw12.MirrorDown", spec := "mirrorDown", inPlace := ["internal/reflectlite.TypeOf"], unfollowed := true, recurses := true, apart := false }
def MirrorDownSaid : Prop := mirrorDownRow.holds Try.pinned (OpenSpec.ofChange mirrorDownSpec)

/-- ITS FALSE NEIGHBOUR: 'it returns false'. Refute it at one input. -/
def mirrorDownWrong : ChangeSpec := { name := "mirrorDown", fn := fun _ => fun
  | [d1, d2, d3, d4] => { results := [.lit (.bool false)], args := [d1, d2, d3, d4] }
  | _ => none }
def MirrorDownWrongFalsely : Prop := mirrorDownRow.holds Try.pinned (OpenSpec.ofChange mirrorDownWrong)

/-- 'braidworklaw04.LabelPlaces': WHATEVER THE INPUT: true; the input reads as it did. -/
def labelPlacesSpec : ChangeSpec := { name := "labelPlaces", fn := fun _ => fun
  | [d1, d2, d3] => { results := [.lit (.bool true)], args := [d1, d2, d3] }
  | _ => none }
def labelPlacesRow : OpenClaim := { program := "ytcbghpcohbgcjaa", sum := "68119984baf223af1c557aa0950a123aec979b3de269267eaf2a3f3a78700f16", func := "braidwork/braidworklaw04.LabelPlaces", spec := "labelPlaces", unfollowed := true, recurses := true, apart := false }
def LabelPlacesSaid : Prop := labelPlacesRow.holds Try.pinned (OpenSpec.ofChange labelPlacesSpec)

/-- ITS FALSE NEIGHBOUR: 'it returns false'. Refute it at one input. -/
def labelPlacesWrong : ChangeSpec := { name := "labelPlaces", fn := fun _ => fun
  | [d1, d2, d3] => { results := [.lit (.bool false)], args := [d1, d2, d3] }
  | _ => none }
def LabelPlacesWrongFalsely : Prop := labelPlacesRow.holds Try.pinned (OpenSpec.ofChange labelPlacesWrong)

/-- 'braidworklaw04.LabelNewer': WHATEVER THE INPUT: true; the input reads as it did. -/
def labelNewerSpec : ChangeSpec := { name := "labelNewer", fn := fun _ => fun
  | [d1, d2, d3] => { results := [.lit (.bool true)], args := [d1, d2, d3] }
  | _ => none }
def labelNewerRow : OpenClaim := { program := "ytcbghpcohbgcjaa", sum := "68119984baf223af1c557aa0950a123aec979b3de269267eaf2a3f3a78700f16", func := "braidwork/braidworklaw04.LabelNewer", spec := "labelNewer", unfollowed := true, recurses := true, apart := false }
def LabelNewerSaid : Prop := labelNewerRow.holds Try.pinned (OpenSpec.ofChange labelNewerSpec)

/-- ITS FALSE NEIGHBOUR: 'it returns false'. Refute it at one input. -/
def labelNewerWrong : ChangeSpec := { name := "labelNewer", fn := fun _ => fun
  | [d1, d2, d3] => { results := [.lit (.bool false)], args := [d1, d2, d3] }
  | _ => none }
def LabelNewerWrongFalsely : Prop := labelNewerRow.holds Try.pinned (OpenSpec.ofChange labelNewerWrong)

/-- 'braidworklaw12.MirrorPlays': WHATEVER THE INPUT: true; the input reads as it did. -/
def mirrorPlaysSpec : ChangeSpec := { name := "mirrorPlays", fn := fun _ => fun
  | [d] => { results := [.lit (.bool true)], args := [d] }
  | _ => none }
def mirrorPlaysRow : OpenClaim := { program := "ytcbghpcohbgcjaa", sum := "68119984baf223af1c557aa0950a123aec979b3de269267eaf2a3f3a78700f16", func := "braidwork/braidworklaw12.MirrorPlays", spec := "mirrorPlays", inPlace := ["internal/reflectlite.TypeOf"], unfollowed := true, recurses := true, apart := false }
def MirrorPlaysSaid : Prop := mirrorPlaysRow.holds Try.pinned (OpenSpec.ofChange mirrorPlaysSpec)

/-- ITS FALSE NEIGHBOUR: 'it returns false'. Refute it at one input. -/
def mirrorPlaysWrong : ChangeSpec := { name := "mirrorPlays", fn := fun _ => fun
  | [d] => { results := [.lit (.bool false)], args := [d] }
  | _ => none }
def MirrorPlaysWrongFalsely : Prop := mirrorPlaysRow.holds Try.pinned (OpenSpec.ofChange mirrorPlaysWrong)

/-- 'braidworklaw04.LabelSaves': WHATEVER THE INPUT: true; the input reads as it did. -/
def labelSavesSpec : ChangeSpec := { name := "labelSaves", fn := fun _ => fun
  | [d1, d2, d3, d4, d5, d6] => { results := [.lit (.bool true)], args := [d1, d2, d3, d4, d5, d6] }
  | _ => none }
def labelSavesRow : OpenClaim := { program := "ytcbghpcohbgcjaa", sum := "68119984baf223af1c557aa0950a123aec979b3de269267eaf2a3f3a78700f16", func := "braidwork/braidworklaw04.LabelSaves", spec := "labelSaves", unfollowed := true, recurses := true, apart := false }
def LabelSavesSaid : Prop := labelSavesRow.holds Try.pinned (OpenSpec.ofChange labelSavesSpec)

/-- ITS FALSE NEIGHBOUR: 'it returns false'. Refute it at one input. -/
def labelSavesWrong : ChangeSpec := { name := "labelSaves", fn := fun _ => fun
  | [d1, d2, d3, d4, d5, d6] => { results := [.lit (.bool false)], args := [d1, d2, d3, d4, d5, d6] }
  | _ => none }
def LabelSavesWrongFalsely : Prop := labelSavesRow.holds Try.pinned (OpenSpec.ofChange labelSavesWrong)

/-- 'braidworklaw04.LabelLasts': WHATEVER THE INPUT: true; the input reads as it did. -/
def labelLastsSpec : ChangeSpec := { name := "labelLasts", fn := fun _ => fun
  | [d1, d2, d3, d4] => { results := [.lit (.bool true)], args := [d1, d2, d3, d4] }
  | _ => none }
def labelLastsRow : OpenClaim := { program := "ytcbghpcohbgcjaa", sum := "68119984baf223af1c557aa0950a123aec979b3de269267eaf2a3f3a78700f16", func := "braidwork/braidworklaw04.LabelLasts", spec := "labelLasts", unfollowed := true, recurses := true, apart := false }
def LabelLastsSaid : Prop := labelLastsRow.holds Try.pinned (OpenSpec.ofChange labelLastsSpec)

/-- ITS FALSE NEIGHBOUR: 'it returns false'. Refute it at one input. -/
def labelLastsWrong : ChangeSpec := { name := "labelLasts", fn := fun _ => fun
  | [d1, d2, d3, d4] => { results := [.lit (.bool false)], args := [d1, d2, d3, d4] }
  | _ => none }
def LabelLastsWrongFalsely : Prop := labelLastsRow.holds Try.pinned (OpenSpec.ofChange labelLastsWrong)

/- THE SECOND FORM. 'bulk': how many values and letters a reading holds, each counted each time it is reached (what is shared counts as often as it is met; a slice's spare places count too). A statement '..UptoSaid' is the law's where the arguments, and the package variables that the reading takes, are together of bulk at most 1048576: NARROWER than '..Said'. Prove '..Said' where nothing that the law and all that it calls make is longer than what came in: it says more and counts as full. Else prove '..UptoSaid'. A law counts once. -/
mutual
def uptoBulk {H : Type} : DataW H → Nat
  | .lit (.string bytes) => bytes.length + 1
  | .lit _ => 1
  | .nil => 1
  | .ptr d => uptoBulk d + 1
  | .slice elems spare => uptoBulkAll elems + uptoBulkAll spare + 1
  | .agg parts => uptoBulkAll parts + 1
  | .iface _ d => uptoBulk d + 1
  | .map entries => uptoBulkEntries entries + 1
  | .held _ => 1
def uptoBulkAll {H : Type} : List (DataW H) → Nat
  | [] => 0
  | d :: r => uptoBulk d + uptoBulkAll r
def uptoBulkEntries {H : Type} : List (Lit × DataW H) → Nat
  | [] => 0
  | x :: r => uptoBulkEntry x + uptoBulkEntries r
def uptoBulkEntry {H : Type} : Lit × DataW H → Nat
  | (.string bytes, d) => bytes.length + uptoBulk d + 1
  | (_, d) => uptoBulk d + 1
 end
def uptoSmall : (H : Type) → List (DataW H) → Bool := fun _ ds => decide (uptoBulkAll ds ≤ 1048576)
def OpenSpec.upto (s : _root_.Go.ChangeSpec) : _root_.Go.OpenSpec := { _root_.Go.OpenSpec.ofChange s with cond := some uptoSmall }

/-- 'braidworklaw03.DiskFails', WHERE WHAT IT READS IS OF BULK AT MOST 1048576: true; the input reads as it did. -/
def diskFailsUptoRow : OpenClaim := { program := "ytcbghpcohbgcjaa", sum := "68119984baf223af1c557aa0950a123aec979b3de269267eaf2a3f3a78700f16", func := "braidwork/braidworklaw03.DiskFails", spec := "diskFails", unfollowed := true, recurses := true, apart := false, narrowed := true }
def DiskFailsUptoSaid : Prop := diskFailsUptoRow.holds Try.pinned (OpenSpec.upto diskFailsSpec)

/-- 'braidworklaw03.DiskAgain', WHERE WHAT IT READS IS OF BULK AT MOST 1048576: true; the input reads as it did. -/
def diskAgainUptoRow : OpenClaim := { program := "ytcbghpcohbgcjaa", sum := "68119984baf223af1c557aa0950a123aec979b3de269267eaf2a3f3a78700f16", func := "braidwork/braidworklaw03.DiskAgain", spec := "diskAgain", unfollowed := true, recurses := true, apart := false, narrowed := true }
def DiskAgainUptoSaid : Prop := diskAgainUptoRow.holds Try.pinned (OpenSpec.upto diskAgainSpec)

/-- 'braidworklaw12.MirrorHomes', WHERE WHAT IT READS IS OF BULK AT MOST 1048576: true; the input reads as it did. -/
def mirrorHomesUptoRow : OpenClaim := { program := "ytcbghpcohbgcjaa", sum := "68119984baf223af1c557aa0950a123aec979b3de269267eaf2a3f3a78700f16", func := "braidwork/braidworklaw12.MirrorHomes", spec := "mirrorHomes", inPlace := ["internal/reflectlite.TypeOf"], unfollowed := true, recurses := true, apart := false, narrowed := true }
def MirrorHomesUptoSaid : Prop := mirrorHomesUptoRow.holds Try.pinned (OpenSpec.upto mirrorHomesSpec)

/-- 'braidworklaw12.MirrorCopies', WHERE WHAT IT READS IS OF BULK AT MOST 1048576: true; the input reads as it did. -/
def mirrorCopiesUptoRow : OpenClaim := { program := "ytcbghpcohbgcjaa", sum := "68119984baf223af1c557aa0950a123aec979b3de269267eaf2a3f3a78700f16", func := "braidwork/braidworklaw12.MirrorCopies", spec := "mirrorCopies", inPlace := ["internal/reflectlite.TypeOf"], unfollowed := true, recurses := true, apart := false, narrowed := true }
def MirrorCopiesUptoSaid : Prop := mirrorCopiesUptoRow.holds Try.pinned (OpenSpec.upto mirrorCopiesSpec)

/-- 'braidworklaw12.MirrorLives', WHERE WHAT IT READS IS OF BULK AT MOST 1048576: true; the input reads as it did. -/
def mirrorLivesUptoRow : OpenClaim := { program := "ytcbghpcohbgcjaa", sum := "68119984baf223af1c557aa0950a123aec979b3de269267eaf2a3f3a78700f16", func := "braidwork/braidworklaw12.MirrorLives", spec := "mirrorLives", inPlace := ["internal/reflectlite.TypeOf"], unfollowed := true, recurses := true, apart := false, narrowed := true }
def MirrorLivesUptoSaid : Prop := mirrorLivesUptoRow.holds Try.pinned (OpenSpec.upto mirrorLivesSpec)

/-- 'braidworklaw12.MirrorAlike', WHERE WHAT IT READS IS OF BULK AT MOST 1048576: true; the input reads as it did. -/
def mirrorAlikeUptoRow : OpenClaim := { program := "ytcbghpcohbgcjaa", sum := "68119984baf223af1c557aa0950a123aec979b3de269267eaf2a3f3a78700f16", func := "braidwork/braidworklaw12.MirrorAlike", spec := "mirrorAlike", inPlace := ["internal/reflectlite.TypeOf"], unfollowed := true, recurses := true, apart := false, narrowed := true }
def MirrorAlikeUptoSaid : Prop := mirrorAlikeUptoRow.holds Try.pinned (OpenSpec.upto mirrorAlikeSpec)

/-- 'braidworklaw12.MirrorDown', WHERE WHAT IT READS IS OF BULK AT MOST 1048576: true; the input reads as it did. -/
def mirrorDownUptoRow : OpenClaim := { program := "ytcbghpcohbgcjaa", sum := "68119984baf223af1c557aa0950a123aec979b3de269267eaf2a3f3a78700f16", func := "braidwork/braidworklaw12.MirrorDown", spec := "mirrorDown", inPlace := ["internal/reflectlite.TypeOf"], unfollowed := true, recurses := true, apart := false, narrowed := true }
def MirrorDownUptoSaid : Prop := mirrorDownUptoRow.holds Try.pinned (OpenSpec.upto mirrorDownSpec)

/-- 'braidworklaw04.LabelPlaces', WHERE WHAT IT READS IS OF BULK AT MOST 1048576: true; the input reads as it did. -/
def labelPlacesUptoRow : OpenClaim := { program := "ytcbghpcohbgcjaa", sum := "68119984baf223af1c557aa0950a123aec979b3de269267eaf2a3f3a78700f16", func := "braidwork/braidworklaw04.LabelPlaces", spec := "labelPlaces", unfollowed := true, recurses := true, apart := false, narrowed := true }
def LabelPlacesUptoSaid : Prop := labelPlacesUptoRow.holds Try.pinned (OpenSpec.upto labelPlacesSpec)

/-- 'braidworklaw04.LabelNewer', WHERE WHAT IT READS IS OF BULK AT MOST 1048576: true; the input reads as it did. -/
def labelNewerUptoRow : OpenClaim := { program := "ytcbghpcohbgcjaa", sum := "68119984baf223af1c557aa0950a123aec979b3de269267eaf2a3f3a78700f16", func := "braidwork/braidworklaw04.LabelNewer", spec := "labelNewer", unfollowed := true, recurses := true, apart := false, narrowed := true }
def LabelNewerUptoSaid : Prop := labelNewerUptoRow.holds Try.pinned (OpenSpec.upto labelNewerSpec)

/-- 'braidworklaw12.MirrorPlays', WHERE WHAT IT READS IS OF BULK AT MOST 1048576: true; the input reads as it did. -/
def mirrorPlaysUptoRow : OpenClaim := { program := "ytcbghpcohbgcjaa", sum := "68119984baf223af1c557aa0950a123aec979b3de269267eaf2a3f3a78700f16", func := "braidwork/braidworklaw12.MirrorPlays", spec := "mirrorPlays", inPlace := ["internal/reflectlite.TypeOf"], unfollowed := true, recurses := true, apart := false, narrowed := true }
def MirrorPlaysUptoSaid : Prop := mirrorPlaysUptoRow.holds Try.pinned (OpenSpec.upto mirrorPlaysSpec)

/-- 'braidworklaw04.LabelSaves', WHERE WHAT IT READS IS OF BULK AT MOST 1048576: true; the input reads as it did. -/
def labelSavesUptoRow : OpenClaim := { program := "ytcbghpcohbgcjaa", sum := "68119984baf223af1c557aa0950a123aec979b3de269267eaf2a3f3a78700f16", func := "braidwork/braidworklaw04.LabelSaves", spec := "labelSaves", unfollowed := true, recurses := true, apart := false, narrowed := true }
def LabelSavesUptoSaid : Prop := labelSavesUptoRow.holds Try.pinned (OpenSpec.upto labelSavesSpec)

/-- 'braidworklaw04.LabelLasts', WHERE WHAT IT READS IS OF BULK AT MOST 1048576: true; the input reads as it did. -/
def labelLastsUptoRow : OpenClaim := { program := "ytcbghpcohbgcjaa", sum := "68119984baf223af1c557aa0950a123aec979b3de269267eaf2a3f3a78700f16", func := "braidwork/braidworklaw04.LabelLasts", spec := "labelLasts", unfollowed := true, recurses := true, apart := false, narrowed := true }
def LabelLastsUptoSaid : Prop := labelLastsUptoRow.holds Try.pinned (OpenSpec.upto labelLastsSpec)

end Rows
end Go.Proofs.Ytcbghpcohbgcjaa
