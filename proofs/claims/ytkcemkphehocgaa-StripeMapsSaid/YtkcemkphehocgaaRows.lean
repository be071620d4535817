/-
  No cell of these rows narrows 'for every input' (looked for: loops, veiled, ifaces, maps, wideKeys, modest, calm, conditions, laid).
  DERIVED. THE GIVEN ROWS OF THIS SEAT. 9 by the template 'for every input the law returns true; each argument reads behind the call as it read before'; 0 by the template 'total and deterministic' (their statements: YtkcemkphehocgaaTotals.lean).
  GIVEN WITH THE SEED: the statements are not yours to turn. If you find one false, say at which input.
  Laid BY PROGRAM, IN A SANDBOX (cutbox-rows.mjs): the forced cells as the released guide's own fill.sh prints them over the translation a8af28a87658bbfc… (all of the seat's roots in one cut). By AI agents, Wed Nov 11 2026. No macro, syntax, notation, axiom, sorry.
-/
import Derived.Test.YtkcemkphehocgaaChecked
import GoSem.Claim
import GoSem.ClaimJoined
import GoSem.ClaimMapViews
import Derived.JoinedTies
import Derived.KernelRfl
namespace Go.Proofs.Ytkcemkphehocgaa
/- THE CELL 'sum', in the pinned program and in every row, IS THE sha256 OF THE DUMP (.gsa) THAT YtkcemkphehocgaaProg.lean LOADS. Nothing in Lean hashes anything: it is a label: what it is worth is what the hold of that sum in a sandbox is worth. -/
noncomputable def Try.pinned : Pinned := { name := "ytkcemkphehocgaa", sum := "a8af28a87658bbfc3216d8a627a823abe7c44f1b674ecf31fe05d1fe8a14d637", checked := Try.checked }
namespace Rows
def none {H : Type} : Left H := { results := [], args := [] }

/-- 'braidworklaw03.DiskAgain': WHATEVER THE INPUT: true; the input reads as it did. -/
def diskAgainSpec : ChangeSpec := { name := "diskAgain", fn := fun _ => fun
  | [d1, d2, d3] => { results := [.lit (.bool true)], args := [d1, d2, d3] }
  | _ => none }
def diskAgainRow : OpenClaim := { program := "ytkcemkphehocgaa", sum := "a8af28a87658bbfc3216d8a627a823abe7c44f1b674ecf31fe05d1fe8a14d637", func := "braidwork/braidworklaw03.DiskAgain", spec := "diskAgain", unfollowed := true, recurses := true, apart := false }
def DiskAgainSaid : Prop := diskAgainRow.holds Try.pinned (OpenSpec.ofChange diskAgainSpec)

/-- ITS FALSE NEIGHBOUR: 'it returns false'. Refute it at one input. -/
def diskAgainWrong : ChangeSpec := { name := "diskAgain", fn := fun _ => fun
  | [d1, d2, d3] => { results := [.lit (.bool false)], args := [d1, d2, d3] }
  | _ => none }
def DiskAgainWrongFalsely : Prop := diskAgainRow.holds Try.pinned (OpenSpec.ofChange diskAgainWrong)

/-- 'braidworklaw12.MirrorPlays': WHATEVER THE INPUT: true; the input reads as it did. -/
def mirrorPlaysSpec : ChangeSpec := { name := "mirrorPlays", fn := fun _ => fun
  | [d] => { results := [.lit (.bool true)], args := [d] }
  | _ => none }
def mirrorPlaysRow : OpenClaim := { program := "ytkcemkphehocgaa", sum := "a8af28a87658bbfc3216d8a627a823abe7c44f1b674ecf31fe05d1fe8a14d637", func := "braidwork/braidworklaw12.MirrorPlays", spec := "mirrorPlays", inPlace := ["internal/reflectlite.TypeOf"], unfollowed := true, recurses := true, apart := false }
def MirrorPlaysSaid : Prop := mirrorPlaysRow.holds Try.pinned (OpenSpec.ofChange mirrorPlaysSpec)

/-- ITS FALSE NEIGHBOUR: 'it returns false'. Refute it at one input. -/
def mirrorPlaysWrong : ChangeSpec := { name := "mirrorPlays", fn := fun _ => fun
  | [d] => { results := [.lit (.bool false)], args := [d] }
  | _ => none }
def MirrorPlaysWrongFalsely : Prop := mirrorPlaysRow.holds Try.pinned (OpenSpec.ofChange mirrorPlaysWrong)

/-- 'braidworklaw04.LabelSaves': WHATEVER THE INPUT: true; the input reads as it did. -/
def labelSavesSpec : ChangeSpec := { name := "labelSaves", fn := fun _ => fun
  | [d1, d2, d3, d4, d5, d6] => { results := [.lit (.bool true)], args := [d1, d2, d3, d4, d5, d6] }
  | _ => none }
def labelSavesRow : OpenClaim := { program := "ytkcemkphehocgaa", sum := "a8af28a87658bbfc3216d8a627a823abe7c44f1b674ecf31fe05d1fe8a14d637", func := "braidwork/braidworklaw04.LabelSaves", spec := "labelSaves", unfollowed := true, recurses := true, apart := false }
def LabelSavesSaid : Prop := labelSavesRow.holds Try.pinned (OpenSpec.ofChange labelSavesSpec)

/-- ITS FALSE NEIGHBOUR: 'it returns false'. Refute it at one input. -/
def labelSavesWrong : ChangeSpec := { name := "labelSaves", fn := fun _ => fun
  | [d1, d2, d3, d4, d5, d6] => { results := [.lit (.bool false)], args := [d1, d2, d3, d4, d5, d6] }
  | _ => none }
def LabelSavesWrongFalsely : Prop := labelSavesRow.holds Try.pinned (OpenSpec.ofChange labelSavesWrong)

/-- 'braidworklaw13.StripeMaps': WHATEVER THE INPUT: true; the input reads as it did. -/
def stripeMapsSpec : ChangeSpec := { name := "stripeMaps", fn := fun _ => fun
  | [d1, d2, d3, d4] => { results := [.lit (.bool true)], args := [d1, d2, d3, d4] }
  | _ => none }
def stripeMapsRow : OpenClaim := { program := "ytkcemkphehocgaa", sum := "a8af28a87658bbfc3216d8a627a823abe7c44f1b674ecf31fe05d1fe8a14d637", func := "braidwork/braidworklaw13.StripeMaps", spec := "stripeMaps", unfollowed := true, recurses := true, apart := false }
def StripeMapsSaid : Prop := stripeMapsRow.holds Try.pinned (OpenSpec.ofChange stripeMapsSpec)

/-- ITS FALSE NEIGHBOUR: 'it returns false'. Refute it at one input. -/
def stripeMapsWrong : ChangeSpec := { name := "stripeMaps", fn := fun _ => fun
  | [d1, d2, d3, d4] => { results := [.lit (.bool false)], args := [d1, d2, d3, d4] }
  | _ => none }
def StripeMapsWrongFalsely : Prop := stripeMapsRow.holds Try.pinned (OpenSpec.ofChange stripeMapsWrong)

/-- 'braidworklaw13.StripeHomes': WHATEVER THE INPUT: true; the input reads as it did. -/
def stripeHomesSpec : ChangeSpec := { name := "stripeHomes", fn := fun _ => fun
  | [d] => { results := [.lit (.bool true)], args := [d] }
  | _ => none }
def stripeHomesRow : OpenClaim := { program := "ytkcemkphehocgaa", sum := "a8af28a87658bbfc3216d8a627a823abe7c44f1b674ecf31fe05d1fe8a14d637", func := "braidwork/braidworklaw13.StripeHomes", spec := "stripeHomes", unfollowed := true, recurses := true, apart := false }
def StripeHomesSaid : Prop := stripeHomesRow.holds Try.pinned (OpenSpec.ofChange stripeHomesSpec)

/-- ITS FALSE NEIGHBOUR: 'it returns false'. Refute it at one input. -/
def stripeHomesWrong : ChangeSpec := { name := "stripeHomes", fn := fun _ => fun
  | [d] => { results := [.lit (.bool false)], args := [d] }
  | _ => none }
def StripeHomesWrongFalsely : Prop := stripeHomesRow.holds Try.pinned (OpenSpec.ofChange stripeHomesWrong)

/-- 'braidworklaw13.StripeMates': WHATEVER THE INPUT: true; the input reads as it did. -/
def stripeMatesSpec : ChangeSpec := { name := "stripeMates", fn := fun _ => fun
  | [d1, d2] => { results := [.lit (.bool true)], args := [d1, d2] }
  | _ => none }
def stripeMatesRow : OpenClaim := { program := "ytkcemkphehocgaa", sum := "a8af28a87658bbfc3216d8a627a823abe7c44f1b674ecf31fe05d1fe8a14d637", func := "braidwork/braidworklaw13.StripeMates", spec := "stripeMates", unfollowed := true, recurses := true, apart := false }
def StripeMatesSaid : Prop := stripeMatesRow.holds Try.pinned (OpenSpec.ofChange stripeMatesSpec)

/-- ITS FALSE NEIGHBOUR: 'it returns false'. Refute it at one input. -/
def stripeMatesWrong : ChangeSpec := { name := "stripeMates", fn := fun _ => fun
  | [d1, d2] => { results := [.lit (.bool false)], args := [d1, d2] }
  | _ => none }
def StripeMatesWrongFalsely : Prop := stripeMatesRow.holds Try.pinned (OpenSpec.ofChange stripeMatesWrong)

/-- 'braidworklaw13.StripeTwo': WHATEVER THE INPUT: true; the input reads as it did. -/
def stripeTwoSpec : ChangeSpec := { name := "stripeTwo", fn := fun _ => fun
  | [d1, d2, d3] => { results := [.lit (.bool true)], args := [d1, d2, d3] }
  | _ => none }
def stripeTwoRow : OpenClaim := { program := "ytkcemkphehocgaa", sum := "a8af28a87658bbfc3216d8a627a823abe7c44f1b674ecf31fe05d1fe8a14d637", func := "braidwork/braidworklaw13.StripeTwo", spec := "stripeTwo", unfollowed := true, recurses := true, apart := false }
def StripeTwoSaid : Prop := stripeTwoRow.holds Try.pinned (OpenSpec.ofChange stripeTwoSpec)

/-- ITS FALSE NEIGHBOUR: 'it returns false'. Refute it at one input. -/
def stripeTwoWrong : ChangeSpec := { name := "stripeTwo", fn := fun _ => fun
  | [d1, d2, d3] => { results := [.lit (.bool false)], args := [d1, d2, d3] }
  | _ => none }
def StripeTwoWrongFalsely : Prop := stripeTwoRow.holds Try.pinned (OpenSpec.ofChange stripeTwoWrong)

/-- 'braidworklaw13.StripePair': WHATEVER THE INPUT: true; the input reads as it did. -/
def stripePairSpec : ChangeSpec := { name := "stripePair", fn := fun _ => fun
  | [d1, d2] => { results := [.lit (.bool true)], args := [d1, d2] }
  | _ => none }
def stripePairRow : OpenClaim := { program := "ytkcemkphehocgaa", sum := "a8af28a87658bbfc3216d8a627a823abe7c44f1b674ecf31fe05d1fe8a14d637", func := "braidwork/braidworklaw13.StripePair", spec := "stripePair", unfollowed := true, recurses := true, apart := false }
def StripePairSaid : Prop := stripePairRow.holds Try.pinned (OpenSpec.ofChange stripePairSpec)

/-- ITS FALSE NEIGHBOUR: 'it returns false'. Refute it at one input. -/
def stripePairWrong : ChangeSpec := { name := "stripePair", fn := fun _ => fun
  | [d1, d2] => { results := [.lit (.bool false)], args := [d1, d2] }
  | _ => none }
def StripePairWrongFalsely : Prop := stripePairRow.holds Try.pinned (OpenSpec.ofChange stripePairWrong)

/-- 'braidworklaw13.StripeLost': WHATEVER THE INPUT: true; the input reads as it did. -/
def stripeLostSpec : ChangeSpec := { name := "stripeLost", fn := fun _ => fun
  | [d1, d2, d3, d4] => { results := [.lit (.bool true)], args := [d1, d2, d3, d4] }
  | _ => none }
def stripeLostRow : OpenClaim := { program := "ytkcemkphehocgaa", sum := "a8af28a87658bbfc3216d8a627a823abe7c44f1b674ecf31fe05d1fe8a14d637", func := "braidwork/braidworklaw13.StripeLost", spec := "stripeLost", unfollowed := true, recurses := true, apart := false }
def StripeLostSaid : Prop := stripeLostRow.holds Try.pinned (OpenSpec.ofChange stripeLostSpec)

/-- ITS FALSE NEIGHBOUR: 'it returns false'. Refute it at one input. -/
def stripeLostWrong : ChangeSpec := { name := "stripeLost", fn := fun _ => fun
  | [d1, d2, d3, d4] => { results := [.lit (.bool false)], args := [d1, d2, d3, d4] }
  | _ => none }
def StripeLostWrongFalsely : Prop := stripeLostRow.holds Try.pinned (OpenSpec.ofChange stripeLostWrong)

/- THE SECOND FORM. 'bulk': how many values and letters a reading holds, each counted each time it is reached (what is shared counts as often as it is met; a slice's spare places count too). A statement '..UptoSaid' is the law's where the arguments, and the package variables that the reading takes, are together of bulk at most 1048576: NARROWER than '..Said'. Prove '..Said' where nothing that the law and all that it calls make is longer than what came in: it says more and counts as full. Else prove '..UptoSaid'. A law counts once. -/
mutual
def uptoBulk {H : Type} : DataW H → Nat
  | .lit (.string bytes) => bytes.length + 1
  | .lit _ => 1
  | .nil => 1
  | .ptr d => uptoBulk d + 1
  | .slice elems spare => uptoBulkAll elems + uptoBulkAll spare + 1
  | .agg parts => uptoBulkAll parts + 1
  | .iface _ d => uptoBulk d + 1
  | .map entries => uptoBulkEntries entries + 1
  | .held _ => 1
def uptoBulkAll {H : Type} : List (DataW H) → Nat
  | [] => 0
  | d :: r => uptoBulk d + uptoBulkAll r
def uptoBulkEntries {H : Type} : List (Lit × DataW H) → Nat
  | [] => 0
  | x :: r => uptoBulkEntry x + uptoBulkEntries r
def uptoBulkEntry {H : Type} : Lit × DataW H → Nat
  | (.string bytes, d) => bytes.length + uptoBulk d + 1
  | (_, d) => uptoBulk d + 1
 end
def uptoSmall : (H : Type) → List (DataW H) → Bool := fun _ ds => decide (uptoBulkAll ds ≤ 1048576)
def OpenSpec.upto (s : _root_.Go.ChangeSpec) : _root_.Go.OpenSpec := { _root_.Go.OpenSpec.ofChange s with cond := some uptoSmall }

/-- 'braidworklaw03.DiskAgain', WHERE WHAT IT READS IS OF BULK AT MOST 1048576: true; the input reads as it did. -/
def diskAgainUptoRow : OpenClaim := { program := "ytkcemkphehocgaa", sum := "a8af28a87658bbfc3216d8a627a823abe7c44f1b674ecf31fe05d1fe8a14d637", func := "braidwork/braidworklaw03.DiskAgain", spec := "diskAgain", unfollowed := true, recurses := true, apart := false, narrowed := true }
def DiskAgainUptoSaid : Prop := diskAgainUptoRow.holds Try.pinned (OpenSpec.upto diskAgainSpec)

/-- 'braidworklaw12.MirrorPlays', WHERE WHAT IT READS IS OF BULK AT MOST 1048576: true; the input reads as it did. -/
def mirrorPlaysUptoRow : OpenClaim := { program := "ytkcemkphehocgaa", sum := "a8af28a87658bbfc3216d8a627a823abe7c44f1b674ecf31fe05d1fe8a14d637", func := "braidwork/braidworklaw12.MirrorPlays", spec := "mirrorPlays", inPlace := ["internal/reflectlite.TypeOf"], unfollowed := true, recurses := true, apart := false, narrowed := true }
def MirrorPlaysUptoSaid : Prop := mirrorPlaysUptoRow.holds Try.pinned (OpenSpec.upto mirrorPlaysSpec)

/-- 'braidworklaw04.LabelSaves', WHERE WHAT IT READS IS OF BULK AT MOST 1048576: true; the input reads as it did. -/
def labelSavesUptoRow : OpenClaim := { program := "ytkcemkphehocgaa", sum := "a8af28a87658bbfc3216d8a627a823abe7c44f1b674ecf31fe05d1fe8a14d637", func := "braidwork/braidworklaw04.LabelSaves", spec := "labelSaves", unfollowed := true, recurses := true, apart := false, narrowed := true }
def LabelSavesUptoSaid : Prop := labelSavesUptoRow.holds Try.pinned (OpenSpec.upto labelSavesSpec)

/-- 'braidworklaw13.StripeMaps', WHERE WHAT IT READS IS OF BULK AT MOST 1048576: true; the input reads as it did. -/
def stripeMapsUptoRow : OpenClaim := { program := "ytkcemkphehocgaa", sum := "a8af28a87658bbfc3216d8a627a823abe7c44f1b674ecf31fe05d1fe8a14d637", func := "braidwork/braidworklaw13.StripeMaps", spec := "stripeMaps", unfollowed := true, recurses := true, apart := false, narrowed := true }
def StripeMapsUptoSaid : Prop := stripeMapsUptoRow.holds Try.pinned (OpenSpec.upto stripeMapsSpec)

/-- 'braidworklaw13.StripeHomes', WHERE WHAT IT READS IS OF BULK AT MOST 1048576: true; the input reads as it did. -/
def stripeHomesUptoRow : OpenClaim := { program := "ytkcemkphehocgaa", sum := "a8af28a87658bbfc3216d8a627a823abe7c44f1b674ecf31fe05d1fe8a14d637", func := "braidwork/braidworklaw13.StripeHomes", spec := "stripeHomes", unfollowed := true, recurses := true, apart := false, narrowed := true }
def StripeHomesUptoSaid : Prop := stripeHomesUptoRow.holds Try.pinned (OpenSpec.upto stripeHomesSpec)

/-- 'braidworklaw13.StripeMates', WHERE WHAT IT READS IS OF BULK AT MOST 1048576: true; the input reads as it did. -/
def stripeMatesUptoRow : OpenClaim := { program := "ytkcemkphehocgaa", sum := "a8af28a87658bbfc3216d8a627a823abe7c44f1b674ecf31fe05d1fe8a14d637", func := "braidwork/braidworklaw13.StripeMates", spec := "stripeMates", unfollowed := true, recurses := true, apart := false, narrowed := true }
def StripeMatesUptoSaid : Prop := stripeMatesUptoRow.holds Try.pinned (OpenSpec.upto stripeMatesSpec)

/-- 'braidworklaw13.StripeTwo', WHERE WHAT IT READS IS OF BULK AT MOST 1048576: true; the input reads as it did. -/
def stripeTwoUptoRow : OpenClaim := { program := "ytkcemkphehocgaa", sum := "a8af28a87658bbfc3216d8a627a823abe7c44f1b674ecf31fe05d1fe8a14d637", func := "braidwork/braidworklaw13.StripeTwo", spec := "stripeTwo", unfollowed := true, recurses := true, apart := false, narrowed := true }
def StripeTwoUptoSaid : Prop := stripeTwoUptoRow.holds Try.pinned (OpenSpec.upto stripeTwoSpec)

/-- 'braidworklaw13.StripePair', WHERE WHAT IT READS IS OF BULK AT MOST 1048576: true; the input reads as it did. -/
def stripePairUptoRow : OpenClaim := { program := "ytkcemkphehocgaa", sum := "a8af28a87658bbfc3216d8a627a823abe7c44f1b674ecf31fe05d1fe8a14d637", func := "braidwork/braidworklaw13.StripePair", spec := "stripePair", unfollowed := true, recurses := true, apart := false, narrowed := true }
def StripePairUptoSaid : Prop := stripePairUptoRow.holds Try.pinned (OpenSpec.upto stripePairSpec)

/-- 'braidworklaw13.StripeLost', WHERE WHAT IT READS IS OF BULK AT MOST 1048576: true; the input reads as it did. -/
def stripeLostUptoRow : OpenClaim := { program := "ytkcemkphehocgaa", sum := "a8af28a87658bbfc3216d8a627a823abe7c44f1b674ecf31fe05d1fe8a14d637", func := "braidwork/braidworklaw13.StripeLost", spec := "stripeLost", unfollowed := true, recurses := true, apart := false, narrowed := true }
def StripeLostUptoSaid : Prop := stripeLostUptoRow.holds Try.pinned (OpenSpec.upto stripeLostSpec)

end Rows
end Go.Proofs.Ytkcemkphehocgaa
