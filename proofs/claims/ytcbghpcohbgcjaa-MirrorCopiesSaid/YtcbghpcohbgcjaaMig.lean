/- A place and an extent that come in by value. -/
import Derived.Test.YtcbghpcohbgcjaaBase
import Derived.ProofKit
import Derived.OpenShut
import Derived.ChangeOld
namespace Go.Proofs.Ytcbghpcohbgcjaa
open Go.RowKit
set_option linter.unusedVariables false
set_option linter.unusedSimpArgs false

section
variable {H : Type} {enc : TypeId × Value → H} {w : World} {base b0 : Nat} {spare : Nat → Bool} {held : Bool} {fuel : Nat} {v : Value} {x : DataW H × List MemPlace} {r : Reach}
set_option maxRecDepth 100000
theorem open_plc (hv : Value.okWide Try.prog w r b0 31 v) (h : DataW.trod enc Try.prog w base spare held fuel 31 v.cells.toList = some x) :
    ∃ d a : Int, v = .agg #[.int .i64 d, .int .i64 a] := by
  obtain ⟨cs, rfl, hsz⟩ := WideShapes.okWide_struct Try.underlying31 hv
  have hC : Try.prog.cellsOf 31 = 2 := by kernel_rfl
  have hC1 : Try.prog.cellsOf 3 = 1 := by kernel_rfl
  rw [hC] at hsz
  obtain ⟨xs, n', _, _, _, hxl, hf⟩ := DataW.trod_struct Try.underlying31 h
  replace hxl : xs.length = 2 := hxl
  obtain ⟨cs⟩ := cs
  rcases cs with _ | ⟨c0, _ | ⟨c1, _ | ⟨c2, r⟩⟩⟩ <;> simp at hsz
  have f0 : DataW.trod enc Try.prog w base spare held n' 3 ((([c0, c1] : List Value).drop 0).take (Try.prog.cellsOf 3)) = xs[0]? := hf 0 _ rfl
  have f1 : DataW.trod enc Try.prog w base spare held n' 3 ((([c0, c1] : List Value).drop 1).take (Try.prog.cellsOf 3)) = xs[1]? := hf 1 _ rfl
  rw [hC1, List.getElem?_eq_getElem (by omega)] at f0 f1
  obtain ⟨z0, hz0, _, _⟩ := DataW.trod_int Try.underlying3 f0
  obtain ⟨z1, hz1, _, _⟩ := DataW.trod_int Try.underlying3 f1
  simp at hz0 hz1
  subst hz0 hz1
  exact ⟨z0, z1, rfl⟩
theorem open_ext (hv : Value.okWide Try.prog w r b0 45 v) (h : DataW.trod enc Try.prog w base spare held fuel 45 v.cells.toList = some x) :
    ∃ d a : Int, v = .agg #[.int .i64 d, .int .i64 a] := by
  obtain ⟨cs, rfl, hsz⟩ := WideShapes.okWide_struct Try.underlying45 hv
  have hC : Try.prog.cellsOf 45 = 2 := by kernel_rfl
  have hC1 : Try.prog.cellsOf 3 = 1 := by kernel_rfl
  rw [hC] at hsz
  obtain ⟨xs, n', _, _, _, hxl, hf⟩ := DataW.trod_struct Try.underlying45 h
  replace hxl : xs.length = 2 := hxl
  obtain ⟨cs⟩ := cs
  rcases cs with _ | ⟨c0, _ | ⟨c1, _ | ⟨c2, r⟩⟩⟩ <;> simp at hsz
  have f0 : DataW.trod enc Try.prog w base spare held n' 3 ((([c0, c1] : List Value).drop 0).take (Try.prog.cellsOf 3)) = xs[0]? := hf 0 _ rfl
  have f1 : DataW.trod enc Try.prog w base spare held n' 3 ((([c0, c1] : List Value).drop 1).take (Try.prog.cellsOf 3)) = xs[1]? := hf 1 _ rfl
  rw [hC1, List.getElem?_eq_getElem (by omega)] at f0 f1
  obtain ⟨z0, hz0, _, _⟩ := DataW.trod_int Try.underlying3 f0
  obtain ⟨z1, hz1, _, _⟩ := DataW.trod_int Try.underlying3 f1
  simp at hz0 hz1
  subst hz0 hz1
  exact ⟨z0, z1, rfl⟩
end
end Go.Proofs.Ytcbghpcohbgcjaa
