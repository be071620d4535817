/- A label and a sector that come in by value. -/
import Derived.Test.YtglplhmclfekfaaFdA
import Derived.ProofKit
import Derived.OpenShut
import Derived.ChangeOld
namespace Go.Proofs.Ytglplhmclfekfaa
open Go.RowKit
set_option linter.unusedVariables false
set_option linter.unusedSimpArgs false

theorem okWide_array {P : Program} {w : World} {r : Reach} {base : Nat} {t n e : Nat} {v : Value} (ht : P.underlying t = some (.array n e)) (h : Value.okWide P w r base t v) : ∃ cs, v = .agg cs ∧ cs.size = P.cellsOf t := by
  simp only [Value.okWide, ht] at h
  obtain ⟨cs, h1, h2, _⟩ := h
  exact ⟨cs, h1, h2⟩
section
variable {H : Type} {enc : TypeId × Value → H} {w : World} {base b0 : Nat} {spare : Nat → Bool} {held : Bool} {fuel : Nat} {v : Value} {x : DataW H × List MemPlace} {r : Reach}
set_option maxRecDepth 100000
theorem open_lab (hv : Value.okWide Try.prog w r b0 80 v) (h : DataW.trod enc Try.prog w base spare held fuel 80 v.cells.toList = some x) :
    ∃ (l : Lab) (oa : Option Addr) (n cap : Nat), v = l.val (.slice oa n cap) ∧ MSrc w (.slice oa n cap) l.ms := by
  obtain ⟨cs, rfl, hsz⟩ := WideShapes.okWide_struct Try.underlying80 hv
  have hC : Try.prog.cellsOf 80 = 5 := by kernel_rfl
  have hC1 : Try.prog.cellsOf 3 = 1 := by kernel_rfl
  have hC2 : Try.prog.cellsOf 78 = 1 := by kernel_rfl
  rw [hC] at hsz
  obtain ⟨xs, n', _, _, _, hxl, hf⟩ := DataW.trod_struct Try.underlying80 h
  replace hxl : xs.length = 5 := hxl
  obtain ⟨cs⟩ := cs
  rcases cs with _ | ⟨c0, _ | ⟨c1, _ | ⟨c2, _ | ⟨c3, _ | ⟨c4, _ | ⟨c5, r⟩⟩⟩⟩⟩⟩ <;> simp at hsz
  have f0 : DataW.trod enc Try.prog w base spare held n' 3 ((([c0, c1, c2, c3, c4] : List Value).drop 0).take (Try.prog.cellsOf 3)) = xs[0]? := hf 0 _ rfl
  have f1 : DataW.trod enc Try.prog w base spare held n' 3 ((([c0, c1, c2, c3, c4] : List Value).drop 1).take (Try.prog.cellsOf 3)) = xs[1]? := hf 1 _ rfl
  have f2 : DataW.trod enc Try.prog w base spare held n' 3 ((([c0, c1, c2, c3, c4] : List Value).drop 2).take (Try.prog.cellsOf 3)) = xs[2]? := hf 2 _ rfl
  have f3 : DataW.trod enc Try.prog w base spare held n' 3 ((([c0, c1, c2, c3, c4] : List Value).drop 3).take (Try.prog.cellsOf 3)) = xs[3]? := hf 3 _ rfl
  have f4 : DataW.trod enc Try.prog w base spare held n' 78 ((([c0, c1, c2, c3, c4] : List Value).drop 4).take (Try.prog.cellsOf 78)) = xs[4]? := hf 4 _ rfl
  rw [hC1, List.getElem?_eq_getElem (by omega)] at f0 f1 f2 f3
  rw [hC2, List.getElem?_eq_getElem (by omega)] at f4
  obtain ⟨z0, hz0, _, _⟩ := DataW.trod_int Try.underlying3 f0
  obtain ⟨z1, hz1, _, _⟩ := DataW.trod_int Try.underlying3 f1
  obtain ⟨z2, hz2, _, _⟩ := DataW.trod_int Try.underlying3 f2
  obtain ⟨z3, hz3, _, _⟩ := DataW.trod_int Try.underlying3 f3
  simp at hz0 hz1 hz2 hz3
  subst hz0 hz1 hz2 hz3
  simp only [List.drop_succ_cons, List.drop_zero, List.take_succ_cons, List.take_zero] at f4
  obtain ⟨ms, hm⟩ := open_mems f4
  have hm' := hm
  rcases hm with ⟨oa, cap, rfl, _⟩ | ⟨b, off, cap, rfl, _⟩
  · exact ⟨⟨z0, z1, z2, z3, ms⟩, _, _, _, rfl, hm'⟩
  · exact ⟨⟨z0, z1, z2, z3, ms⟩, _, _, _, rfl, hm'⟩
theorem open_sec (hv : Value.okWide Try.prog w r b0 34 v) (h : DataW.trod enc Try.prog w base spare held fuel 34 v.cells.toList = some x) :
    ∃ bs : List Int, v = secV bs ∧ bs.length = 64 ∧ ∀ c ∈ bs, IsByte c := by
  have hu : Try.prog.underlying 34 = some (.array 64 5) := by kernel_rfl
  have hC : Try.prog.cellsOf 34 = 64 := by kernel_rfl
  have hC1 : Try.prog.cellsOf 5 = 1 := by kernel_rfl
  obtain ⟨cs, rfl, hsz⟩ := okWide_array hu hv
  rw [hC] at hsz
  obtain ⟨xs, m, _, _, _, hxl, hf⟩ := DataW.trod_array hu h
  have key : ∀ i (hi : i < cs.toList.length), ∃ z : Int, cs.toList[i] = .int .u8 z ∧ IsByte z := by
    intro i hi
    have hi' : i < 64 := by simpa [hsz] using hi
    have h1 := hf i hi'
    rw [hC1, Nat.mul_one, List.getElem?_eq_getElem (by omega)] at h1
    have h2 : ((Value.agg cs).cells.toList.drop i).take 1 = [cs.toList[i]] := by
      show (cs.toList.drop i).take 1 = _
      rw [List.drop_eq_getElem_cons hi]; rfl
    rw [h2] at h1
    obtain ⟨z, hz, _, hw⟩ := DataW.trod_int Try.underlying5 h1
    simp at hz
    refine ⟨z, hz, ?_⟩
    simp [Lit.wf, IntKind.min, IntKind.max, IntKind.signed, IntKind.bits] at hw
    exact ⟨by omega, by omega⟩
  have hl : cs.toList.length = 64 := by simpa using hsz
  have hall : ∀ l : List Value, (∀ i (hi : i < l.length), ∃ z : Int, l[i] = .int .u8 z ∧ IsByte z) → ∃ bs : List Int, l = u8s bs ∧ ∀ c ∈ bs, IsByte c := by
    intro l
    induction l with
    | nil => intro _; exact ⟨[], rfl, by simp⟩
    | cons a l ih =>
      intro h
      obtain ⟨z, hz, hb⟩ := h 0 (by simp)
      obtain ⟨bs, e, hbs⟩ := ih fun i hi => by
        have h2 := h (i + 1) (by simp; omega)
        rwa [List.getElem_cons_succ] at h2
      simp at hz
      refine ⟨z :: bs, by rw [hz, e]; rfl, fun c hc => ?_⟩
      rcases List.mem_cons.1 hc with rfl | hc
      · exact hb
      · exact hbs c hc
  obtain ⟨bs, e, hb⟩ := hall _ key
  refine ⟨bs, ?_, ?_, hb⟩
  · show Value.agg cs = .agg (u8s bs).toArray
    rw [← e]
  · rw [← u8s_length, ← e]; exact hl
end
end Go.Proofs.Ytglplhmclfekfaa
