/- law06: its steps as they come in. -/
import Derived.Test.YtglplhmclfekfaaDoorRvp
import Derived.ProofKit
import Derived.OpenShut
import Derived.ChangeOld
import Derived.Deep.Slices
import Derived.Deep.Fields
import Derived.Deep.DeepCutAuto
namespace Go.Proofs.YtglplhmclfekfaaDoor
open Go.RowKit Go.ChangeMaps
set_option linter.unusedVariables false
set_option linter.unusedSimpArgs false

/-- a step of law06 -/
structure OpE where
  kind : Int
  disk : Int
  n : Int
def IsI64 (z : Int) : Prop := -9223372036854775808 ≤ z ∧ z ≤ 9223372036854775807
def ESrc (w : World) (v : Value) (l : List OpE) : Prop := ∃ oa cap, v = .slice oa l.length cap ∧ l.length ≤ cap ∧ cap ≤ maxLen ∧ ∀ k (hk : k < l.length), ∃ b off, oa = some ⟨b, off, none⟩ ∧
  w.cell? ⟨b, off + k * 3, none⟩ = some (.int .i64 l[k].kind) ∧ w.cell? ⟨b, off + k * 3 + 1, none⟩ = some (.int .i64 l[k].disk) ∧ w.cell? ⟨b, off + k * 3 + 2, none⟩ = some (.int .i64 l[k].n) ∧ IsI64 l[k].disk ∧ IsI64 l[k].n
theorem ESrc.kept {w w' : World} {v : Value} {l : List OpE} (h : ESrc w v l) (hk : Kept w w') : ESrc w' v l := by
  obtain ⟨oa, cap, rfl, h1, h2, h3⟩ := h
  refine ⟨oa, cap, rfl, h1, h2, fun k hkl => ?_⟩
  obtain ⟨b, off, e, c0, c1, c2, r⟩ := h3 k hkl
  exact ⟨b, off, e, hk.cell' c0, hk.cell' c1, hk.cell' c2, r⟩
theorem ESrc.at {w : World} {oa : Option Addr} {n cap : Nat} {l : List OpE} (h : ESrc w (.slice oa n cap) l) (k : Nat) (hk : k < l.length) : ∃ b off, oa = some ⟨b, off, none⟩ ∧
    w.cell? ⟨b, off + k * 3, none⟩ = some (.int .i64 l[k].kind) ∧ w.cell? ⟨b, off + k * 3 + 1, none⟩ = some (.int .i64 l[k].disk) ∧ w.cell? ⟨b, off + k * 3 + 2, none⟩ = some (.int .i64 l[k].n) ∧ IsI64 l[k].disk ∧ IsI64 l[k].n := by
  obtain ⟨oa', cap', e, h1, h2, h3⟩ := h
  cases e
  exact h3 k hk
theorem wf_i64E {z : Int} (h : (Lit.int .i64 z).wf = true) : IsI64 z := by
  have h1 : IntKind.i64.min = -9223372036854775808 := rfl
  have h2 : IntKind.i64.max = 9223372036854775807 := rfl
  unfold IsI64
  simp [Lit.wf] at h; omega
set_option maxRecDepth 100000 in
theorem open_eops {H : Type} {enc : TypeId × Value → H} {w : World} {base : Nat} {spare : Nat → Bool} {held : Bool} {fuel : Nat} {v : Value} {x : DataW H × List MemPlace}
    (h : DataW.trod enc Tryd.prog w base spare held fuel 39 [v] = some x) : ∃ l, ESrc w v l := by
  rcases Go.Deep.open_slice Tryd.underlying39 h with ⟨hcs, _⟩ | ⟨a, len, cap, m, n, D, Pl, hcs, _, hl, hmx, hm, _, hi⟩
  · simp at hcs; subst hcs; exact ⟨[], none, 0, rfl, Nat.le_refl _, by decide, fun k hk => by cases hk⟩
  simp at hcs
  subst hcs
  have hlm : len ≤ m := by rw [hm]; split <;> omega
  have hC : Tryd.prog.cellsOf 43 = 3 := by kernel_rfl
  have hC1 : Tryd.prog.cellsOf 3 = 1 := by kernel_rfl
  have key : ∀ i, ∃ y : OpE, i < len → w.cell? ((a.add (i * 3)).add 0) = some (.int .i64 y.kind) ∧ w.cell? ((a.add (i * 3)).add 1) = some (.int .i64 y.disk) ∧ w.cell? ((a.add (i * 3)).add 2) = some (.int .i64 y.n) ∧ IsI64 y.disk ∧ IsI64 y.n := by
    intro i
    by_cases hil : i < len
    · obtain ⟨cs', hc, ht⟩ := hi i (by omega)
      rw [hC] at hc
      obtain ⟨_, hcl, hat⟩ := World.cells?_some hc
      obtain ⟨xs, n', _, _, _, hxl, hf⟩ := DataW.trod_struct Tryd.underlying43 ht
      replace hxl : xs.length = 3 := hxl
      rcases cs' with _ | ⟨c0, _ | ⟨c1, _ | ⟨c2, _ | ⟨c3, r⟩⟩⟩⟩ <;> simp at hcl
      have f0 : DataW.trod enc Tryd.prog w base spare held n' 3 ((([c0, c1, c2] : List Value).drop 0).take (Tryd.prog.cellsOf 3)) = xs[0]? := hf 0 _ rfl
      have f1 : DataW.trod enc Tryd.prog w base spare held n' 3 ((([c0, c1, c2] : List Value).drop 1).take (Tryd.prog.cellsOf 3)) = xs[1]? := hf 1 _ rfl
      have f2 : DataW.trod enc Tryd.prog w base spare held n' 3 ((([c0, c1, c2] : List Value).drop 2).take (Tryd.prog.cellsOf 3)) = xs[2]? := hf 2 _ rfl
      rw [hC1, List.getElem?_eq_getElem (by omega)] at f0 f1 f2
      obtain ⟨z0, hz0, _, _⟩ := DataW.trod_int Tryd.underlying3 f0
      obtain ⟨z1, hz1, _, w1⟩ := DataW.trod_int Tryd.underlying3 f1
      obtain ⟨z2, hz2, _, w2⟩ := DataW.trod_int Tryd.underlying3 f2
      simp at hz0 hz1 hz2
      subst hz0 hz1 hz2
      exact ⟨⟨z0, z1, z2⟩, fun _ => ⟨hat 0 (by omega), hat 1 (by omega), hat 2 (by omega), wf_i64E w1, wf_i64E w2⟩⟩
    · exact ⟨⟨0, 0, 0⟩, fun h' => absurd h' hil⟩
  obtain ⟨f, hf⟩ := Classical.axiomOfChoice key
  refine ⟨(List.range len).map f, some a, cap, by simp, by simpa using hl, hmx, fun k hk => ?_⟩
  have hk' : k < len := by simpa using hk
  have h1 := hf k hk'
  obtain ⟨b, off, spot⟩ := a
  have hsp := World.cell?_spot (hf 0 (by omega)).1
  have hspot : spot = none := by simpa [Addr.add] using hsp
  subst hspot
  refine ⟨b, off, rfl, ?_⟩
  simp only [Addr.add_mid] at h1
  simpa using h1
end Go.Proofs.YtglplhmclfekfaaDoor
