/- What comes in: rows of ints, rows of a law's steps. -/
import Derived.Test.YtglplhmclfekfaaUsl
import Derived.Test.YtglplhmclfekfaaBits
import Derived.ProofKit
import Derived.OpenShut
import Derived.ChangeOld
import Derived.Deep.Slices
import Derived.Deep.Fields
import Derived.Deep.DeepCutAuto
namespace Go.Proofs.Ytglplhmclfekfaa
open Go.RowKit Go.ChangeMaps Go.MapKept
set_option linter.unusedVariables false
set_option linter.unusedSimpArgs false

theorem open_isl {H : Type} {enc : TypeId × Value → H} {w : World} {base : Nat} {spare : Nat → Bool} {held : Bool} {fuel : Nat} {v : Value} {x : DataW H × List MemPlace}
    (h : DataW.trod enc Try.prog w base spare held fuel 56 [v] = some x) : ∃ l, ISl w v l := by
  rcases Go.ChangeShapes.open_ints Try.underlying56 Try.underlying3 (by kernel_rfl) h with ⟨hcs, _⟩ | ⟨a, len, cap, zs, hcs, _, hl, hm, hlen, _, hc, _⟩
  · simp at hcs; subst hcs
    exact ⟨[], none, 0, rfl, Nat.le_refl _, by decide, fun k hk => by cases hk⟩
  · simp at hcs; subst hcs
    have hzl : len ≤ zs.length := by rw [hlen]; split <;> omega
    refine ⟨zs.take len, some a, cap, by simp [Nat.min_eq_left hzl], by simp; omega, hm, fun k hk => ?_⟩
    have hk' : k < zs.length := by simp at hk; omega
    have h1 := hc k hk'
    obtain ⟨b, off, spot⟩ := a
    have hsp := World.cell?_spot (hc 0 (by omega))
    have hspot : spot = none := by simpa [Addr.add] using hsp
    subst hspot
    refine ⟨b, off, rfl, ?_⟩
    rw [Addr.add_mk] at h1
    rw [h1]; simp [List.getD_eq_getElem?_getD, hk']

/-- a step of a law -/
structure Op5 where
  kind : Int
  group : Int
  slot : Int
  block : Int
  n : Int
def OSrc (w : World) (v : Value) (l : List Op5) : Prop := ∃ oa cap, v = .slice oa l.length cap ∧ l.length ≤ cap ∧ cap ≤ maxLen ∧ ∀ k (hk : k < l.length), ∃ b off, oa = some ⟨b, off, none⟩ ∧
  w.cell? ⟨b, off + k * 5, none⟩ = some (.int .i64 l[k].kind) ∧ w.cell? ⟨b, off + k * 5 + 1, none⟩ = some (.int .i64 l[k].group) ∧ w.cell? ⟨b, off + k * 5 + 2, none⟩ = some (.int .i64 l[k].slot) ∧ w.cell? ⟨b, off + k * 5 + 3, none⟩ = some (.int .i64 l[k].block)
theorem OSrc.kept {w w' : World} {v : Value} {l : List Op5} (h : OSrc w v l) (hk : Kept w w') : OSrc w' v l := by
  obtain ⟨oa, cap, rfl, h1, h2, h3⟩ := h
  refine ⟨oa, cap, rfl, h1, h2, fun k hkl => ?_⟩
  obtain ⟨b, off, e, c0, c1, c2, c3⟩ := h3 k hkl
  exact ⟨b, off, e, hk.cell' c0, hk.cell' c1, hk.cell' c2, hk.cell' c3⟩
theorem OSrc.at {w : World} {oa : Option Addr} {n cap : Nat} {l : List Op5} (h : OSrc w (.slice oa n cap) l) (k : Nat) (hk : k < l.length) : ∃ b off, oa = some ⟨b, off, none⟩ ∧
    w.cell? ⟨b, off + k * 5, none⟩ = some (.int .i64 l[k].kind) ∧ w.cell? ⟨b, off + k * 5 + 1, none⟩ = some (.int .i64 l[k].group) ∧ w.cell? ⟨b, off + k * 5 + 2, none⟩ = some (.int .i64 l[k].slot) ∧ w.cell? ⟨b, off + k * 5 + 3, none⟩ = some (.int .i64 l[k].block) := by
  obtain ⟨oa', cap', e, h1, h2, h3⟩ := h
  cases e
  exact h3 k hk

set_option maxRecDepth 100000 in
theorem open_ops {H : Type} {enc : TypeId × Value → H} {w : World} {base : Nat} {spare : Nat → Bool} {held : Bool} {fuel : Nat} {v : Value} {x : DataW H × List MemPlace}
    (h : DataW.trod enc Try.prog w base spare held fuel 43 [v] = some x) : ∃ l, OSrc w v l := by
  rcases Go.Deep.open_slice Try.underlying43 h with ⟨hcs, _⟩ | ⟨a, len, cap, m, n, D, Pl, hcs, _, hl, hmx, hm, _, hi⟩
  · simp at hcs; subst hcs; exact ⟨[], none, 0, rfl, Nat.le_refl _, by decide, fun k hk => by cases hk⟩
  simp at hcs
  subst hcs
  have hlm : len ≤ m := by rw [hm]; split <;> omega
  have hC : Try.prog.cellsOf 49 = 5 := by kernel_rfl
  have hC1 : Try.prog.cellsOf 3 = 1 := by kernel_rfl
  have key : ∀ i, ∃ y : Op5, i < len → w.cell? ((a.add (i * 5)).add 0) = some (.int .i64 y.kind) ∧ w.cell? ((a.add (i * 5)).add 1) = some (.int .i64 y.group) ∧ w.cell? ((a.add (i * 5)).add 2) = some (.int .i64 y.slot) ∧ w.cell? ((a.add (i * 5)).add 3) = some (.int .i64 y.block) := by
    intro i
    by_cases hil : i < len
    · obtain ⟨cs', hc, ht⟩ := hi i (by omega)
      rw [hC] at hc
      obtain ⟨_, hcl, hat⟩ := World.cells?_some hc
      obtain ⟨xs, n', _, _, _, hxl, hf⟩ := DataW.trod_struct Try.underlying49 ht
      replace hxl : xs.length = 5 := hxl
      rcases cs' with _ | ⟨c0, _ | ⟨c1, _ | ⟨c2, _ | ⟨c3, _ | ⟨c4, _ | ⟨c5, r⟩⟩⟩⟩⟩⟩ <;> simp at hcl
      have f0 : DataW.trod enc Try.prog w base spare held n' 3 ((([c0, c1, c2, c3, c4] : List Value).drop 0).take (Try.prog.cellsOf 3)) = xs[0]? := hf 0 _ rfl
      have f1 : DataW.trod enc Try.prog w base spare held n' 3 ((([c0, c1, c2, c3, c4] : List Value).drop 1).take (Try.prog.cellsOf 3)) = xs[1]? := hf 1 _ rfl
      have f2 : DataW.trod enc Try.prog w base spare held n' 3 ((([c0, c1, c2, c3, c4] : List Value).drop 2).take (Try.prog.cellsOf 3)) = xs[2]? := hf 2 _ rfl
      have f3 : DataW.trod enc Try.prog w base spare held n' 3 ((([c0, c1, c2, c3, c4] : List Value).drop 3).take (Try.prog.cellsOf 3)) = xs[3]? := hf 3 _ rfl
      rw [hC1, List.getElem?_eq_getElem (by omega)] at f0 f1 f2 f3
      obtain ⟨z0, hz0, _, _⟩ := DataW.trod_int Try.underlying3 f0
      obtain ⟨z1, hz1, _, _⟩ := DataW.trod_int Try.underlying3 f1
      obtain ⟨z2, hz2, _, _⟩ := DataW.trod_int Try.underlying3 f2
      obtain ⟨z3, hz3, _, _⟩ := DataW.trod_int Try.underlying3 f3
      simp at hz0 hz1 hz2 hz3
      subst hz0 hz1 hz2 hz3
      exact ⟨⟨z0, z1, z2, z3, 0⟩, fun _ => ⟨hat 0 (by omega), hat 1 (by omega), hat 2 (by omega), hat 3 (by omega)⟩⟩
    · exact ⟨⟨0, 0, 0, 0, 0⟩, fun h' => absurd h' hil⟩
  obtain ⟨f, hf⟩ := Classical.axiomOfChoice key
  refine ⟨(List.range len).map f, some a, cap, by simp, by simpa using hl, hmx, fun k hk => ?_⟩
  have hk' : k < len := by simpa using hk
  have h1 := hf k hk'
  obtain ⟨b, off, spot⟩ := a
  have hsp := World.cell?_spot (hf 0 (by omega)).1
  have hspot : spot = none := by simpa [Addr.add] using hsp
  subst hspot
  refine ⟨b, off, rfl, ?_⟩
  simp only [Addr.add_mid] at h1
  simpa using h1
end Go.Proofs.Ytglplhmclfekfaa
