/- A slice of ints that comes in. -/
import Derived.Test.YtiijfocdjcjlaaaGreatPaA
import Derived.ProofKit
import Derived.OpenShut
import Derived.ChangeOld
import Derived.Deep.MidRow
namespace Go.Proofs.YtiijfocdjcjlaaaGreat
open Go.RowKit
set_option linter.unusedVariables false
set_option linter.unusedSimpArgs false

/-- a slice that reads l -/
def ISrc (w : World) (v : Value) (l : List Int) : Prop := ∃ oa cap, v = .slice oa l.length cap ∧ l.length ≤ cap ∧ cap ≤ maxLen ∧ ∀ k (hk : k < l.length), ∃ b off, oa = some ⟨b, off, none⟩ ∧ w.cell? ⟨b, off + k, none⟩ = some (.int .i64 l[k])
theorem ISrc.at {w : World} {oa : Option Addr} {n cap : Nat} {l : List Int} (h : ISrc w (.slice oa n cap) l) (k : Nat) (hk : k < l.length) : ∃ b off, oa = some ⟨b, off, none⟩ ∧ w.cell? ⟨b, off + k, none⟩ = some (.int .i64 l[k]) := by
  obtain ⟨oa', cap', e, _, _, h⟩ := h
  cases e
  exact h k hk
theorem open_isrc {H : Type} {enc : TypeId × Value → H} {w : World} {base : Nat} {spare : Nat → Bool} {held : Bool} {fuel : Nat} {v : Value} {x : DataW H × List MemPlace}
    (h : DataW.trod enc Tryz.prog w base spare held fuel 25 [v] = some x) : ∃ l, ISrc w v l := by
  rcases Go.ChangeShapes.open_ints Tryz.underlying25 Tryz.underlying3 (by kernel_rfl) h with ⟨hcs, _⟩ | ⟨a, len, cap, zs, hcs, _, hl, hm, hlen, _, hc, _⟩
  · simp at hcs; subst hcs
    exact ⟨[], none, 0, rfl, Nat.le_refl _, by decide, fun k hk => by cases hk⟩
  · simp at hcs; subst hcs
    have hzl : len ≤ zs.length := by rw [hlen]; split <;> omega
    refine ⟨zs.take len, some a, cap, by simp [Nat.min_eq_left hzl], by simp; omega, hm, fun k hk => ?_⟩
    have hk' : k < zs.length := by simp at hk; omega
    have h1 := hc k hk'
    obtain ⟨b, off, spot⟩ := a
    have hsp := World.cell?_spot (hc 0 (by omega))
    have hspot : spot = none := by simpa [Addr.add] using hsp
    subst hspot
    refine ⟨b, off, rfl, ?_⟩
    rw [Addr.add_mid] at h1
    rw [h1]; simp [List.getD_eq_getElem?_getD, hk']
end Go.Proofs.YtiijfocdjcjlaaaGreat
