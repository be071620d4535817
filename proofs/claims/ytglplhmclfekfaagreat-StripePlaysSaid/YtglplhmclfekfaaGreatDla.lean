/- law03: its steps as they come in; what is calm. -/
import Derived.Test.YtglplhmclfekfaaGreatDkx
import Derived.Test.YtglplhmclfekfaaGreatEA
import Derived.ProofKit
import Derived.OpenShut
import Derived.ChangeOld
import Derived.Deep.Slices
import Derived.Deep.Fields
import Derived.Deep.DeepCutAuto
namespace Go.Proofs.YtglplhmclfekfaaGreat
open Go.RowKit Go.ChangeMaps
set_option linter.unusedVariables false
set_option linter.unusedSimpArgs false

/-- a step of law03 -/
structure OpD where
  kind : Int
  disk : Int
  at_ : Int
  n : Int
  mask : Int
def DSrc (w : World) (v : Value) (l : List OpD) : Prop := ∃ oa cap, v = .slice oa l.length cap ∧ l.length ≤ cap ∧ cap ≤ maxLen ∧ ∀ k (hk : k < l.length), ∃ b off, oa = some ⟨b, off, none⟩ ∧
  w.cell? ⟨b, off + k * 5, none⟩ = some (.int .i64 l[k].kind) ∧ w.cell? ⟨b, off + k * 5 + 1, none⟩ = some (.int .i64 l[k].disk) ∧ w.cell? ⟨b, off + k * 5 + 2, none⟩ = some (.int .i64 l[k].at_) ∧ w.cell? ⟨b, off + k * 5 + 3, none⟩ = some (.int .i64 l[k].n) ∧ w.cell? ⟨b, off + k * 5 + 4, none⟩ = some (.int .u64 l[k].mask) ∧
  (-9223372036854775808 ≤ l[k].n ∧ l[k].n ≤ 9223372036854775807) ∧ (0 ≤ l[k].mask ∧ l[k].mask < 18446744073709551616)
theorem DSrc.kept {w w' : World} {v : Value} {l : List OpD} (h : DSrc w v l) (hk : Kept w w') : DSrc w' v l := by
  obtain ⟨oa, cap, rfl, h1, h2, h3⟩ := h
  refine ⟨oa, cap, rfl, h1, h2, fun k hkl => ?_⟩
  obtain ⟨b, off, e, c0, c1, c2, c3, c4, r⟩ := h3 k hkl
  exact ⟨b, off, e, hk.cell' c0, hk.cell' c1, hk.cell' c2, hk.cell' c3, hk.cell' c4, r⟩
theorem DSrc.at {w : World} {oa : Option Addr} {n cap : Nat} {l : List OpD} (h : DSrc w (.slice oa n cap) l) (k : Nat) (hk : k < l.length) : ∃ b off, oa = some ⟨b, off, none⟩ ∧
    w.cell? ⟨b, off + k * 5, none⟩ = some (.int .i64 l[k].kind) ∧ w.cell? ⟨b, off + k * 5 + 1, none⟩ = some (.int .i64 l[k].disk) ∧ w.cell? ⟨b, off + k * 5 + 2, none⟩ = some (.int .i64 l[k].at_) ∧ w.cell? ⟨b, off + k * 5 + 3, none⟩ = some (.int .i64 l[k].n) ∧ w.cell? ⟨b, off + k * 5 + 4, none⟩ = some (.int .u64 l[k].mask) ∧
    (-9223372036854775808 ≤ l[k].n ∧ l[k].n ≤ 9223372036854775807) ∧ (0 ≤ l[k].mask ∧ l[k].mask < 18446744073709551616) := by
  obtain ⟨oa', cap', e, h1, h2, h3⟩ := h
  cases e
  exact h3 k hk
theorem wf_i64 {z : Int} (h : (Lit.int .i64 z).wf = true) : -9223372036854775808 ≤ z ∧ z ≤ 9223372036854775807 := by
  have h1 : IntKind.i64.min = -9223372036854775808 := rfl
  have h2 : IntKind.i64.max = 9223372036854775807 := rfl
  simp [Lit.wf] at h; omega
theorem wf_u64 {z : Int} (h : (Lit.int .u64 z).wf = true) : 0 ≤ z ∧ z < 18446744073709551616 := by
  have h1 : IntKind.u64.min = 0 := rfl
  have h2 : IntKind.u64.max = 18446744073709551615 := rfl
  simp [Lit.wf] at h; omega
--
--
--
--
--
--
--
--
--
--
--
--
--
--
--
--
--
--
--
--
--
--
--
--
--
--
--
--
--
--
--
--
--
--
--
--
--
--
--
--
--
--
--
--
--
--
--
theorem and_low (x : Int) (k : Nat) (hk : k ≤ 62) {m : Int} (hm : m = 2 ^ k - 1) : ∃ y : Nat, bits .and .i64 x m = (y : Int) ∧ y < 2 ^ k := by
  subst hm
  have hp : (0 : Int) < 2 ^ k := Int.pow_pos (by decide)
  have h0 := Int.emod_nonneg x (show (2 : Int) ^ k ≠ 0 by omega)
  have h1 := Int.emod_lt_of_pos x hp
  obtain ⟨y, hy⟩ := Int.eq_ofNat_of_zero_le h0
  refine ⟨y, by rw [i64_and_mask x k hk, hy], ?_⟩
  have : ((2 ^ k : Nat) : Int) = (2 : Int) ^ k := by norm_cast
  omega
end Go.Proofs.YtglplhmclfekfaaGreat
