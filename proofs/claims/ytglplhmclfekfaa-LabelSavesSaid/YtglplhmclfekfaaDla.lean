/- law03: its steps as they come in; what is calm. -/
import Derived.Test.YtglplhmclfekfaaDkx
import Derived.Test.YtglplhmclfekfaaEA
import Derived.ProofKit
import Derived.OpenShut
import Derived.ChangeOld
import Derived.Deep.Slices
import Derived.Deep.Fields
import Derived.Deep.DeepCutAuto
namespace Go.Proofs.Ytglplhmclfekfaa
open Go.RowKit Go.ChangeMaps
set_option linter.unusedVariables false
set_option linter.unusedSimpArgs false

/-- a step of law03 -/
structure OpD where
  kind : Int
  disk : Int
  at_ : Int
  n : Int
  mask : Int
def DSrc (w : World) (v : Value) (l : List OpD) : Prop := ∃ oa cap, v = .slice oa l.length cap ∧ l.length ≤ cap ∧ cap ≤ maxLen ∧ ∀ k (hk : k < l.length), ∃ b off, oa = some ⟨b, off, none⟩ ∧
  w.cell? ⟨b, off + k * 5, none⟩ = some (.int .i64 l[k].kind) ∧ w.cell? ⟨b, off + k * 5 + 1, none⟩ = some (.int .i64 l[k].disk) ∧ w.cell? ⟨b, off + k * 5 + 2, none⟩ = some (.int .i64 l[k].at_) ∧ w.cell? ⟨b, off + k * 5 + 3, none⟩ = some (.int .i64 l[k].n) ∧ w.cell? ⟨b, off + k * 5 + 4, none⟩ = some (.int .u64 l[k].mask) ∧
  (-9223372036854775808 ≤ l[k].n ∧ l[k].n ≤ 9223372036854775807) ∧ (0 ≤ l[k].mask ∧ l[k].mask < 18446744073709551616)
theorem DSrc.kept {w w' : World} {v : Value} {l : List OpD} (h : DSrc w v l) (hk : Kept w w') : DSrc w' v l := by
  obtain ⟨oa, cap, rfl, h1, h2, h3⟩ := h
  refine ⟨oa, cap, rfl, h1, h2, fun k hkl => ?_⟩
  obtain ⟨b, off, e, c0, c1, c2, c3, c4, r⟩ := h3 k hkl
  exact ⟨b, off, e, hk.cell' c0, hk.cell' c1, hk.cell' c2, hk.cell' c3, hk.cell' c4, r⟩
theorem DSrc.at {w : World} {oa : Option Addr} {n cap : Nat} {l : List OpD} (h : DSrc w (.slice oa n cap) l) (k : Nat) (hk : k < l.length) : ∃ b off, oa = some ⟨b, off, none⟩ ∧
    w.cell? ⟨b, off + k * 5, none⟩ = some (.int .i64 l[k].kind) ∧ w.cell? ⟨b, off + k * 5 + 1, none⟩ = some (.int .i64 l[k].disk) ∧ w.cell? ⟨b, off + k * 5 + 2, none⟩ = some (.int .i64 l[k].at_) ∧ w.cell? ⟨b, off + k * 5 + 3, none⟩ = some (.int .i64 l[k].n) ∧ w.cell? ⟨b, off + k * 5 + 4, none⟩ = some (.int .u64 l[k].mask) ∧
    (-9223372036854775808 ≤ l[k].n ∧ l[k].n ≤ 9223372036854775807) ∧ (0 ≤ l[k].mask ∧ l[k].mask < 18446744073709551616) := by
  obtain ⟨oa', cap', e, h1, h2, h3⟩ := h
  cases e
  exact h3 k hk
theorem wf_i64 {z : Int} (h : (Lit.int .i64 z).wf = true) : -9223372036854775808 ≤ z ∧ z ≤ 9223372036854775807 := by
  have h1 : IntKind.i64.min = -9223372036854775808 := rfl
  have h2 : IntKind.i64.max = 9223372036854775807 := rfl
  simp [Lit.wf] at h; omega
theorem wf_u64 {z : Int} (h : (Lit.int .u64 z).wf = true) : 0 ≤ z ∧ z < 18446744073709551616 := by
  have h1 : IntKind.u64.min = 0 := rfl
  have h2 : IntKind.u64.max = 18446744073709551615 := rfl
  simp [Lit.wf] at h; omega
set_option maxRecDepth 100000 in
theorem open_dops {H : Type} {enc : TypeId × Value → H} {w : World} {base : Nat} {spare : Nat → Bool} {held : Bool} {fuel : Nat} {v : Value} {x : DataW H × List MemPlace}
    (h : DataW.trod enc Try.prog w base spare held fuel 22 [v] = some x) : ∃ l, DSrc w v l := by
  rcases Go.Deep.open_slice Try.underlying22 h with ⟨hcs, _⟩ | ⟨a, len, cap, m, n, D, Pl, hcs, _, hl, hmx, hm, _, hi⟩
  · simp at hcs; subst hcs; exact ⟨[], none, 0, rfl, Nat.le_refl _, by decide, fun k hk => by cases hk⟩
  simp at hcs
  subst hcs
  have hlm : len ≤ m := by rw [hm]; split <;> omega
  have hC : Try.prog.cellsOf 30 = 5 := by kernel_rfl
  have hC1 : Try.prog.cellsOf 3 = 1 := by kernel_rfl
  have hC2 : Try.prog.cellsOf 23 = 1 := by kernel_rfl
  have key : ∀ i, ∃ y : OpD, i < len → w.cell? ((a.add (i * 5)).add 0) = some (.int .i64 y.kind) ∧ w.cell? ((a.add (i * 5)).add 1) = some (.int .i64 y.disk) ∧ w.cell? ((a.add (i * 5)).add 2) = some (.int .i64 y.at_) ∧ w.cell? ((a.add (i * 5)).add 3) = some (.int .i64 y.n) ∧ w.cell? ((a.add (i * 5)).add 4) = some (.int .u64 y.mask) ∧ (-9223372036854775808 ≤ y.n ∧ y.n ≤ 9223372036854775807) ∧ (0 ≤ y.mask ∧ y.mask < 18446744073709551616) := by
    intro i
    by_cases hil : i < len
    · obtain ⟨cs', hc, ht⟩ := hi i (by omega)
      rw [hC] at hc
      obtain ⟨_, hcl, hat⟩ := World.cells?_some hc
      obtain ⟨xs, n', _, _, _, hxl, hf⟩ := DataW.trod_struct Try.underlying30 ht
      replace hxl : xs.length = 5 := hxl
      rcases cs' with _ | ⟨c0, _ | ⟨c1, _ | ⟨c2, _ | ⟨c3, _ | ⟨c4, _ | ⟨c5, r⟩⟩⟩⟩⟩⟩ <;> simp at hcl
      have f0 : DataW.trod enc Try.prog w base spare held n' 3 ((([c0, c1, c2, c3, c4] : List Value).drop 0).take (Try.prog.cellsOf 3)) = xs[0]? := hf 0 _ rfl
      have f1 : DataW.trod enc Try.prog w base spare held n' 3 ((([c0, c1, c2, c3, c4] : List Value).drop 1).take (Try.prog.cellsOf 3)) = xs[1]? := hf 1 _ rfl
      have f2 : DataW.trod enc Try.prog w base spare held n' 3 ((([c0, c1, c2, c3, c4] : List Value).drop 2).take (Try.prog.cellsOf 3)) = xs[2]? := hf 2 _ rfl
      have f3 : DataW.trod enc Try.prog w base spare held n' 3 ((([c0, c1, c2, c3, c4] : List Value).drop 3).take (Try.prog.cellsOf 3)) = xs[3]? := hf 3 _ rfl
      have f4 : DataW.trod enc Try.prog w base spare held n' 23 ((([c0, c1, c2, c3, c4] : List Value).drop 4).take (Try.prog.cellsOf 23)) = xs[4]? := hf 4 _ rfl
      rw [hC1, List.getElem?_eq_getElem (by omega)] at f0 f1 f2 f3
      rw [hC2, List.getElem?_eq_getElem (by omega)] at f4
      obtain ⟨z0, hz0, _, _⟩ := DataW.trod_int Try.underlying3 f0
      obtain ⟨z1, hz1, _, _⟩ := DataW.trod_int Try.underlying3 f1
      obtain ⟨z2, hz2, _, _⟩ := DataW.trod_int Try.underlying3 f2
      obtain ⟨z3, hz3, _, w3⟩ := DataW.trod_int Try.underlying3 f3
      obtain ⟨z4, hz4, _, w4⟩ := DataW.trod_int Try.underlying23 f4
      simp at hz0 hz1 hz2 hz3 hz4
      subst hz0 hz1 hz2 hz3 hz4
      exact ⟨⟨z0, z1, z2, z3, z4⟩, fun _ => ⟨hat 0 (by omega), hat 1 (by omega), hat 2 (by omega), hat 3 (by omega), hat 4 (by omega), wf_i64 w3, wf_u64 w4⟩⟩
    · exact ⟨⟨0, 0, 0, 0, 0⟩, fun h' => absurd h' hil⟩
  obtain ⟨f, hf⟩ := Classical.axiomOfChoice key
  refine ⟨(List.range len).map f, some a, cap, by simp, by simpa using hl, hmx, fun k hk => ?_⟩
  have hk' : k < len := by simpa using hk
  have h1 := hf k hk'
  obtain ⟨b, off, spot⟩ := a
  have hsp := World.cell?_spot (hf 0 (by omega)).1
  have hspot : spot = none := by simpa [Addr.add] using hsp
  subst hspot
  refine ⟨b, off, rfl, ?_⟩
  simp only [Addr.add_mid] at h1
  simpa using h1
theorem and_low (x : Int) (k : Nat) (hk : k ≤ 62) {m : Int} (hm : m = 2 ^ k - 1) : ∃ y : Nat, bits .and .i64 x m = (y : Int) ∧ y < 2 ^ k := by
  subst hm
  have hp : (0 : Int) < 2 ^ k := Int.pow_pos (by decide)
  have h0 := Int.emod_nonneg x (show (2 : Int) ^ k ≠ 0 by omega)
  have h1 := Int.emod_lt_of_pos x hp
  obtain ⟨y, hy⟩ := Int.eq_ofNat_of_zero_le h0
  refine ⟨y, by rw [i64_and_mask x k hk, hy], ?_⟩
  have : ((2 ^ k : Nat) : Int) = (2 : Int) ^ k := by norm_cast
  omega
end Go.Proofs.Ytglplhmclfekfaa
