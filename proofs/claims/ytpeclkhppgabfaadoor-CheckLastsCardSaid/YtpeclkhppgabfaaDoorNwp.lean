/- Both areas full: which checkpoint Load tells. -/
import Derived.Test.YtpeclkhppgabfaaDoorPaN
namespace Go.Proofs.YtpeclkhppgabfaaDoor
open Go.RowKit
set_option linter.unusedVariables false
set_option linter.unusedSimpArgs false

theorem load_pair {T : BankT} {n z t : Nat} {dd : Nat → Bool} {N : Nat → Nat → List Int} (h : Quiet T n z dd N t) (hz : 114 ≤ z) (ls : List Nat) (hls : ∀ d ∈ ls, d < n) {al : List Nat} (hal : (ls.filter fun d => !dd d) = al) (h0 : al ≠ [])
    {g0 g1 : Int} {x0 x1 : List Int} (hg0 : 0 ≤ g0 ∧ g0 < 4294967296) (hg1 : 0 ≤ g1 ∧ g1 < 4294967296) (hx0 : x0.length ≤ 1696) (hx1 : x1.length ≤ 1696) (hm0 : MixA N al 0 g0 x0) (hm1 : MixA N al 1 g1 x1)
    (hall0 : ∀ i, i < partsN x0.length → ∃ d ∈ al, N d (50 + 32 * 0 + i) = (splitB g0 0 x0).getD i []) :
    ∃ s, (∀ d ∈ al, ∀ i, i < partsN x1.length → N d (50 + 32 * 1 + i) = (splitB g1 0 x1).getD i [] → s = max g0 g1) ∧
      (g0 < g1 → (∀ i, i < partsN x1.length → ∃ d ∈ al, N d (50 + 32 * 1 + i) = (splitB g1 0 x1).getD i []) → loadC T.read (natI ls) = (⟨1, g1, x1, s, true⟩, 0)) ∧
      ((g1 ≤ g0 ∨ ∃ i, i < partsN x1.length ∧ ∀ d ∈ al, N d (50 + 32 * 1 + i) ≠ (splitB g1 0 x1).getD i []) → loadC T.read (natI ls) = (⟨0, g0, x0, s, true⟩, 0)) := by
  rw [h.load hz ls hls hal h0]
  have hp0 := (partsN_pos (show x0.length ≤ 2120 by omega)).1
  have hc0 : AllC (rowsN N al 0) (fun y => y = g0) (fun _ => x0) g0 := ⟨rfl, fun i hi => (hm0.mem hg0 hx0 hi).2 (hall0 i hi)⟩
  obtain ⟨d0, hd0, hpl0⟩ := hall0 0 (by omega)
  have i0 := (hm0.areaC hg0 hx0).inArea 0 Best.zero
  have i1 := (hm1.areaC hg1 hx1).inArea 1 (Best.zero.inArea 0 (rowsN N al 0))
  have r0 := i0.fresh hc0 (.inl rfl)
  have s0 : (Best.zero.inArea 0 (rowsN N al 0)).seen = g0 := by rw [i0.seen, hm0.seen hg0 hx0 _ (by omega) hd0 hpl0]; show max 0 g0 = g0; omega
  refine ⟨((Best.zero.inArea 0 (rowsN N al 0)).inArea 1 (rowsN N al 1)).seen, fun d hd i hi hp => ?_, fun hlt hall1 => ?_, fun ho => ?_⟩
  · rw [i1.seen, hm1.seen hg1 hx1 _ hi hd hp, s0]
  · have hc1 : AllC (rowsN N al 1) (fun y => y = g1) (fun _ => x1) g1 := ⟨rfl, fun i hi => (hm1.mem hg1 hx1 hi).2 (hall1 i hi)⟩
    have r1 := i1.fresh hc1 (.inr (by rw [r0.2.2.1]; exact hlt))
    have e := Best.ext4 (a := 1) (g := g1) (x := x1) r1 rfl
    rw [← e, if_pos r1.1]
  · have r1 := ho.elim (fun ho => i1.old ⟨r0.1, by rw [r0.2.2.1]; exact ho⟩) (fun ⟨i, hi, hgap⟩ => i1.none fun g hc => by
      have hm := hc.2 i hi
      rw [show g = g1 from hc.1] at hm
      obtain ⟨d, hd, e⟩ := (hm1.mem hg1 hx1 hi).1 hm
      exact hgap d hd e)
    have e := Best.ext4 (a := 0) (g := g0) (x := x0) ⟨r1.1.trans r0.1, r1.2.1.trans r0.2.1, r1.2.2.1.trans r0.2.2.1, r1.2.2.2.trans r0.2.2.2⟩ rfl
    rw [← e, if_pos (r1.1.trans r0.1)]
/-- two checkpoints laid one behind the other, in area 0 and in area 1 -/
theorem two_laid {T0 : BankT} {n z t : Nat} (h : Quiet T0 n z (fun _ => false) (fun _ _ => zeroB) t) (hz : 114 ≤ z) (ls : List Nat) (hls : ∀ d ∈ ls, d < n) (h0 : ls ≠ []) {g0 g1 : Int} {x0 x1 : List Int} (hx0 : x0.length ≤ 1696) (hx1 : x1.length ≤ 1696) (hb0 : ∀ y ∈ x0, IsByte y) (hb1 : ∀ y ∈ x1, IsByte y) :
    ∃ T1 T2 N, T0.saveC (natI ls) 0 g0 x0 = (T1, 0) ∧ Quiet T1 n z (fun _ => false) (layAll (fun _ _ => zeroB) 50 (splitB g0 0 x0) ls) (t + ls.length * 33) ∧ T1.saveC (natI ls) 1 g1 x1 = (T2, 0) ∧ Quiet T2 n z (fun _ => false) N (t + ls.length * 33 + ls.length * 33) ∧
      (∀ d k, N d k = if d ∈ ls ∧ 82 ≤ k ∧ k < 82 + partsN x1.length then (splitB g1 0 x1).getD (k - 82) [] else if d ∈ ls ∧ 50 ≤ k ∧ k < 50 + partsN x0.length then (splitB g0 0 x0).getD (k - 50) [] else zeroB) := by
  obtain ⟨T1, hs1, hq1⟩ := h.save hz ls hls (area := 0) (by decide) (gen := g0) hx0 hb0
  obtain ⟨T2, hs2, hq2⟩ := hq1.save hz ls hls (area := 1) (by decide) (gen := g1) hx1 hb1
  have hno : ¬ ∀ d ∈ ls, false = true := fun hh => by
    cases ls with
    | nil => exact h0 rfl
    | cons d l => cases hh d (by simp)
  rw [if_neg hno] at hs1 hs2
  refine ⟨T1, T2, _, hs1, hq1, hs2, hq2, fun d k => ?_⟩
  rw [layAll_at, layAll_at, splitB_len, splitB_len]
theorem two_mix {N : Nat → Nat → List Int} {ls : List Nat} {g0 g1 : Int} {x0 x1 : List Int} (hx0 : x0.length ≤ 1696) (hx1 : x1.length ≤ 1696)
    (hN : ∀ d k, N d k = if d ∈ ls ∧ 82 ≤ k ∧ k < 82 + partsN x1.length then (splitB g1 0 x1).getD (k - 82) [] else if d ∈ ls ∧ 50 ≤ k ∧ k < 50 + partsN x0.length then (splitB g0 0 x0).getD (k - 50) [] else zeroB) :
    (∀ d ∈ ls, ∀ i, i < partsN x0.length → N d (50 + 32 * 0 + i) = (splitB g0 0 x0).getD i []) ∧ (∀ d ∈ ls, ∀ i, i < partsN x1.length → N d (50 + 32 * 1 + i) = (splitB g1 0 x1).getD i []) ∧ MixA N ls 0 g0 x0 ∧ MixA N ls 1 g1 x1 := by
  have p0 := parts_le hx0
  have p1 := parts_le hx1
  have a0 : ∀ d ∈ ls, ∀ i, i < partsN x0.length → N d (50 + 32 * 0 + i) = (splitB g0 0 x0).getD i [] := fun d hd i hi => by
    rw [hN, if_neg (by omega), if_pos ⟨hd, by omega, by omega⟩, show 50 + 32 * 0 + i - 50 = i by omega]
  have a1 : ∀ d ∈ ls, ∀ i, i < partsN x1.length → N d (50 + 32 * 1 + i) = (splitB g1 0 x1).getD i [] := fun d hd i hi => by
    rw [hN, if_pos ⟨hd, by omega, by omega⟩, show 50 + 32 * 1 + i - 82 = i by omega]
  refine ⟨a0, a1, fun d hd i hi => ?_, fun d hd i hi => ?_⟩
  · by_cases h : i < partsN x0.length
    · exact .inr ⟨h, a0 d hd i h⟩
    · left; rw [hN, if_neg (by omega), if_neg (by omega)]
  · by_cases h : i < partsN x1.length
    · exact .inr ⟨h, a1 d hd i h⟩
    · left; rw [hN, if_neg (by omega), if_neg (by omega)]
end Go.Proofs.YtpeclkhppgabfaaDoor
