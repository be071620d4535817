/- CheckTorn in plain Lean. -/
import Derived.Test.YtpeclkhppgabfaaDoorNwp
namespace Go.Proofs.YtpeclkhppgabfaaDoor
open Go.RowKit
set_option linter.unusedVariables false
set_option linter.unusedSimpArgs false

def oldB : List Int := [111, 108, 100]
theorem oldB_byte : ∀ x ∈ oldB, IsByte x := by intro x hx; simp [oldB] at hx; rcases hx with rfl | rfl | rfl <;> exact ⟨by decide, by decide⟩
theorem zeroB_secB : SecB zeroB := ⟨zeroB_byte.1, zeroB_byte.2⟩
theorem part_ne {g : Int} {x : List Int} (hg : 0 ≤ g ∧ g < 4294967296) (hx : x.length ≤ 1696) {i : Nat} (hi : i < partsN x.length) : zeroB ≠ (splitB g 0 x).getD i [] := fun e => by
  have ht := (RecRange.tag (gen := g) (num := 0) (b := x) ⟨hg, by decide, by omega⟩ hi).1
  rw [← e, zero_no] at ht; cases ht
theorem torn_plain {x : List Int} (hx : x.length ≤ 600) (hb : ∀ y ∈ x, IsByte y) {j : Nat} (hj : j < partsN x.length) :
    ∃ T1 T2 T3 T4 s s', (addZ 200 2).saveC [0, 1] 0 4 oldB = (T1, 0) ∧ T1.UseN 100 ∧ T1.saveC [0, 1] 1 5 x = (T2, 0) ∧ T2.Use ∧ T2.write 0 (82 + (j : Int)) zeroB = (T3, 0) ∧ T3.Use ∧ T3.write 1 (82 + (j : Int)) zeroB = (T4, 0) ∧ T4.Use ∧
      loadC T3.read [0, 1] = (⟨1, 5, x, s, true⟩, 0) ∧ loadC T4.read [0, 1] = (⟨0, 4, oldB, s', true⟩, 0) := by
  have h0 : oldB.length ≤ 1696 := by decide
  have h1 : x.length ≤ 1696 := by omega
  have h32 := parts_le h1
  obtain ⟨T1, T2, N, hs1, hq1, hs2, hq2, hN⟩ := two_laid (g0 := 4) (g1 := 5) quiet2 (by decide) [0, 1] (by intro d hd; simp at hd; omega) (by simp) h0 h1 oldB_byte hb
  obtain ⟨a0, a1, m0, m1⟩ := two_mix h0 h1 hN
  obtain ⟨T3, hw3, hq3⟩ := hq2.write (d := 0) (a := 82 + j) (by decide) (by omega) zeroB_secB
  obtain ⟨T4, hw4, hq4⟩ := hq3.write (d := 1) (a := 82 + j) (by decide) (by omega) zeroB_secB
  have hq4' : Quiet T4 2 200 (fun _ => false) (upN (upN N 0 (82 + j) zeroB) 1 (82 + j) zeroB) (0 + [0, 1].length * 33 + [0, 1].length * 33 + 1 + 1) := hq4
  replace hq4 := hq4'
  clear hq4'
  rw [if_neg (by decide)] at hw3 hw4 hq3
  have e8 : ((82 + j : Nat) : Int) = 82 + (j : Int) := by omega
  rw [e8] at hw3 hw4
  have k3 : ∀ d k, upN N 0 (82 + j) zeroB d k = if d = 0 ∧ k = 82 + j then zeroB else N d k := fun d k => rfl
  have k4 : ∀ d k, upN (upN N 0 (82 + j) zeroB) 1 (82 + j) zeroB d k = if d = 1 ∧ k = 82 + j then zeroB else if d = 0 ∧ k = 82 + j then zeroB else N d k := fun d k => rfl
  have low : ∀ d i, i < 32 → upN N 0 (82 + j) zeroB d (50 + 32 * 0 + i) = N d (50 + 32 * 0 + i) ∧ upN (upN N 0 (82 + j) zeroB) 1 (82 + j) zeroB d (50 + 32 * 0 + i) = N d (50 + 32 * 0 + i) := fun d i hi => by
    refine ⟨by rw [k3, if_neg (by omega)], by rw [k4, if_neg (by omega), if_neg (by omega)]⟩
  have p0 : partsN oldB.length ≤ 32 := by decide
  have m03 : MixA (upN N 0 (82 + j) zeroB) [0, 1] 0 4 oldB := fun d hd i hi => by rw [(low d i hi).1]; exact m0 d hd i hi
  have m04 : MixA (upN (upN N 0 (82 + j) zeroB) 1 (82 + j) zeroB) [0, 1] 0 4 oldB := fun d hd i hi => by rw [(low d i hi).2]; exact m0 d hd i hi
  have m13 : MixA (upN N 0 (82 + j) zeroB) [0, 1] 1 5 x := fun d hd i hi => by
    rw [k3]; split
    · left; rfl
    · exact m1 d hd i hi
  have m14 : MixA (upN (upN N 0 (82 + j) zeroB) 1 (82 + j) zeroB) [0, 1] 1 5 x := fun d hd i hi => by
    rw [k4]; split
    · left; rfl
    · split
      · left; rfl
      · exact m1 d hd i hi
  obtain ⟨s, _, hl1, _⟩ := load_pair hq3 (by decide) [0, 1] (by intro d hd; simp at hd; omega) (al := [0, 1]) rfl (by simp) (g0 := 4) (g1 := 5) (by decide) (by decide) h0 h1 m03 m13 (fun i hi => ⟨0, by simp, by rw [(low 0 i (by omega)).1]; exact a0 0 (by simp) i hi⟩)
  obtain ⟨s', _, _, hl0⟩ := load_pair hq4 (by decide) [0, 1] (by intro d hd; simp at hd; omega) (al := [0, 1]) rfl (by simp) (g0 := 4) (g1 := 5) (by decide) (by decide) h0 h1 m04 m14 (fun i hi => ⟨0, by simp, by rw [(low 0 i (by omega)).2]; exact a0 0 (by simp) i hi⟩)
  refine ⟨T1, T2, T3, T4, s, s', hs1, hq1.useN (by decide) 100 (by decide), hs2, hq2.use (by decide) (by decide), hw3, hq3.use (by decide) (by decide), hw4, hq4.use (by decide) (by decide), ?_, ?_⟩
  · exact hl1 (by decide) (fun i hi => ⟨1, by simp, by rw [k3, if_neg (by simp)]; exact a1 1 (by simp) i hi⟩)
  · refine hl0 (.inr ⟨j, hj, fun d hd => ?_⟩)
    have hd' : d = 0 ∨ d = 1 := by simpa using hd
    rw [k4, show 50 + 32 * 1 + j = 82 + j by omega]
    rcases hd' with rfl | rfl
    · rw [if_neg (by simp), if_pos ⟨rfl, rfl⟩]; exact part_ne (by decide) h1 hj
    · rw [if_pos ⟨rfl, rfl⟩]; exact part_ne (by decide) h1 hj
end Go.Proofs.YtpeclkhppgabfaaDoor
