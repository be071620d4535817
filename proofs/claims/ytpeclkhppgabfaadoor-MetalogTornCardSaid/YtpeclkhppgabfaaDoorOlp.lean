/- Records of two generations in one journal: plain Lean. -/
import Derived.Test.YtpeclkhppgabfaaDoorFup
namespace Go.Proofs.YtpeclkhppgabfaaDoor
open Go.RowKit
set_option linter.unusedVariables false
set_option linter.unusedSimpArgs false
theorem part_tag {gen : Int} (hg : 0 ≤ gen ∧ gen < 4294967296) {b : List Int} (hl : b.length ≤ 2120) {num : Nat} (hn : num < 1000) {i : Nat} (hi : i < partsN b.length) : (tagRaw ((splitB gen num b).getD i [])).gen = gen := by
  rw [(RecRange.tag (gen := gen) (num := (num : Int)) (b := b) ⟨hg, ⟨by omega, by omega⟩, hl⟩ hi).2]
/-- the journal's first place is not of the generation -/
def F0 (N : Nat → Nat → List Int) (al : List Nat) (gen : Int) : Prop := ∀ d ∈ al, (tagRaw (N d 2)).gen ≠ gen
structure Old2 (N : Nat → Nat → List Int) (al : List Nat) (gen : Int) (R : List (List Int)) (k : Nat) : Prop where
  only : OnlyJ N al gen R
  all : k = 0 → AllJ N al gen R
  f0 : 0 < k → F0 N al gen
theorem Old2.step {N : Nat → Nat → List Int} {al ls : List Nat} {gen gen' : Int} {R : List (List Int)} {k : Nat} (h : Old2 N al gen R k) (hs : ∀ d ∈ al, d ∈ ls) (hg' : 0 ≤ gen' ∧ gen' < 4294967296) (hne : gen' ≠ gen) {b : List Int} (hl : b.length ≤ 2120) (hk : k < 1000) {pn : Nat} (h0 : k = 0 → pn = 0) : Old2 (layAll N (2 + pn) (splitB gen' k b) ls) al gen R (k + 1) := by
  have hp1 := (partsN_pos hl).1
  refine ⟨fun d hd p hp h1 h2 => ?_, fun e => absurd e (by omega), fun _ d hd => ?_⟩
  · rw [layAll_at, splitB_len] at h1 h2 ⊢
    by_cases hh : d ∈ ls ∧ 2 + pn ≤ 2 + p ∧ 2 + p < 2 + pn + partsN b.length
    · rw [if_pos hh] at h2
      rw [part_tag hg' hl hk (by omega)] at h2
      exact absurd h2 hne
    · rw [if_neg hh] at h1 h2 ⊢
      exact h.only d hd p hp h1 h2
  · rw [layAll_at, splitB_len]
    by_cases hh : d ∈ ls ∧ 2 + pn ≤ 2 ∧ 2 < 2 + pn + partsN b.length
    · rw [if_pos hh, part_tag hg' hl hk (by omega)]; exact hne
    · rw [if_neg hh]
      by_cases hk0 : k = 0
      · have := h0 hk0
        exact absurd ⟨hs d hd, by omega, by omega⟩ hh
      · exact h.f0 (by omega) d hd
theorem Old2.scan {T : BankT} {n t : Nat} {dd : Nat → Bool} {N : Nat → Nat → List Int} {ls al : List Nat} {gen : Int} {R : List (List Int)} {k : Nat} (hq : Quiet T n 200 dd N t) (h : Old2 N al gen R k) (hls : ∀ d ∈ ls, d < n) (hal : (ls.filter fun d => !dd d) = al) (h0 : al ≠ []) (hg : 0 ≤ gen ∧ gen < 4294967296) (hR : RecsOk R) : ∃ S pos, scanL T.read (natI ls) gen 48 0 [] = (S, pos, 0) ∧ (0 < k → S = []) := by
  by_cases hk : k = 0
  · exact ⟨R, posN R, hq.scan (by decide) hls hal h0 hg hR h.only (h.all hk), fun h => by omega⟩
  · have hj := hq.jour (by decide) hls hal h0 hg hR h.only
    have := hj.scan0 (m := 0) (Nat.zero_le _) (fun r hr => by cases hr) (fun hr => by
      have hl : (R.getD 0 []).length ≤ 2120 := hR.len _ (getD_mem hr)
      have hp1 := (partsN_pos hl).1
      refine ⟨0, by omega, fun hm => ?_⟩
      have hse := hq.seesQ (a := 2) (by decide) ls hls
      rw [hal] at hse
      have hm' : (splitB gen ((0 : Nat) : Int) (R.getD 0 [])).getD 0 [] ∈ sees T.read (natI ls) ((2 : Nat) : Int) := hm
      rw [hse.1, List.mem_map] at hm'
      obtain ⟨d, hd, e⟩ := hm'
      have := h.f0 (by omega) d hd
      rw [e, part_tag hg hl (by decide) (by omega)] at this
      exact this rfl)
    exact ⟨_, _, this, fun _ => rfl⟩
theorem Old2.start {N : Nat → Nat → List Int} {al : List Nat} {gen : Int} {R : List (List Int)} (h1 : OnlyJ N al gen R) (h2 : AllJ N al gen R) : Old2 N al gen R 0 := ⟨h1, fun _ => h2, fun h => by omega⟩
/-- one more of the old generation -/
theorem LogQ.stepF {T : BankT} {n : Nat} {dd : Nat → Bool} {N : Nat → Nat → List Int} {t : Nat} {ls al : List Nat} {gen : Int} {R : List (List Int)} (h : LogQ T n dd N t al gen R) (hF : FromJ N al (fun g => g = gen)) (hls : ∀ d ∈ ls, d < n) (hs : ∀ d ∈ al, d ∈ ls) (hal : ∃ d ∈ ls, dd d = false) (hg : 0 ≤ gen ∧ gen < 4294967296) {b : List Int} (hl : b.length ≤ 2120) (hb : ∀ y ∈ b, IsByte y)
    {nn pn pt : Nat} (h1 : R.length = nn ∧ posN R = pn) (hp : partsN b.length = pt) {L : List Int} (hL : natI ls = L) (hf : pn + pt ≤ 48) :
    ∃ T' N', (⟨gen, nn, pn, false⟩ : LogT).app T L b = (⟨gen, nn + 1, pn + pt, false⟩, T', 0) ∧ LogQ T' n dd N' (t + ls.length * 49) al gen (R ++ [b]) ∧ ((R ++ [b]).length = nn + 1 ∧ posN (R ++ [b]) = pn + pt) ∧ FromJ N' al (fun g => g = gen) := by
  obtain ⟨T', N', e, hq, hn, rfl⟩ := (h.step hls hs hal hg hl hb h1 hp hL).1 hf
  exact ⟨T', _, e, hq, hn, hF.app hg rfl hl (by have := h.le h1; omega) pn⟩
/-- .. of the new one -/
theorem LogQ.stepO {T : BankT} {n : Nat} {dd : Nat → Bool} {N : Nat → Nat → List Int} {t : Nat} {ls al : List Nat} {gen gen0 : Int} {R R0 : List (List Int)} (h : LogQ T n dd N t al gen R) {nn pn pt : Nat} (hO : Old2 N al gen0 R0 nn) (hne : gen ≠ gen0) (hls : ∀ d ∈ ls, d < n) (hs : ∀ d ∈ al, d ∈ ls) (hal : ∃ d ∈ ls, dd d = false) (hg : 0 ≤ gen ∧ gen < 4294967296) {b : List Int} (hl : b.length ≤ 2120) (hb : ∀ y ∈ b, IsByte y)
    (h1 : R.length = nn ∧ posN R = pn) (hp : partsN b.length = pt) {L : List Int} (hL : natI ls = L) (hf : pn + pt ≤ 48) :
    ∃ T' N', (⟨gen, nn, pn, false⟩ : LogT).app T L b = (⟨gen, nn + 1, pn + pt, false⟩, T', 0) ∧ LogQ T' n dd N' (t + ls.length * 49) al gen (R ++ [b]) ∧ ((R ++ [b]).length = nn + 1 ∧ posN (R ++ [b]) = pn + pt) ∧ Old2 N' al gen0 R0 (nn + 1) := by
  obtain ⟨T', N', e, hq, hn, rfl⟩ := (h.step hls hs hal hg hl hb h1 hp hL).1 hf
  refine ⟨T', _, e, hq, hn, hO.step hs hg hne hl (by have := h.le h1; omega) fun e => ?_⟩
  have : R = [] := List.eq_nil_of_length_eq_zero (h1.1.trans e)
  rw [← h1.2, this]; rfl
end Go.Proofs.YtpeclkhppgabfaaDoor
