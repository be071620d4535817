/- One more record on a quiet bank, in letters. -/
import Derived.Test.YtpeclkhppgabfaaDoorJqp
namespace Go.Proofs.YtpeclkhppgabfaaDoor
open Go.RowKit
set_option linter.unusedVariables false
set_option linter.unusedSimpArgs false
theorem LogQ.step {T : BankT} {n : Nat} {dd : Nat → Bool} {N : Nat → Nat → List Int} {t : Nat} {ls al : List Nat} {gen : Int} {R : List (List Int)} (h : LogQ T n dd N t al gen R) (hls : ∀ d ∈ ls, d < n) (hs : ∀ d ∈ al, d ∈ ls) (hal : ∃ d ∈ ls, dd d = false) (hg : 0 ≤ gen ∧ gen < 4294967296) {b : List Int} (hl : b.length ≤ 2120) (hb : ∀ y ∈ b, IsByte y)
    {nn pn pt : Nat} (h1 : R.length = nn ∧ posN R = pn) (hp : partsN b.length = pt) {L : List Int} (hL : natI ls = L) :
    (pn + pt ≤ 48 → ∃ T' N', (⟨gen, nn, pn, false⟩ : LogT).app T L b = (⟨gen, nn + 1, pn + pt, false⟩, T', 0) ∧ LogQ T' n dd N' (t + ls.length * 49) al gen (R ++ [b]) ∧ ((R ++ [b]).length = nn + 1 ∧ posN (R ++ [b]) = pn + pt) ∧ N' = layAll N (2 + pn) (splitB gen nn b) ls) ∧
    (48 < pn + pt → (⟨gen, nn, pn, false⟩ : LogT).app T L b = (⟨gen, nn, pn, false⟩, T, 10)) := by
  obtain ⟨rfl, rfl⟩ := h1
  subst hp
  subst hL
  refine ⟨fun hf => ?_, fun hf => Quiet.app_full _ rfl hf _⟩
  obtain ⟨T', e, h'⟩ := h.app hls hs hal hg hl hb hf
  rw [posN_snoc, List.length_append] at e
  exact ⟨T', _, e, h', ⟨by rw [List.length_append]; rfl, posN_snoc _ _⟩, rfl⟩
theorem LogQ.le {T : BankT} {n : Nat} {dd : Nat → Bool} {N : Nat → Nat → List Int} {t : Nat} {al : List Nat} {gen : Int} {R : List (List Int)} (h : LogQ T n dd N t al gen R) {nn pn : Nat} (h1 : R.length = nn ∧ posN R = pn) : nn ≤ 48 ∧ pn ≤ 48 := ⟨h1.1 ▸ h.num, h1.2 ▸ h.ok.fit⟩
end Go.Proofs.YtpeclkhppgabfaaDoor
