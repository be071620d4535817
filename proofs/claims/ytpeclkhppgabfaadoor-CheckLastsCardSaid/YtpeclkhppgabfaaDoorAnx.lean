/- Rows of bytes as strings; what grows beside a log. -/
import Derived.Test.YtpeclkhppgabfaaDoorFup
import Derived.Test.YtpeclkhppgabfaaDoorGrs
import Derived.Test.YtpeclkhppgabfaaDoorShd
import Derived.Test.YtpeclkhppgabfaaDoorIrw
namespace Go.Proofs.YtpeclkhppgabfaaDoor
open Go.RowKit
set_option linter.unusedVariables false
set_option linter.unusedSimpArgs false
theorem partsY {n : Nat} (h : n ≤ 200) : 1 ≤ partsN n ∧ partsN n ≤ 4 := by unfold partsN; split <;> omega
/-- the records as strings -/
def strsL (R : List (List Int)) : List Value := R.map fun x => .string (strB x)
theorem strsL_len (R : List (List Int)) : (strsL R).length = R.length := by simp [strsL]
theorem strsL_at (R : List (List Int)) {r : Nat} (h : r < (strsL R).length) : (strsL R)[r] = .string (strB (R.getD r [])) := by
  have h' : r < R.length := by rw [strsL_len] at h; exact h
  simp [strsL, List.getD_eq_getElem?_getD, h']
theorem strsL_snoc (R : List (List Int)) (b : List Int) : strsL (R ++ [b]) = strsL R ++ [.string (strB b)] := by simp [strsL]
theorem Grw.neY {W W' : World} {v v' : Value} (hg : Grw W W' v v') {b : Nat} (hb : b < W.heap.size) (h : v.ownBlock ≠ some b) : v'.ownBlock ≠ some b := by
  rcases hg with ⟨e, _⟩ | ⟨g, e, h1, _, _⟩
  · rw [e]; exact h
  · rw [e]; intro e2; injection e2 with e2; omega
theorem LogD.grownY {W W' : World} {v v' : Value} {p q lg c : Nat} {L : List Int} {t : LogT} (h : LogD W p q lg c L t) (hg : Grw W W' v v') (hp : p < W.heap.size) (hl : lg < W.heap.size) (h1 : v.ownBlock ≠ some p) (h2 : v.ownBlock ≠ some lg) : LogD W' p q lg c L t :=
  h.same (R := fun k => k = p ∨ k = lg) (fun k hk => by
    rcases hk with rfl | rfl
    · exact hg.blk hp h1
    · exact hg.blk hl h2) (.inl rfl) (.inr rfl)
theorem RIn.form {W0 W : World} {v : Value} {R : List (List Int)} (h : RIn W0 W v R) : ∃ ao cap, v = .slice ao R.length cap ∧ ∀ i, i < R.length → ∃ g bv, ao = some ⟨g, 0, none⟩ ∧ W.cell? ⟨g, i, none⟩ = some bv ∧ Src W 1 bv (R.getD i []).length (u8s (R.getD i [])) := by
  obtain ⟨ao, cap, rfl⟩ := h.slice
  refine ⟨ao, cap, rfl, fun i hi => ?_⟩
  obtain ⟨g, c, bv, e, _, h1, h2⟩ := h.at hi
  injection e with e1
  exact ⟨g, bv, e1, h1, h2⟩
end Go.Proofs.YtpeclkhppgabfaaDoor
