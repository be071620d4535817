/- A journal of which one sector is noughts: plain Lean. -/
import Derived.Test.YtpeclkhppgabfaaDoorOlp
import Derived.Test.YtpeclkhppgabfaaDoorTzb
namespace Go.Proofs.YtpeclkhppgabfaaDoor
open Go.RowKit
set_option linter.unusedVariables false
set_option linter.unusedSimpArgs false
theorem LogQ.torn {T : BankT} {N : Nat → Nat → List Int} {t : Nat} {gen : Int} {R : List (List Int)} (h : LogQ T 1 (fun _ => false) N t [0] gen R) (hg : 0 ≤ gen ∧ gen < 4294967296) {k : Nat} (hk : k < posN R) :
    ∃ T', T.write 0 (2 + (k : Int)) zeroB = (T', 0) ∧ (∃ N', Quiet T' 1 200 (fun _ => false) N' (t + 1)) ∧ ∀ j, j < R.length → posN (R.take j) ≤ k → k < posN (R.take (j + 1)) → ∃ pos, scanL T'.read [0] gen 48 0 [] = (R.take j, pos, 0) := by
  have hfit := h.ok.fit
  obtain ⟨T', hw, hq⟩ := h.q.write (d := 0) (a := 2 + k) (by decide) (by omega) zeroB_secZ
  rw [if_neg (by decide)] at hw hq
  rw [show ((2 + k : Nat) : Int) = 2 + (k : Int) by omega] at hw
  refine ⟨T', hw, ⟨_, hq⟩, fun j hj h1 h2 => ?_⟩
  have hN : ∀ d a, upN N 0 (2 + k) zeroB d a = if d = 0 ∧ a = 2 + k then zeroB else N d a := fun d a => rfl
  have ho : OnlyJ (upN N 0 (2 + k) zeroB) [0] gen R := fun d hd p hp e1 e2 => by
    rw [hN] at e1 e2 ⊢
    by_cases e : d = 0 ∧ 2 + p = 2 + k
    · rw [if_pos e, zero_no] at e1; cases e1
    · rw [if_neg e] at e1 e2 ⊢
      exact h.only d hd p hp e1 e2
  have hls : ∀ d ∈ ([0] : List Nat), d < 1 := by intro d hd; simp at hd; omega
  have hj' := hq.jour (ls := [0]) (by decide) hls (al := [0]) rfl (by simp) hg h.ok ho
  have hs := hj'.scan0 (m := j) (by omega) (fun r hr => hq.full (by decide) hls (al := [0]) rfl hfit (show r < R.length by omega) fun i hi => ⟨0, by simp, by
    have hp1 := posN_take (show r < R.length by omega)
    have hp2 : posN (R.take (r + 1)) ≤ posN (R.take j) := by
      have := posN_le (R.take j) (r + 1)
      rw [List.take_take, Nat.min_eq_left (by omega)] at this
      exact this
    rw [hN, if_neg (by omega)]
    exact h.all 0 (by simp) _ (by have := posN_le R (r + 1); omega)⟩) (fun _ => by
    have hp1 := posN_take hj
    refine ⟨k - posN (R.take j), by omega, fun hm => ?_⟩
    have hse := hq.seesQ (a := 2 + k) (by omega) [0] hls
    have e2 : ((2 + k : Nat) : Int) = 2 + ((posN (R.take j) : Int) + ((k - posN (R.take j) : Nat) : Int)) := by omega
    have hm' : (splitB gen (j : Int) (R.getD j [])).getD (k - posN (R.take j)) [] ∈ sees T'.read (natI [0]) ((2 + k : Nat) : Int) := by rw [e2]; exact hm
    rw [hse.1, List.mem_map] at hm'
    obtain ⟨d, hd, e⟩ := hm'
    have hd0 : d = 0 := by simpa using hd
    subst hd0
    rw [hN, if_pos ⟨rfl, rfl⟩] at e
    have hl : (R.getD j []).length ≤ 2120 := h.ok.len _ (getD_mem hj)
    have ht := (RecRange.tag (gen := gen) (num := (j : Int)) (b := R.getD j []) ⟨hg, ⟨by omega, by have := h.num; omega⟩, hl⟩ (i := k - posN (R.take j)) (by omega)).1
    rw [← e, zero_no] at ht; cases ht)
  exact ⟨_, hs⟩
end Go.Proofs.YtpeclkhppgabfaaDoor
