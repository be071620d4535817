/- All members dead: what Append and Scan answer. -/
import Derived.Test.YtpeclkhppgabfaaDoorFup
namespace Go.Proofs.YtpeclkhppgabfaaDoor
open Go.RowKit
set_option linter.unusedVariables false
set_option linter.unusedSimpArgs false
theorem findL_pass (rd : Rd) (p gen : Int) (so : Tag → Bool) : ∀ (L : List Int) (n : Nat), (∀ d ∈ L, passE (rd d (2 + p)).2 = true) → findL rd p gen so L n = ⟨zeroB, n, false, 0⟩
  | [], n, _ => rfl
  | d :: L, n, h => by
    unfold findL
    rw [if_pos (h d (by simp)), findL_pass rd p gen so L n (fun x hx => h x (by simp [hx]))]
section
variable {T : BankT} {n : Nat} {dd : Nat → Bool} {N : Nat → Nat → List Int} {t : Nat} {ls al : List Nat} {gen : Int} {R : List (List Int)}
theorem Quiet.scan_dead {z : Nat} (h : Quiet T n z dd N t) (hz : 50 ≤ z) (hls : ∀ d ∈ ls, d < n) (hd : ∀ d ∈ ls, dd d = true) : scanL T.read (natI ls) gen 48 0 [] = ([], 0, 5) := by
  have hp : ∀ d ∈ natI ls, passE (T.read d (2 + (0 : Int))).2 = true := fun d hdm => by
    obtain ⟨k, hk, rfl⟩ := List.mem_map.1 hdm
    have := h.read (hls k hk) (show 2 < z by omega)
    rw [if_pos (hd k hk)] at this
    rw [show (2 : Int) + 0 = ((2 : Nat) : Int) by decide, this]; rfl
  have hr : recL T.read (natI ls) gen ((0 : Nat) : Int) (([] : List (List Int)).length : Int) = ([], 5) := by
    unfold recL
    rw [show (((0 : Nat) : Int)) = 0 from rfl, findL_pass _ _ _ _ _ _ hp]
    simp
  unfold scanL
  rw [hr]
  simp
theorem LogQ.fails (h : LogQ T n dd N t al gen R) (d : Nat) : ∃ T' e, T.failC (d : Int) = (T', e) ∧ LogQ T' n (fun c => dd c || decide (c = d)) N t al gen R := by
  obtain ⟨T', e, he, hq⟩ := h.q.fails d
  exact ⟨T', e, he, hq, h.ok, h.only, h.all⟩
theorem Quiet.app_dead {z : Nat} (h : Quiet T n z dd N t) (hz : 50 ≤ z) (hls : ∀ d ∈ ls, d < n) (hd : ∀ d ∈ ls, dd d = true) {b : List Int} (hb : ∀ y ∈ b, IsByte y) {num pos : Nat} (hp1 : 1 ≤ partsN b.length) (hf : pos + partsN b.length ≤ 48) :
    ∃ T' N', (⟨gen, num, pos, false⟩ : LogT).app T (natI ls) b = (⟨gen, num, pos, true⟩, T', 5) ∧ Quiet T' n z dd N' (t + ls.length * (partsN b.length + 1)) := by
  obtain ⟨T', e, h'⟩ := Quiet.layM (n := n) (z := z) (dd := dd) (p := 2 + pos) (splitB_sec (gen := gen) (num := (num : Int)) hb) (by rw [splitB_len]; omega) (by omega) ls 0 hls h
  rw [splitB_len] at h'
  refine ⟨T', _, ?_, h'⟩
  rw [if_pos ⟨rfl, hd⟩, show ((2 + pos : Nat) : Int) = 2 + (pos : Int) by omega] at e
  unfold LogT.app natI
  simp only []
  rw [if_neg (by decide), if_neg (by omega), e]
  rw [if_neg (by show ¬ (5 : Int) = 0; decide)]
theorem LogT.app_off {gen : Int} {num pos : Nat} (T : BankT) (L : List Int) (b : List Int) : (⟨gen, num, pos, true⟩ : LogT).app T L b = (⟨gen, num, pos, true⟩, T, 9) := by
  unfold LogT.app; rw [if_pos rfl]
end
end Go.Proofs.YtpeclkhppgabfaaDoor
