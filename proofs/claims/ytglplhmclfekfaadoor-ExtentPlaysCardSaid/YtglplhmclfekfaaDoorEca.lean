/- ExtentCounts: the walk. -/
import Derived.Test.YtglplhmclfekfaaDoorExg
namespace Go.Proofs.YtglplhmclfekfaaDoor
open Go.RowKit Go.ChangeMaps Go.MapKept
set_option linter.unusedVariables false
set_option linter.unusedSimpArgs false

theorem and_i64 (x : Int) (k : Nat) (hk : k ≤ 62) {m : Int} (hm : m = 2 ^ k - 1) : ∃ y : Nat, bits .and .i64 x m = (y : Int) ∧ y < 2 ^ k := by
  subst hm
  have hp : (0 : Int) < 2 ^ k := Int.pow_pos (by decide)
  have h0 := Int.emod_nonneg x (show (2 : Int) ^ k ≠ 0 by omega)
  have h1 := Int.emod_lt_of_pos x hp
  obtain ⟨y, hy⟩ := Int.eq_ofNat_of_zero_le h0
  refine ⟨y, by rw [i64_and_mask x k hk, hy], ?_⟩
  have : ((2 ^ k : Nat) : Int) = (2 : Int) ^ k := by norm_cast
  omega
theorem size_i64 (x : Int) (y m : Nat) (h : bits .and .i64 x 1048575 = (y : Int)) : True := trivial
theorem idx_place (k : Nat) : idxE (114 + (k : Int) * 8) = some (k : Int) := by
  unfold idxE
  rw [if_neg (by omega), if_pos (by omega)]
  congr 1; omega
theorem idx_cases (b : Int) : (idxE b = none) ∨ ∃ i, idxE b = some i := by cases idxE b with
  | none => exact .inl rfl
  | some i => exact .inr ⟨i, rfl⟩
set_option maxHeartbeats 2000000
set_option maxRecDepth 100000
--
--
--
--
--
--
--
--
--
--
--
--
--
--
--
--
--
--
--
--
--
--
--
--
--
--
--
--
--
--
--
--
--
--
--
--
--
--
--
--
--
--
--
--
--
--
--
--
--
--
--
--
--
--
--
--
--
--
--
--
--
--
--
--
--
--
--
--
--
--
--
--
--
--
--
--
--
--
--
--
--
--
--
--
--
--
--
--
--
--
--
--
--
--
end Go.Proofs.YtglplhmclfekfaaDoor
