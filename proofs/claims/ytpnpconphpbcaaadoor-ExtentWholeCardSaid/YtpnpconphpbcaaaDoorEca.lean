/- ExtentCounts: the walk. -/
import Derived.Test.YtpnpconphpbcaaaDoorExg
namespace Go.Proofs.YtpnpconphpbcaaaDoor
open Go.RowKit Go.ChangeMaps Go.MapKept
set_option linter.unusedVariables false
set_option linter.unusedSimpArgs false

theorem and_i64 (x : Int) (k : Nat) (hk : k ≤ 62) {m : Int} (hm : m = 2 ^ k - 1) : ∃ y : Nat, bits .and .i64 x m = (y : Int) ∧ y < 2 ^ k := by
  subst hm
  have hp : (0 : Int) < 2 ^ k := Int.pow_pos (by decide)
  have h0 := Int.emod_nonneg x (show (2 : Int) ^ k ≠ 0 by omega)
  have h1 := Int.emod_lt_of_pos x hp
  obtain ⟨y, hy⟩ := Int.eq_ofNat_of_zero_le h0
  refine ⟨y, by rw [i64_and_mask x k hk, hy], ?_⟩
  have : ((2 ^ k : Nat) : Int) = (2 : Int) ^ k := by norm_cast
  omega
theorem size_i64 (x : Int) (y m : Nat) (h : bits .and .i64 x 1048575 = (y : Int)) : True := trivial
theorem idx_place (k : Nat) : idxE (114 + (k : Int) * 8) = some (k : Int) := by
  unfold idxE
  rw [if_neg (by omega), if_pos (by omega)]
  congr 1; omega
theorem idx_cases (b : Int) : (idxE b = none) ∨ ∃ i, idxE b = some i := by cases idxE b with
  | none => exact .inl rfl
  | some i => exact .inr ⟨i, rfl⟩
set_option maxHeartbeats 2000000
set_option maxRecDepth 100000
theorem counts_walk (a b : Int) (w : World) (hb : -9223372036854775808 ≤ b ∧ b ≤ 9223372036854775807) (hT : DbAt w) : Calls Tryd.prog 3 #[.int .i64 a, .int .i64 b] w fun e w' => e = .returned (.bool true) ∧ Kept w w' := by
  obtain ⟨y, hand, hy⟩ := and_i64 a 20 (by decide) (m := 1048575) (by decide)
  have hz : y % 4097 < 4097 := Nat.mod_lt _ (by decide)
  have hmod : (y : Int) % 4097 = ((y % 4097 : Nat) : Int) := by omega
  have htmod : (y : Int).tmod 4097 = ((y % 4097 : Nat) : Int) := by rw [Int.tmod_eq_emod_of_nonneg (by omega)]; exact hmod
  generalize y % 4097 = z at *
  have HT := Lib.hid hT; clear hT
  obtain ⟨n, hn⟩ : ∃ n : Nat, cntX z = (n : Int) := ⟨(cntX z).toNat, by unfold cntX; split <;> omega⟩
  have hn2 : n = 0 ∨ 114 + 8 * n ≤ z := by unfold cntX at hn; split at hn <;> omega
  have HC : Hid (∀ W, Calls Tryd.prog 8 #[.int .i64 (z : Int)] W fun e w' => e = .returned (.int .i64 (n : Int)) ∧ W = w') := Lib.hid fun W => by rw [← hn]; exact ext_Count z (by omega) (by omega) W
  have HR : Hid (∀ W, Calls Tryd.prog 9 #[.int .i64 (z : Int)] W fun e w' => e = .returned (.int .i64 (n : Int)) ∧ W = w') := Lib.hid fun W => by rw [← hn]; exact ref_Count z (by omega) W
  have H1 : Hid (∀ W, Calls Tryd.prog 8 #[.int .i64 (-1)] W fun e w' => e = .returned (.int .i64 0) ∧ W = w') := Lib.hid fun W => ext_Count (-1) (by omega) (by omega) W
  have H2 : Hid (∀ W, Calls Tryd.prog 8 #[.int .i64 (-9223372036854775808)] W fun e w' => e = .returned (.int .i64 0) ∧ W = w') := Lib.hid fun W => ext_Count (-9223372036854775808) (by omega) (by omega) W
  have HP : Hid (∀ (k : Nat) W, k ≤ 600 → Calls Tryd.prog 11 #[.int .i64 (k : Int)] W fun e w' => e = .returned (.int .i64 (114 + (k : Int) * 8)) ∧ W = w') := Lib.hid fun k W h => ext_Place k (by omega) (by omega) W
  have HQ : Hid (∀ (k : Nat) W, k ≤ 600 → Calls Tryd.prog 12 #[.int .i64 (k : Int)] W fun e w' => e = .returned (.int .i64 (114 + (k : Int) * 8)) ∧ W = w') := Lib.hid fun k W h => ref_Place k (by omega) (by omega) W
  have HI : Hid (∀ (k : Nat) W, k ≤ 600 → Calls Tryd.prog 10 #[.int .i64 (114 + (k : Int) * 8)] W fun e w' => e = .returned (.tuple #[.int .i64 (k : Int), .bool true]) ∧ W = w') := Lib.hid fun k W h => (ext_Index (114 + (k : Int) * 8) (by omega) (by omega) W).mono fun e w' h => by rw [idx_place] at h; exact h
  clear hn
  go_enter Tryd.func3, Tryd.ntmps3
  go_wp2_with fail
  refine Calls.mono (law_shown w HT.out) ?_
  rintro e w1 ⟨rfl, hk1⟩
  have HK := Lib.hid hk1; clear hk1
  go_wp2_with fail
  refine Calls.mono (HC.out _) ?_
  rintro e w' ⟨rfl, rfl⟩
  go_wp2_with fail
  refine Calls.mono (HR.out _) ?_
  rintro e w' ⟨rfl, rfl⟩
  go_wp2_with fail
  refine Calls.mono (H1.out _) ?_
  rintro e w' ⟨rfl, rfl⟩
  go_wp2_with fail
  refine Calls.mono (H2.out _) ?_
  rintro e w' ⟨rfl, rfl⟩
  go_wp2_with fail
  go_loop [7] (fun i => ∃ k : Nat, k ≤ n ∧ i = .int .i64 (k : Int)) (fun i => n - (intOf i).toNat)
  case atStart => exact ⟨0, Nat.zero_le _, rfl⟩
  case round =>
    obtain ⟨k, hk, rfl⟩ := hrel
    by_cases hlt : k < n
    · have hz8 : 114 + 8 * n ≤ z := by omega
      have hkk : k ≤ 600 := by omega
      have hle : ((114 + (k : Int) * 8) != (114 + (k : Int) * 8)) = false := by simp
      go_wp2_with fail
      refine Calls.mono (HP.out k _ hkk) ?_
      rintro e w' ⟨rfl, rfl⟩
      go_wp2_with fail
      refine Calls.mono (HI.out k _ hkk) ?_
      rintro e w' ⟨rfl, rfl⟩
      go_wp2_with fail
      refine Calls.mono (HP.out k _ hkk) ?_
      rintro e w' ⟨rfl, rfl⟩
      go_wp2_with fail
      refine Calls.mono (HQ.out k _ hkk) ?_
      rintro e w' ⟨rfl, rfl⟩
      go_wp2_with fail
      refine Calls.mono (HP.out k _ hkk) ?_
      rintro e w' ⟨rfl, rfl⟩
      go_wp2_with fail
      refine Calls.mono (HP.out k _ hkk) ?_
      rintro e w' ⟨rfl, rfl⟩
      go_wp2_with fail
      go_round
      case rel => exact ⟨k + 1, by omega, by go_num⟩
      case measure => simp [intOf] <;> omega
    · rcases idx_cases b with hi | ⟨i, hi⟩
      · have hA := ext_Index b hb.1 (by omega) w1
        have hB := ref_Index b hb.1 (by omega) w1
        rw [hi] at hA hB
        simp only [idxV] at hA hB
        have HA := Lib.hid hA; have HB := Lib.hid hB; clear hA hB
        go_wp2_with fail
        refine Calls.mono HA.out ?_
        rintro e w' ⟨rfl, rfl⟩
        go_wp2_with fail
        refine Calls.mono HB.out ?_
        rintro e w' ⟨rfl, rfl⟩
        go_wp2_with fail
        go_ret
        exact ⟨rfl, HK.out⟩
      · have hA := ext_Index b hb.1 (by omega) w1
        have hB := ref_Index b hb.1 (by omega) w1
        rw [hi] at hA hB
        simp only [idxV] at hA hB
        have HA := Lib.hid hA; have HB := Lib.hid hB; clear hA hB
        go_wp2_with fail
        refine Calls.mono HA.out ?_
        rintro e w' ⟨rfl, rfl⟩
        go_wp2_with fail
        refine Calls.mono HB.out ?_
        rintro e w' ⟨rfl, rfl⟩
        go_wp2_with fail
        go_ret
        exact ⟨rfl, HK.out⟩
end Go.Proofs.YtpnpconphpbcaaaDoor
