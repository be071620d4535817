/- Bits of int. -/
import Derived.Test.YtglplhmclfekfaaBase
namespace Go.Proofs.Ytglplhmclfekfaa
open Go.RowKit
set_option linter.unusedVariables false

theorem ofInt_nat64 (a : Nat) (h : a < 9223372036854775808) : (BitVec.ofInt 64 (a : Int)).toNat = a := by
  rw [BitVec.toNat_ofInt]; omega

theorem i64_or_nat (a b : Nat) (ha : a < 9223372036854775808) (hb : b < 9223372036854775808) : bits .or .i64 (a : Int) (b : Int) = ((a ||| b : Nat) : Int) := by
  have hx : a ||| b < 2 ^ 63 := Nat.or_lt_two_pow (by omega) (by omega)
  show IntKind.i64.wrap ((BitVec.ofInt 64 (a : Int) ||| BitVec.ofInt 64 (b : Int)).toNat : Int) = _
  rw [BitVec.toNat_or, ofInt_nat64 a ha, ofInt_nat64 b hb, IntKind.wrap_i64]
  omega

theorem i64_shl8_or (y x : Int) (h1 : 0 ≤ y) (h2 : y < 1099511627776) (h3 : 0 ≤ x) (h4 : x ≤ 255) : bits .or .i64 (y * 256) x = y * 256 + x := by
  obtain ⟨Y, rfl⟩ := Int.eq_ofNat_of_zero_le h1
  obtain ⟨X, rfl⟩ := Int.eq_ofNat_of_zero_le h3
  have : ((Y : Int) * 256) = ((Y * 256 : Nat) : Int) := by omega
  rw [this, i64_or_nat _ _ (by omega) (by omega), nat_join 8 _ _ (by omega) (by omega)]
  omega

theorem i64_and_mask (n : Int) (k : Nat) (hk : k ≤ 62) : bits .and .i64 n (2 ^ k - 1) = n % 2 ^ k := by
  show IntKind.i64.wrap ((BitVec.ofInt 64 n &&& BitVec.ofInt 64 (2 ^ k - 1)).toNat : Int) = _
  have hp : 2 ^ k ≤ 2 ^ 62 := Nat.pow_le_pow_right (by decide) hk
  have hp0 : 0 < 2 ^ k := Nat.two_pow_pos k
  have e1 : ((2 : Int) ^ k - 1) = ((2 ^ k - 1 : Nat) : Int) := by
    have : ((2 ^ k : Nat) : Int) = (2 : Int) ^ k := by norm_cast
    omega
  rw [BitVec.toNat_and, e1, ofInt_nat64 _ (by omega), Nat.and_two_pow_sub_one_eq_mod, BitVec.toNat_ofInt, IntKind.wrap_i64]
  have hd : ((2 : Int) ^ k) ∣ 18446744073709551616 := ⟨2 ^ (64 - k), by rw [← Int.pow_add]; rw [show k + (64 - k) = 64 from by omega]; rfl⟩
  have e2 : (((n % ((2 ^ 64 : Nat) : Int)).toNat % 2 ^ k : Nat) : Int) = n % 2 ^ k := by
    have h0 : 0 ≤ n % ((2 ^ 64 : Nat) : Int) := Int.emod_nonneg _ (by decide)
    rw [Int.natCast_emod, Int.toNat_of_nonneg h0]
    have : ((2 ^ k : Nat) : Int) = (2 : Int) ^ k := by norm_cast
    rw [this]
    exact Int.emod_emod_of_dvd n hd
  rw [e2]
  have h1 : 0 ≤ n % 2 ^ k := Int.emod_nonneg _ (by have : ((2 ^ k : Nat) : Int) = (2 : Int) ^ k := by norm_cast
                                                   omega)
  have h2 : n % 2 ^ k < 2 ^ k := Int.emod_lt_of_pos _ (by have : ((2 ^ k : Nat) : Int) = (2 : Int) ^ k := by norm_cast
                                                          omega)
  have h3 : ((2 ^ k : Nat) : Int) = (2 : Int) ^ k := by norm_cast
  omega

end Go.Proofs.Ytglplhmclfekfaa
