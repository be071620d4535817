/- A disk.Bank: who is there, who may be used; the places that are loose are gone through: for each function that is called (gen_loose.py). -/
import Derived.Test.YtglplhmclfekfaaGreatDkc
import Derived.Test.YtglplhmclfekfaaGreatEA
namespace Go.Proofs.YtglplhmclfekfaaGreat
open Go.RowKit
set_option linter.unusedVariables false
set_option linter.unusedSimpArgs false

section
variable {w : World} {Y : Lay} {T : BankT}
set_option maxHeartbeats 1000000 in
set_option maxRecDepth 100000 in
theorem loose_Flush {w : World} {B D : Nat} {c cz : Nat} {sin : List Int} (cs : w.cell? ⟨B, 2, none⟩ = some (.slice (some ⟨D, 0, none⟩) sin.length cz)) (hn : sin.length ≤ 4096) (Inv : Nat → World → Prop) (h0 : Inv 0 w)
    (hr : ∀ j w1, j < sin.length → Inv j w1 → w1.cell? ⟨D, j, none⟩ = some (.int .i64 (sin.getD j 0)))
    (hc : ∀ j w1, j < sin.length → 0 < sin.getD j 0 → Inv j w1 → Calls Tryz.prog 82 #[.int .i64 (j : Int), .pointer (some ⟨c, 0, none⟩)] w1 fun e w2 => e = .returned (.tuple #[]) ∧ Inv (j + 1) w2)
    (hs : ∀ j w1, j < sin.length → ¬ 0 < sin.getD j 0 → Inv j w1 → Inv (j + 1) w1) :
    Calls Tryz.prog 47 #[.pointer (some ⟨B, 0, none⟩), .func (.func 82) #[] #[.pointer (some ⟨c, 0, none⟩)]] w fun e w' => e = .returned (.tuple #[]) ∧ Inv sin.length w' := by
  have HR := Lib.hid hr; clear hr
  have HC := Lib.hid hc; clear hc
  have HS := Lib.hid hs; clear hs
  have H0 := Lib.hid h0; clear h0
  go_enter Tryz.func47, Tryz.ntmps47
  go_wp2
  go_loopw [11] (fun i wr => ∃ k : Nat, k ≤ sin.length ∧ i = .int .i64 k ∧ Inv k wr) (fun i _ => sin.length - (intOf i).toNat)
  case atStart => exact ⟨0, Nat.zero_le _, rfl, H0.out⟩
  case round =>
    obtain ⟨k, hk, rfl, I⟩ := hrel
    by_cases hlt : k < sin.length
    · have c0 := HR.out k _ hlt I
      have hS := HS.out k wr hlt
      have hC := HC.out k wr hlt
      generalize sin.getD k 0 = x at *
      have HSx := Lib.hid hS; clear hS
      have HCx := Lib.hid hC; clear hC
      have HI := Lib.hid I; clear I
      by_cases hx : 0 < x
      · go_wp2_with fail
        refine Calls.mono (HCx.out hx HI.out) ?_
        rintro e w2 ⟨rfl, I2⟩
        have HI2 := Lib.hid I2; clear I2
        go_wp2
        go_roundw
        case rel => exact ⟨k + 1, hlt, by go_num, HI2.out⟩
        case measure => simp [intOf]; omega
      · have I2 := Lib.hid (HSx.out (by omega) HI.out)
        go_wp2
        go_roundw
        case rel => exact ⟨k + 1, hlt, by go_num, I2.out⟩
        case measure => simp [intOf]; omega
    · have : k = sin.length := by omega
      subst this
      have HI := Lib.hid I; clear I
      go_wp2
      go_end0
      exact ⟨rfl, HI.out⟩
set_option maxHeartbeats 1000000 in
set_option maxRecDepth 100000 in
theorem loose_Fail {w : World} {B D : Nat} {c cz : Nat} {sin : List Int} (cs : w.cell? ⟨B, 2, none⟩ = some (.slice (some ⟨D, 0, none⟩) sin.length cz)) (hn : sin.length ≤ 4096) (Inv : Nat → World → Prop) (h0 : Inv 0 w)
    (hr : ∀ j w1, j < sin.length → Inv j w1 → w1.cell? ⟨D, j, none⟩ = some (.int .i64 (sin.getD j 0)))
    (hc : ∀ j w1, j < sin.length → 0 < sin.getD j 0 → Inv j w1 → Calls Tryz.prog 61 #[.int .i64 (j : Int), .pointer (some ⟨c, 0, none⟩)] w1 fun e w2 => e = .returned (.tuple #[]) ∧ Inv (j + 1) w2)
    (hs : ∀ j w1, j < sin.length → ¬ 0 < sin.getD j 0 → Inv j w1 → Inv (j + 1) w1) :
    Calls Tryz.prog 47 #[.pointer (some ⟨B, 0, none⟩), .func (.func 61) #[] #[.pointer (some ⟨c, 0, none⟩)]] w fun e w' => e = .returned (.tuple #[]) ∧ Inv sin.length w' := by
  have HR := Lib.hid hr; clear hr
  have HC := Lib.hid hc; clear hc
  have HS := Lib.hid hs; clear hs
  have H0 := Lib.hid h0; clear h0
  go_enter Tryz.func47, Tryz.ntmps47
  go_wp2
  go_loopw [11] (fun i wr => ∃ k : Nat, k ≤ sin.length ∧ i = .int .i64 k ∧ Inv k wr) (fun i _ => sin.length - (intOf i).toNat)
  case atStart => exact ⟨0, Nat.zero_le _, rfl, H0.out⟩
  case round =>
    obtain ⟨k, hk, rfl, I⟩ := hrel
    by_cases hlt : k < sin.length
    · have c0 := HR.out k _ hlt I
      have hS := HS.out k wr hlt
      have hC := HC.out k wr hlt
      generalize sin.getD k 0 = x at *
      have HSx := Lib.hid hS; clear hS
      have HCx := Lib.hid hC; clear hC
      have HI := Lib.hid I; clear I
      by_cases hx : 0 < x
      · go_wp2_with fail
        refine Calls.mono (HCx.out hx HI.out) ?_
        rintro e w2 ⟨rfl, I2⟩
        have HI2 := Lib.hid I2; clear I2
        go_wp2
        go_roundw
        case rel => exact ⟨k + 1, hlt, by go_num, HI2.out⟩
        case measure => simp [intOf]; omega
      · have I2 := Lib.hid (HSx.out (by omega) HI.out)
        go_wp2
        go_roundw
        case rel => exact ⟨k + 1, hlt, by go_num, I2.out⟩
        case measure => simp [intOf]; omega
    · have : k = sin.length := by omega
      subst this
      have HI := Lib.hid I; clear I
      go_wp2
      go_end0
      exact ⟨rfl, HI.out⟩
set_option maxHeartbeats 1000000 in
set_option maxRecDepth 100000 in
theorem loose_Loose {w : World} {B D : Nat} {c cz : Nat} {sin : List Int} (cs : w.cell? ⟨B, 2, none⟩ = some (.slice (some ⟨D, 0, none⟩) sin.length cz)) (hn : sin.length ≤ 4096) (Inv : Nat → World → Prop) (h0 : Inv 0 w)
    (hr : ∀ j w1, j < sin.length → Inv j w1 → w1.cell? ⟨D, j, none⟩ = some (.int .i64 (sin.getD j 0)))
    (hc : ∀ j w1, j < sin.length → 0 < sin.getD j 0 → Inv j w1 → Calls Tryz.prog 48 #[.int .i64 (j : Int), .pointer (some ⟨c, 0, none⟩)] w1 fun e w2 => e = .returned (.tuple #[]) ∧ Inv (j + 1) w2)
    (hs : ∀ j w1, j < sin.length → ¬ 0 < sin.getD j 0 → Inv j w1 → Inv (j + 1) w1) :
    Calls Tryz.prog 47 #[.pointer (some ⟨B, 0, none⟩), .func (.func 48) #[] #[.pointer (some ⟨c, 0, none⟩)]] w fun e w' => e = .returned (.tuple #[]) ∧ Inv sin.length w' := by
  have HR := Lib.hid hr; clear hr
  have HC := Lib.hid hc; clear hc
  have HS := Lib.hid hs; clear hs
  have H0 := Lib.hid h0; clear h0
  go_enter Tryz.func47, Tryz.ntmps47
  go_wp2
  go_loopw [11] (fun i wr => ∃ k : Nat, k ≤ sin.length ∧ i = .int .i64 k ∧ Inv k wr) (fun i _ => sin.length - (intOf i).toNat)
  case atStart => exact ⟨0, Nat.zero_le _, rfl, H0.out⟩
  case round =>
    obtain ⟨k, hk, rfl, I⟩ := hrel
    by_cases hlt : k < sin.length
    · have c0 := HR.out k _ hlt I
      have hS := HS.out k wr hlt
      have hC := HC.out k wr hlt
      generalize sin.getD k 0 = x at *
      have HSx := Lib.hid hS; clear hS
      have HCx := Lib.hid hC; clear hC
      have HI := Lib.hid I; clear I
      by_cases hx : 0 < x
      · go_wp2_with fail
        refine Calls.mono (HCx.out hx HI.out) ?_
        rintro e w2 ⟨rfl, I2⟩
        have HI2 := Lib.hid I2; clear I2
        go_wp2
        go_roundw
        case rel => exact ⟨k + 1, hlt, by go_num, HI2.out⟩
        case measure => simp [intOf]; omega
      · have I2 := Lib.hid (HSx.out (by omega) HI.out)
        go_wp2
        go_roundw
        case rel => exact ⟨k + 1, hlt, by go_num, I2.out⟩
        case measure => simp [intOf]; omega
    · have : k = sin.length := by omega
      subst this
      have HI := Lib.hid I; clear I
      go_wp2
      go_end0
      exact ⟨rfl, HI.out⟩
set_option maxHeartbeats 1000000 in
set_option maxRecDepth 100000 in
theorem loose_Crash {w : World} {B D : Nat} {c d cz : Nat} {sin : List Int} (cs : w.cell? ⟨B, 2, none⟩ = some (.slice (some ⟨D, 0, none⟩) sin.length cz)) (hn : sin.length ≤ 4096) (Inv : Nat → World → Prop) (h0 : Inv 0 w)
    (hr : ∀ j w1, j < sin.length → Inv j w1 → w1.cell? ⟨D, j, none⟩ = some (.int .i64 (sin.getD j 0)))
    (hc : ∀ j w1, j < sin.length → 0 < sin.getD j 0 → Inv j w1 → Calls Tryz.prog 77 #[.int .i64 (j : Int), .pointer (some ⟨c, 0, none⟩), .pointer (some ⟨d, 0, none⟩)] w1 fun e w2 => e = .returned (.tuple #[]) ∧ Inv (j + 1) w2)
    (hs : ∀ j w1, j < sin.length → ¬ 0 < sin.getD j 0 → Inv j w1 → Inv (j + 1) w1) :
    Calls Tryz.prog 47 #[.pointer (some ⟨B, 0, none⟩), .func (.func 77) #[] #[.pointer (some ⟨c, 0, none⟩), .pointer (some ⟨d, 0, none⟩)]] w fun e w' => e = .returned (.tuple #[]) ∧ Inv sin.length w' := by
  have HR := Lib.hid hr; clear hr
  have HC := Lib.hid hc; clear hc
  have HS := Lib.hid hs; clear hs
  have H0 := Lib.hid h0; clear h0
  go_enter Tryz.func47, Tryz.ntmps47
  go_wp2
  go_loopw [11] (fun i wr => ∃ k : Nat, k ≤ sin.length ∧ i = .int .i64 k ∧ Inv k wr) (fun i _ => sin.length - (intOf i).toNat)
  case atStart => exact ⟨0, Nat.zero_le _, rfl, H0.out⟩
  case round =>
    obtain ⟨k, hk, rfl, I⟩ := hrel
    by_cases hlt : k < sin.length
    · have c0 := HR.out k _ hlt I
      have hS := HS.out k wr hlt
      have hC := HC.out k wr hlt
      generalize sin.getD k 0 = x at *
      have HSx := Lib.hid hS; clear hS
      have HCx := Lib.hid hC; clear hC
      have HI := Lib.hid I; clear I
      by_cases hx : 0 < x
      · go_wp2_with fail
        refine Calls.mono (HCx.out hx HI.out) ?_
        rintro e w2 ⟨rfl, I2⟩
        have HI2 := Lib.hid I2; clear I2
        go_wp2
        go_roundw
        case rel => exact ⟨k + 1, hlt, by go_num, HI2.out⟩
        case measure => simp [intOf]; omega
      · have I2 := Lib.hid (HSx.out (by omega) HI.out)
        go_wp2
        go_roundw
        case rel => exact ⟨k + 1, hlt, by go_num, I2.out⟩
        case measure => simp [intOf]; omega
    · have : k = sin.length := by omega
      subst this
      have HI := Lib.hid I; clear I
      go_wp2
      go_end0
      exact ⟨rfl, HI.out⟩
end
end Go.Proofs.YtglplhmclfekfaaGreat
