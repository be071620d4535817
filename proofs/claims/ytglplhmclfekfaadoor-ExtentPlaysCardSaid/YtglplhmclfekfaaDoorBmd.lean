/- math/bits.TrailingZeros64; bits.Map: Next, Take. -/
import Derived.Test.YtglplhmclfekfaaDoorBmc
import Derived.Lib.TrailingZeros
import Derived.Laws.Bits64b
import Derived.Deep.CutBlock
import Derived.Deep.QuietTactic
import Derived.Deep.DeepCutAuto
import Derived.Deep.Slices
namespace Go.Proofs.YtglplhmclfekfaaDoor
open Go.RowKit Go.ChangeMaps Go.MapKept
set_option linter.unusedVariables false
set_option linter.unusedSimpArgs false

/-- The library's table, in its variable. -/
def DbAt (w : World) : Prop := ∀ j, j < 64 → w.cell? ⟨0, j, none⟩ = some (.int .u8 ((Lib.deBruijn64tab.getD j 0 : Nat) : Int))
theorem DbAt.kept {w w' : World} (h : DbAt w) (hk : Kept w w') : DbAt w' := fun j hj => hk.cell' (h j hj)
theorem tz_key (x a : Nat) (hx : x < 18446744073709551616) (hx0 : x ≠ 0) (hlow : x &&& (18446744073709551616 - x) = a) :
    IntKind.u64.wrap (bits BinOp.and IntKind.u64 (x : Int) (IntKind.u64.wrap (-(x : Int))) * 285870213051353865) / 288230376151711744 = ((a * 285870213051353865 % 18446744073709551616 / 288230376151711744 : Nat) : Int) := by
  have e1 : IntKind.u64.wrap (-(x : Int)) = ((18446744073709551616 - x : Nat) : Int) := by rw [IntKind.wrap_u64]; omega
  rw [e1, bits_and_u64_nat x _ hx (by omega), hlow, IntKind.wrap_u64]
  omega
section
variable {w : World} {p n k : Nat} {s : Nat → Bool} {t : TypeId}
set_option maxHeartbeats 1000000
set_option maxRecDepth 100000
theorem tz_core (x k idx : Nat) (w : World) (hx0 : ((x : Int) == 0) = false)
    (key : IntKind.u64.wrap (bits BinOp.and IntKind.u64 (x : Int) (IntKind.u64.wrap (-(x : Int))) * 285870213051353865) / 288230376151711744 = (idx : Int))
    (hi : idx < 64) (hk : k < 64) (hcell : w.cell? ⟨0, idx, none⟩ = some (.int .u8 (k : Int))) :
    Calls Tryd.prog 55 #[.int .u64 (x : Int)] w fun e w' => e = .returned (.int .i64 (k : Int)) ∧ w = w' := by
  go_enter Tryd.func55, Tryd.ntmps55
  go_wp2_with (simp only [key])
  go_ret
  exact ⟨rfl, rfl⟩
theorem tz_zero (w : World) : Calls Tryd.prog 55 #[.int .u64 0] w fun e w' => e = .returned (.int .i64 64) ∧ w = w' := by
  go_enter Tryd.func55, Tryd.ntmps55
  go_wp2
  go_ret
  exact ⟨rfl, rfl⟩
theorem bits_TrailingZeros64 (x : Nat) (hx : x < 18446744073709551616) (w : World) (hT : DbAt w) :
    Calls Tryd.prog 55 #[.int .u64 (x : Int)] w fun e w' => e = .returned (.int .i64 ((Lib.ctz 64 x : Nat) : Int)) ∧ w = w' := by
  by_cases hx0 : x = 0
  · subst hx0
    exact tz_zero w
  · obtain ⟨hlow, hk⟩ := Lib.lowest_bit 64 x hx0 hx
    obtain ⟨hi, htab⟩ := Lib.deBruijn64_at _ hk
    have hcell := hT _ hi
    rw [htab] at hcell
    exact tz_core x _ _ w (by simp; omega) (tz_key x _ hx hx0 hlow) hi hk hcell
end
/-- the free places of a word: the least of them -/
theorem ctz_free (x : BitVec 64) : ((~~~x).toNat = 0 ∧ ∀ b, b < 64 → x.getLsbD b = true) ∨ ((~~~x).toNat ≠ 0 ∧ Lib.ctz 64 (~~~x).toNat < 64 ∧ x.getLsbD (Lib.ctz 64 (~~~x).toNat) = false ∧ ∀ b, b < Lib.ctz 64 (~~~x).toNat → x.getLsbD b = true) := by
  by_cases h0 : (~~~x).toNat = 0
  · refine .inl ⟨h0, fun b hb => ?_⟩
    have : (~~~x).getLsbD b = false := by rw [BitVec.getLsbD, h0]; simp
    rw [BitVec.getLsbD_not] at this
    simpa [hb] using this
  · refine .inr ⟨h0, ?_⟩
    have hlt := (~~~x).isLt
    obtain ⟨m, hm, hk⟩ := Lib.ctzFrom_spec 64 (~~~x).toNat (by omega) hlt
    have e : Lib.ctz 64 (~~~x).toNat = Lib.ctzFrom 64 (~~~x).toNat := by unfold Lib.ctz; rw [if_neg h0]
    rw [e]
    generalize Lib.ctzFrom 64 (~~~x).toNat = c at *
    refine ⟨hk, ?_, fun b hb => ?_⟩
    · have : (~~~x).getLsbD c = true := by
        rw [BitVec.getLsbD, hm, Nat.mul_comm, Nat.testBit_mul_two_pow]; simp
      rw [BitVec.getLsbD_not] at this
      simpa [hk] using this
    · have : (~~~x).getLsbD b = false := by
        rw [BitVec.getLsbD, hm, Nat.mul_comm, Nat.testBit_mul_two_pow]; simp; omega
      rw [BitVec.getLsbD_not] at this
      have hb' : b < 64 := by omega
      simpa [hb'] using this
theorem not_u64 (x : BitVec 64) : IntKind.u64.wrap (-(x.toNat : Int) - 1) = ((~~~x).toNat : Int) := by
  have := x.isLt
  rw [IntKind.wrap_u64, BitVec.toNat_not]; omega
theorem xor_max (x : BitVec 64) : bits .xor .u64 IntKind.u64.max (x.toNat : Int) = ((~~~x).toNat : Int) := by
  rw [show IntKind.u64.max = 18446744073709551615 from rfl]
  have := x.isLt
  show IntKind.u64.wrap ((BitVec.ofInt 64 18446744073709551615 ^^^ BitVec.ofInt 64 (x.toNat : Int)).toNat : Int) = _
  have e : BitVec.ofInt 64 18446744073709551615 ^^^ BitVec.ofInt 64 (x.toNat : Int) = ~~~x := by
    rw [show BitVec.ofInt 64 18446744073709551615 = BitVec.allOnes 64 from rfl, BitVec.allOnes_xor]
    congr 1
    simp
  rw [e, IntKind.wrap_u64]
  have := (~~~x).isLt
  omega
theorem and_all (y : Nat) (hy : y < 18446744073709551616) : bits .and .u64 (y : Int) 18446744073709551615 = (y : Int) := by
  have := bits_and_u64_nat y 18446744073709551615 hy (by omega)
  rw [show ((18446744073709551615 : Nat) : Int) = 18446744073709551615 from rfl] at this
  rw [this, show 18446744073709551615 = 2 ^ 64 - 1 from rfl, Nat.and_two_pow_sub_one_eq_mod, Nat.mod_eq_of_lt (by omega)]
section
variable {w : World} {p n k : Nat} {s : Nat → Bool} {t : TypeId}
set_option maxHeartbeats 1000000
set_option maxRecDepth 100000
theorem ret2_ib {x y : Int} (h : x = y) : Ending.returned (.tuple #[.int .i64 x, .bool true]) = Ending.returned (.tuple #[.int .i64 y, .bool true]) := by rw [h]
def NextPost (w : World) (n : Nat) (s : Nat → Bool) (e : Ending) (w' : World) : Prop :=
  w = w' ∧ ((∃ i : Nat, i < n ∧ s i = false ∧ (∀ j, j < i → s j = true) ∧ e = .returned (.tuple #[.int .i64 (i : Int), .bool true])) ∨ ((∀ j, j < n → s j = true) ∧ e = .returned (.tuple #[.int .i64 0, .bool false])))
theorem bits_Next (h : BMap w p n s) (hT : DbAt w) : Calls Tryd.prog 47 #[.pointer (some ⟨p, 0, none⟩), .int .i64 0] w (NextPost w n s) := by
  obtain ⟨hn, hno, ws, hl, hb, hat⟩ := h
  have cn := bm_n hl hb
  have HB := Lib.hid hb; clear hb
  have HAT := Lib.hid hat; clear hat
  have HT := Lib.hid hT; clear hT
  have HNO := Lib.hid hno; clear hno
  go_enter Tryd.func47, Tryd.ntmps47
  go_wp2
  go_loop [6] (fun i => ∃ a : Nat, a ≤ 1024 ∧ i = .int .i64 (a : Int) ∧ ∀ j, j < n → j < 64 * a → s j = true) (fun i => 1024 - (intOf i).toNat)
  case atStart => exact ⟨0, Nat.zero_le _, rfl, fun j _ h => by omega⟩
  case round =>
    obtain ⟨a, ha, rfl, hinv⟩ := hrel
    have HI := Lib.hid hinv; clear hinv
    by_cases hlt : a < 1024 ∧ 64 * a < n
    · obtain ⟨ha1, han⟩ := hlt
      have hj : a < ws.length := by omega
      have cw := bm_w HB.out hj
      have hw := HAT.out a hj
      generalize ws[a] = x at *
      have hcf := ctz_free x
      have hnx := xor_max x
      have hylt : (~~~x).toNat < 18446744073709551616 := (~~~x).isLt
      have hxlt := x.isLt
      generalize (~~~x).toNat = y at *
      have hand := and_all y hylt
      have htz := bits_TrailingZeros64 y hylt w HT.out
      generalize hc : Lib.ctz 64 y = c at *
      have HTZ := Lib.hid htz; clear htz
      have HW := Lib.hid hw; clear hw
      have hc64 : c ≤ 64 := by
        rcases hcf with ⟨h0, _⟩ | ⟨_, h, _⟩
        · rw [← hc, h0]; simp [Lib.ctz]
        · omega
      clear hc
      have HCF := Lib.hid hcf; clear hcf
      rcases HCF.out with ⟨hy, hbs⟩ | ⟨hy, hc, hb0, hbs⟩
      · have HBS := Lib.hid hbs; clear hbs
        by_cases ha0 : a = 0
        · subst ha0
          have hyb : ((y : Int) == 0) = true := by simp; omega
          have HY := Lib.hid hy; clear hy
          go_upto_region 8 with fail
          go_wp2_with (refine stop_at (o := ⟨some 45, _, _, _, _, _⟩) ?_)
          refine Stop.mk ?_
          go_wp2_with fail
          refine Calls.mono HTZ.out ?_
          rintro e w' ⟨rfl, rfl⟩
          go_wp2_with fail
          go_round
          case rel => exact ⟨0 + 1, by omega, by go_num, fun j hj1 hj2 => by
            by_cases hja : j < 64 * 0
            · exact HI.out j hj1 hja
            · have := HBS.out (j - 64 * 0) (by omega)
              rw [HW.out _ (by omega), show 64 * 0 + (j - 64 * 0) = j from by omega] at this
              exact this⟩
          case measure => simp [intOf] <;> omega
        · have hab : ((a : Int) == 0) = false := by simp; omega
          have hyb : ((y : Int) == 0) = true := by simp; omega
          have HY := Lib.hid hy; clear hy
          go_upto_region 8 with fail
          go_wp2_with (refine stop_at (o := ⟨some 45, _, _, _, _, _⟩) ?_)
          refine Stop.mk ?_
          go_wp2_with fail
          refine Calls.mono HTZ.out ?_
          rintro e w' ⟨rfl, rfl⟩
          go_wp2_with fail
          go_round
          case rel => exact ⟨a + 1, by omega, by go_num, fun j hj1 hj2 => by
            by_cases hja : j < 64 * a
            · exact HI.out j hj1 hja
            · have := HBS.out (j - 64 * a) (by omega)
              rw [HW.out _ (by omega), show 64 * a + (j - 64 * a) = j from by omega] at this
              exact this⟩
          case measure => simp [intOf] <;> omega
      · have HBS := Lib.hid hbs; clear hbs
        have HB0 := Lib.hid hb0; clear hb0
        by_cases hcn : 64 * a + c < n
        · by_cases ha0 : a = 0
          · subst ha0
            have hci : (c : Int) < (n : Int) := by omega
            have hyb : ((y : Int) == 0) = false := by simp; omega
            have HY := Lib.hid hy; clear hy
            go_upto_region 8 with fail
            go_wp2_with (refine stop_at (o := ⟨some 45, _, _, _, _, _⟩) ?_)
            refine Stop.mk ?_
            go_wp2_with fail
            refine Calls.mono HTZ.out ?_
            rintro e w' ⟨rfl, rfl⟩
            go_wp2_with fail
            go_ret2
            refine ⟨rfl, .inl ⟨64 * 0 + c, hcn, by rw [← HW.out c hc]; exact HB0.out, fun j hj => ?_, ?_⟩⟩
            · by_cases hja : j < 64 * 0
              · exact HI.out j (by omega) hja
              · have := HBS.out (j - 64 * 0) (by omega)
                rw [HW.out _ (by omega), show 64 * 0 + (j - 64 * 0) = j from by omega] at this
                exact this
            · exact ret2_ib (by omega)
          · have hab : ((a : Int) == 0) = false := by simp; omega
            have hyb : ((y : Int) == 0) = false := by simp; omega
            have hci : (a : Int) * 64 + (c : Int) < (n : Int) := by omega
            have HY := Lib.hid hy; clear hy
            go_upto_region 8 with fail
            go_wp2_with (refine stop_at (o := ⟨some 45, _, _, _, _, _⟩) ?_)
            refine Stop.mk ?_
            go_wp2_with fail
            refine Calls.mono HTZ.out ?_
            rintro e w' ⟨rfl, rfl⟩
            go_wp2_with fail
            go_ret2
            refine ⟨rfl, .inl ⟨64 * a + c, hcn, by rw [← HW.out c hc]; exact HB0.out, fun j hj => ?_, ?_⟩⟩
            · by_cases hja : j < 64 * a
              · exact HI.out j (by omega) hja
              · have := HBS.out (j - 64 * a) (by omega)
                rw [HW.out _ (by omega), show 64 * a + (j - 64 * a) = j from by omega] at this
                exact this
            · exact ret2_ib (by omega)
        · by_cases ha0 : a = 0
          · subst ha0
            have hyb : ((y : Int) == 0) = false := by simp; omega
            have HY := Lib.hid hy; clear hy
            go_upto_region 8 with fail
            go_wp2_with (refine stop_at (o := ⟨some 45, _, _, _, _, _⟩) ?_)
            refine Stop.mk ?_
            go_wp2_with fail
            refine Calls.mono HTZ.out ?_
            rintro e w' ⟨rfl, rfl⟩
            go_wp2_with fail
            go_round
            case rel => exact ⟨0 + 1, by omega, by go_num, fun j hj1 hj2 => by
              by_cases hja : j < 64 * 0
              · exact HI.out j hj1 hja
              · have := HBS.out (j - 64 * 0) (by omega)
                rw [HW.out _ (by omega), show 64 * 0 + (j - 64 * 0) = j from by omega] at this
                exact this⟩
            case measure => simp [intOf] <;> omega
          · have hab : ((a : Int) == 0) = false := by simp; omega
            have hyb : ((y : Int) == 0) = false := by simp; omega
            have HY := Lib.hid hy; clear hy
            go_upto_region 8 with fail
            go_wp2_with (refine stop_at (o := ⟨some 45, _, _, _, _, _⟩) ?_)
            refine Stop.mk ?_
            go_wp2_with fail
            refine Calls.mono HTZ.out ?_
            rintro e w' ⟨rfl, rfl⟩
            go_wp2_with fail
            go_round
            case rel => exact ⟨a + 1, by omega, by go_num, fun j hj1 hj2 => by
              by_cases hja : j < 64 * a
              · exact HI.out j hj1 hja
              · have := HBS.out (j - 64 * a) (by omega)
                rw [HW.out _ (by omega), show 64 * a + (j - 64 * a) = j from by omega] at this
                exact this⟩
            case measure => simp [intOf] <;> omega
    · have hge : n ≤ 64 * a := by omega
      by_cases ha1 : a < 1024
      · go_wp2
        go_ret2
        exact ⟨rfl, .inr ⟨fun j hj => HI.out j hj (by omega), rfl⟩⟩
      · go_wp2
        go_ret2
        exact ⟨rfl, .inr ⟨fun j hj => HI.out j hj (by omega), rfl⟩⟩
end
end Go.Proofs.YtglplhmclfekfaaDoor
