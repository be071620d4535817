/- A disk.Bank: a write is counted, Crash given. -/
import Derived.Test.YtglplhmclfekfaaGreatDkl
namespace Go.Proofs.YtglplhmclfekfaaGreat
open Go.RowKit
set_option linter.unusedVariables false
set_option linter.unusedSimpArgs false

/-- Crash, as it is called -/
def Crashes (Y : Lay) (T : BankT) (mask : Int) : Prop := ∀ w1, BankD w1 Y T → Calls Tryz.prog 41 #[.pointer (some ⟨Y.A 0, 0, none⟩), .int .u64 mask] w1 fun e w' => e = .returned (.tuple #[]) ∧ BankD w' Y (T.crash mask) ∧ But (Y.In T.l.length) w1 w'
theorem BankT.tick1_no {T : BankT} {k : Nat} (h : ¬ 0 < (T.d k).fail) : T.tick1 k = T := by unfold BankT.tick1; rw [if_neg h]
theorem BankT.tick1_one {T : BankT} {k : Nat} (h : (T.d k).fail = 1) : T.tick1 k = (T.up k (T.d k).less).fell k := by unfold BankT.tick1; rw [if_pos (by omega), if_pos h]
theorem BankT.tick1_more {T : BankT} {k : Nat} (h : 1 < (T.d k).fail) : T.tick1 k = T.up k (T.d k).less := by unfold BankT.tick1; rw [if_pos (by omega), if_neg (by omega)]
section
variable {w : World} {Y : Lay} {T : BankT}
set_option maxHeartbeats 1000000
set_option maxRecDepth 100000
theorem counts_of (h : BankD w Y T) (inv : T.Inv) (hN : T.l.length ≠ 0) (hw1 : T.writes < 1000000000) (hC : T.down = false → 0 < T.armed → Crashes Y (T.tickTo T.l.length).arm1 T.mask) :
    Calls Tryz.prog 75 #[.pointer (some ⟨Y.A 0, 0, none⟩)] w fun e w' => e = .returned (.bool T.tick.2) ∧ BankD w' Y T.tick.1 ∧ But (Y.In T.l.length) w w' := by
  have H := Lib.hid h
  have cd := h.b1
  have cw := h.b3
  by_cases hd : T.down = true
  · have E := Lib.hid (show T.tick = (T, true) by unfold BankT.tick; rw [if_pos hd])
    rw [hd] at cd
    clear h hd hC
    go_enter Tryz.func75, Tryz.ntmps75
    go_wp2
    go_ret
    exact ⟨by rw [E.out]; rfl, by rw [E.out]; exact H.out, But.refl _ _⟩
  · have hd' : T.down = false := by simpa using hd
    rw [hd'] at cd
    have ok := inv.ok
    have hN32 := ok.1
    have hw0 := inv.wr
    have har := inv.ar
    have HC := Lib.hid (hC hd')
    have ED := Lib.hid (show T.tick = if 0 < (T.tickTo T.l.length).armed then (if (T.tickTo T.l.length).armed = 1 then ((T.tickTo T.l.length).arm1.crash (T.tickTo T.l.length).mask, false) else ((T.tickTo T.l.length).arm1, true)) else (T.tickTo T.l.length, true) by unfold BankT.tick; rw [if_neg hd])
    clear h hd hd' hC
    go_enter Tryz.func75, Tryz.ntmps75
    go_wp2_with (refine stop_at (o := ⟨none, .store _ _ _, _, _, _, _⟩) ?_)
    refine Stop.mk ?_
    refine wpList_set_cell rfl _ _ rfl size_int (Y.A 0) 3 rfl (.int .i64 (T.writes + 1)) rfl rfl rfl _ _ H.out.bank (by simp [bankVals]) ?_
    intro w1 hw1
    obtain ⟨B1, U1⟩ := H.out.wrote_bank (T' := T.tickTo 0) rfl hw1
    have HB1 := Lib.hid B1; have HU1 := Lib.hid U1; clear B1 U1 hw1
    have c0 := HB1.out.b0 (T := T.tickTo 0) hN
    have hl0 : (T.tickTo 0).l.length = T.l.length := rfl
    rw [hl0] at c0
    go_wp2
    go_loopw [21] (fun i wr => ∃ k : Nat, k ≤ T.l.length ∧ i = .int .i64 k ∧ Hid (BankD wr Y (T.tickTo k)) ∧ Hid (But (Y.In T.l.length) w wr)) (fun i _ => T.l.length - (intOf i).toNat)
    case atStart => exact ⟨0, Nat.zero_le _, rfl, HB1, HU1⟩
    case round =>
      obtain ⟨k, hk, rfl, HB, HU⟩ := hrel
      obtain ⟨cc, okk, _⟩ := BankT.tickTo_calmer ok hk
      have hlk := cc.len
      by_cases hlt : k < T.l.length
      · have HS := Lib.hid (show T.tickTo (k + 1) = (T.tickTo k).tick1 k from rfl)
        generalize T.tickTo k = Tk at *
        have hkk : k < Tk.l.length := by rw [hlk]; exact hlt
        have hNk : Tk.l.length ≠ 0 := by omega
        have cr := HB.out.r hkk
        have cf := HB.out.m4 hkk
        have okd := okk.d hkk
        have hf := okd.fail
        have HCC := Lib.hid cc; clear cc
        by_cases h0 : 0 < (Tk.d k).fail
        · have hfw : (Tk.d k).fail - 1 < 9223372036854775808 := by omega
          go_wp2_with (refine stop_at (o := ⟨none, .store _ _ _, _, _, _, _⟩) ?_)
          refine Stop.mk ?_
          refine wpList_set_cell rfl _ _ rfl size_int (Y.A (2 + 4 * k)) 4 rfl (.int .i64 ((Tk.d k).fail - 1)) rfl rfl rfl _ _ (HB.out.med k hkk) (by simp [medVals]) ?_
          intro w2 hw2
          obtain ⟨B2, U2⟩ := HB.out.wrote_med hkk (d := (Tk.d k).dead) (f := (Tk.d k).fail - 1) hw2
          rw [hlk] at U2
          have hkl2 : k < (Tk.up k (Tk.d k).less).l.length := by rw [BankT.up_len]; exact hkk
          have HB2 : Hid (BankD w2 Y (Tk.up k (Tk.d k).less)) := Lib.hid B2
          have HU2 := Lib.hid (HU.out.trans U2); clear B2 U2 hw2
          have cf2 := HB2.out.m4 hkl2
          rw [BankT.up_self _ hkk] at cf2
          have cf3 : w2.cell? ⟨Y.A (2 + 4 * k), 4, none⟩ = some (.int .i64 ((Tk.d k).fail - 1)) := cf2
          clear cf2
          by_cases h1 : (Tk.d k).fail = 1
          · have HF := Lib.hid (bank_Fail HB2.out (okk.up k (okd.less h0)) (by rw [BankT.up_len]; exact hNk) (k : Int))
            have EF := Lib.hid (show (Tk.up k (Tk.d k).less).failC (k : Int) = ((Tk.up k (Tk.d k).less).fell k, 0) by unfold BankT.failC; rw [if_neg (by rw [BankT.up_len]; omega), Int.toNat_natCast])
            have hbt : (((Tk.d k).fail - 1 : Int) == 0) = true := by rw [h1]; rfl
            go_wp2_with fail
            refine Calls.mono HF.out ?_
            rintro e w3 ⟨rfl, h3, h4⟩
            rw [EF.out] at h3
            rw [BankT.up_len, hlk] at h4
            have HB3 : Hid (BankD w3 Y (T.tickTo (k + 1))) := Lib.hid (by rw [HS.out, BankT.tick1_one h1]; exact h3)
            have HU3 := Lib.hid (HU2.out.trans h4); clear h3 h4
            go_wp2
            go_roundw
            case rel => exact ⟨k + 1, hlt, by go_num, HB3, HU3⟩
            case measure => simp [intOf]; omega
          · have HB3 : Hid (BankD w2 Y (T.tickTo (k + 1))) := Lib.hid (by rw [HS.out, BankT.tick1_more (by omega)]; exact HB2.out)
            have hbt : (((Tk.d k).fail - 1 : Int) == 0) = false := by simp; omega
            go_wp2
            go_roundw
            case rel => exact ⟨k + 1, hlt, by go_num, HB3, HU2⟩
            case measure => simp [intOf]; omega
        · have HB3 : Hid (BankD wr Y (T.tickTo (k + 1))) := Lib.hid (by rw [HS.out, BankT.tick1_no h0]; exact HB.out)
          go_wp2
          go_roundw
          case rel => exact ⟨k + 1, hlt, by go_num, HB3, HU⟩
          case measure => simp [intOf]; omega
      · have hkk : k = T.l.length := by omega
        subst hkk
        obtain ⟨_, _, _, har', hmk', _⟩ := BankT.tickTo_calmer ok (Nat.le_refl _)
        generalize T.tickTo T.l.length = Tk at *
        have ca := HB.out.b4
        have cm := HB.out.b5
        rw [har'] at ca
        by_cases h0 : 0 < T.armed
        · go_wp2_with (refine stop_at (o := ⟨none, .store _ _ _, _, _, _, _⟩) ?_)
          refine Stop.mk ?_
          refine wpList_set_cell rfl _ _ rfl size_int (Y.A 0) 4 rfl (.int .i64 (T.armed - 1)) rfl rfl rfl _ _ HB.out.bank (by simp [bankVals]) ?_
          intro w2 hw2
          obtain ⟨B2, U2⟩ := HB.out.wrote_bank (T' := Tk.arm1) rfl (by rw [show bankVals Y Tk.arm1 = (bankVals Y Tk).set 4 (.int .i64 (T.armed - 1)) by simp [bankVals, BankT.arm1, har']]; exact hw2)
          rw [hlk] at U2
          have HB2 := Lib.hid B2
          have HU2 := Lib.hid (HU.out.trans U2); clear B2 U2 hw2
          have ca2 : w2.cell? ⟨Y.A 0, 4, none⟩ = some (.int .i64 (T.armed - 1)) := by rw [HB2.out.b4]; simp [BankT.arm1, har']
          have cm2 : w2.cell? ⟨Y.A 0, 5, none⟩ = some (.int .u64 T.mask) := by rw [HB2.out.b5]; simp [BankT.arm1, hmk']
          by_cases h1 : T.armed = 1
          · have ET := Lib.hid (show T.tick = (Tk.arm1.crash T.mask, false) by rw [ED.out, if_pos (by rw [har']; exact h0), if_pos (by rw [har']; exact h1), hmk'])
            have HF := Lib.hid (HC.out h0 w2 HB2.out)
            have hbt : ((T.armed - 1 : Int) == 0) = true := by rw [h1]; rfl
            go_wp2_with fail
            refine Calls.mono HF.out ?_
            rintro e w3 ⟨rfl, h3, h4⟩
            rw [show Tk.arm1.l.length = T.l.length from hlk] at h4
            have HB3 := Lib.hid h3
            have HU3 := Lib.hid (HU2.out.trans h4); clear h3 h4
            go_wp2
            go_ret
            exact ⟨by rw [ET.out]; rfl, by rw [ET.out]; exact HB3.out, HU3.out⟩
          · have ET := Lib.hid (show T.tick = (Tk.arm1, true) by rw [ED.out, if_pos (by rw [har']; exact h0), if_neg (by rw [har']; exact h1)])
            have hbt : ((T.armed - 1 : Int) == 0) = false := by simp; omega
            go_wp2
            go_ret
            exact ⟨by rw [ET.out]; rfl, by rw [ET.out]; exact HB2.out, HU2.out⟩
        · have ET := Lib.hid (show T.tick = (Tk, true) by rw [ED.out, if_neg (by rw [har']; exact h0)])
          go_wp2
          go_ret
          exact ⟨by rw [ET.out]; rfl, by rw [ET.out]; exact HB.out, HU.out⟩
end
end Go.Proofs.YtglplhmclfekfaaGreat
