/- law03's shown. -/
import Derived.Test.YtglplhmclfekfaaDkw
namespace Go.Proofs.Ytglplhmclfekfaa
open Go.RowKit
set_option linter.unusedVariables false
set_option linter.unusedSimpArgs false

def secB (c : Int) : List Int := c :: List.replicate 63 0
def sh0 : BankT := BankT.zero.add 4
def sh1 : BankT := (sh0.write 0 0 (secB 97)).1
def sh2 : BankT := (sh1.write 0 1 (secB 98)).1
def sh3 : BankT := (sh2.flushC 0).1
def sh4 : BankT := (sh3.write 0 1 (secB 99)).1
def sh5 : BankT := (sh4.write 0 0 (secB 100)).1
def sh6 : BankT := sh5.crash 2
def sh7 : BankT := sh6.start
def sh8 : BankT := (sh7.failC 0).1
theorem secB_byte {c : Int} (h : IsByte c) : (secB c).length = 64 ∧ ∀ x ∈ secB c, IsByte x := by
  refine ⟨by simp [secB], fun x hx => ?_⟩
  rcases List.mem_cons.1 hx with h' | h'
  · rw [h']; exact h
  · rw [List.eq_of_mem_replicate h']; unfold IsByte; decide
theorem byte_of {n : Nat} (h : n < 256) : IsByte (n : Int) := by unfold IsByte; omega
theorem BankT.Use.of {T : BankT} (i : T.Inv) (h : (decide (T.l.length ≠ 0) && decide (T.clock < 1000000000) && decide (T.writes < 1000000000)) = true) : T.Use := by
  simp only [Bool.and_eq_true, decide_eq_true_eq] at h
  exact ⟨i, h.1.1, h.1.2, h.2⟩
theorem BankT.Inv.flushC {T : BankT} (h : T.Inv) (d : Int) : (T.flushC d).1.Inv := by
  unfold BankT.flushC
  split
  · rename_i hr
    obtain ⟨k, rfl, hk⟩ := BankT.readyE_in hr
    rw [Int.toNat_natCast]; exact h.flush hk
  · exact h
theorem BankT.Inv.failC {T : BankT} (h : T.Inv) (d : Int) : (T.failC d).1.Inv := by
  unfold BankT.failC
  split
  · exact h
  · exact h.fell (by omega)
theorem BankT.Inv.start {T : BankT} (h : T.Inv) : T.start.Inv := ⟨h.ok, h.clk, h.wr, h.ar, h.msk, h.top, h.uniq⟩
theorem sh0_u : sh0.Use := BankT.Use.of (BankT.Inv.zero.add (by decide) (by decide)) (by kernel_rfl)
theorem sh1_u : sh1.Use := BankT.Use.of (sh0_u.inv.write 0 0 (secB_byte (byte_of (by decide)))) (by kernel_rfl)
theorem sh2_u : sh2.Use := BankT.Use.of (sh1_u.inv.write 0 1 (secB_byte (byte_of (by decide)))) (by kernel_rfl)
theorem sh3_u : sh3.Use := BankT.Use.of (sh2_u.inv.flushC 0) (by kernel_rfl)
theorem sh4_u : sh4.Use := BankT.Use.of (sh3_u.inv.write 0 1 (secB_byte (byte_of (by decide)))) (by kernel_rfl)
theorem sh5_u : sh5.Use := BankT.Use.of (sh4_u.inv.write 0 0 (secB_byte (byte_of (by decide)))) (by kernel_rfl)
theorem sh6_u : sh6.Use := BankT.Use.of (sh5_u.inv.crash 2) (by kernel_rfl)
theorem sh7_u : sh7.Use := BankT.Use.of sh6_u.inv.start (by kernel_rfl)
theorem sh8_u : sh8.Use := BankT.Use.of (sh7_u.inv.failC 0) (by kernel_rfl)
theorem sh_e : ((sh0.write 0 0 (secB 97)).2, (sh1.write 0 1 (secB 98)).2, (sh2.flushC 0).2, (sh3.write 0 1 (secB 99)).2, (sh4.write 0 0 (secB 100)).2, sh5.looseN, sh7.writes, (sh7.failC 0).2, (sh8.flushC 0).2) = (0, 0, 0, 0, 0, 2, 4, 0, 7) := by kernel_rfl
theorem sh_r : (sh6.read 0 0, sh7.read 0 0, sh7.read 0 1, sh7.read 0 4, sh7.read 1 0) = ((zeroB, 6), (secB 100, 0), (secB 98, 0), (zeroB, 3), (zeroB, 8)) := by kernel_rfl
section
variable {w0 W : World} {R : Nat → Prop} {q : Nat}
theorem st_write {T T' : BankT} (h : BK w0 R W q T) (u : T.Use) (d a : Int) {s : List Int} (hs : s.length = 64) (he : (T.write d a s).2 = 0) (hT : T' = (T.write d a s).1) :
    Calls Try.prog 10 #[.pointer (some ⟨q, 0, none⟩), .agg #[.int .i64 d, .int .i64 a], .agg (u8s s).toArray] W fun e w' => e = .returned (.int .i64 0) ∧ BK w0 R w' q T' ∧ SameR R W w' :=
  (bk_Write h u d a hs).mono fun e w' ⟨h1, h2, h3⟩ => ⟨by rw [h1, he], by rw [hT]; exact h2, h3⟩
theorem st_flush {T T' : BankT} (h : BK w0 R W q T) (u : T.Use) (d : Int) {c : Int} (he : (T.flushC d).2 = c) (hT : T' = (T.flushC d).1) :
    Calls Try.prog 58 #[.pointer (some ⟨q, 0, none⟩), .int .i64 d] W fun e w' => e = .returned (.int .i64 c) ∧ BK w0 R w' q T' ∧ SameR R W w' :=
  (bk_Flush h u d).mono fun e w' ⟨h1, h2, h3⟩ => ⟨by rw [h1, he], by rw [hT]; exact h2, h3⟩
theorem st_fail {T T' : BankT} (h : BK w0 R W q T) (u : T.Use) (d : Int) {c : Int} (he : (T.failC d).2 = c) (hT : T' = (T.failC d).1) :
    Calls Try.prog 44 #[.pointer (some ⟨q, 0, none⟩), .int .i64 d] W fun e w' => e = .returned (.int .i64 c) ∧ BK w0 R w' q T' ∧ SameR R W w' :=
  (bk_Fail h u d).mono fun e w' ⟨h1, h2, h3⟩ => ⟨by rw [h1, he], by rw [hT]; exact h2, h3⟩
theorem st_read {T : BankT} (h : BK w0 R W q T) (u : T.Use) (d a : Int) {s : List Int} {c : Int} (he : T.read d a = (s, c)) :
    Calls Try.prog 19 #[.pointer (some ⟨q, 0, none⟩), .agg #[.int .i64 d, .int .i64 a]] W fun e w' => e = .returned (.tuple #[.agg (u8s s).toArray, .int .i64 c]) ∧ BK w0 R w' q T ∧ Kept W w' :=
  (bk_Read h u d a).mono fun e w' ⟨h1, h2, h3, h4⟩ => ⟨by rw [h1, he], h2, h4⟩
theorem st_loose {T : BankT} (h : BK w0 R W q T) (u : T.Use) {c : Nat} (he : T.looseN = c) :
    Calls Try.prog 14 #[.pointer (some ⟨q, 0, none⟩)] W fun e w' => e = .returned (.int .i64 (c : Int)) ∧ BK w0 R w' q T ∧ Kept W w' :=
  (bk_Loose h u).mono fun e w' ⟨h1, h2, h3, h4⟩ => ⟨by rw [h1, he], h2, h4⟩
theorem st_writes {T : BankT} (h : BK w0 R W q T) {c : Int} (he : T.writes = c) :
    Calls Try.prog 12 #[.pointer (some ⟨q, 0, none⟩)] W fun e w' => e = .returned (.int .i64 c) ∧ W = w' :=
  (bk_Writes h).mono fun e w' ⟨h1, h2⟩ => ⟨by rw [h1, he], h2⟩
set_option maxHeartbeats 2000000
set_option maxRecDepth 100000
theorem law_shown03 (w : World) : Calls Try.prog 8 #[] w fun e w' => e = .returned (.bool true) ∧ Kept w w' := by
  obtain ⟨e1, e2, e3, e4, e5, e6, e7, e8, e9⟩ : (sh0.write 0 0 (secB 97)).2 = 0 ∧ (sh1.write 0 1 (secB 98)).2 = 0 ∧ (sh2.flushC 0).2 = 0 ∧ (sh3.write 0 1 (secB 99)).2 = 0 ∧ (sh4.write 0 0 (secB 100)).2 = 0 ∧ sh5.looseN = 2 ∧ sh7.writes = 4 ∧ (sh7.failC 0).2 = 0 ∧ (sh8.flushC 0).2 = 7 := by
    simpa only [Prod.mk.injEq] using sh_e
  obtain ⟨r1, r2, r3, r4, r5⟩ : sh6.read 0 0 = (zeroB, 6) ∧ sh7.read 0 0 = (secB 100, 0) ∧ sh7.read 0 1 = (secB 98, 0) ∧ sh7.read 0 4 = (zeroB, 3) ∧ sh7.read 1 0 = (zeroB, 8) := by
    simpa only [Prod.mk.injEq] using sh_r
  have E1 := Lib.hid e1; have E2 := Lib.hid e2; have E3 := Lib.hid e3; have E4 := Lib.hid e4; have E5 := Lib.hid e5; have E6 := Lib.hid e6; have E7 := Lib.hid e7; have E8 := Lib.hid e8; have E9 := Lib.hid e9
  have R1 := Lib.hid r1; have R2 := Lib.hid r2; have R3 := Lib.hid r3; have R4 := Lib.hid r4; have R5 := Lib.hid r5
  clear e1 e2 e3 e4 e5 e6 e7 e8 e9 r1 r2 r3 r4 r5
  have HN := Lib.hid (bk_New w w (fun _ => False) (Kept.refl w) (fun _ h => h.elim))
  go_enter Try.func8, Try.ntmps8
  go_wp2_with fail
  refine Calls.mono HN.out ?_
  rintro e w1 ⟨q, rfl, hb, hk1⟩
  have HB := Lib.hid hb; clear hb hk1
  go_wp2_with fail
  refine Calls.mono (bk_Add HB.out (by decide) 4 (by decide) (by decide)) ?_
  rintro e w2 ⟨rfl, hb, hs⟩
  have HB2 : Hid (BK w (fun _ => False) w2 q sh0) := Lib.hid hb; clear hb hs HB
  go_wp2_with fail
  refine Calls.mono (st_write HB2.out sh0_u 0 0 (s := secB 97) rfl E1.out rfl) ?_
  rintro e w3 ⟨rfl, hb, hs⟩
  have HB3 : Hid (BK w (fun _ => False) w3 q sh1) := Lib.hid hb; clear hb hs HB2
  go_wp2_with fail
  refine Calls.mono (st_write HB3.out sh1_u 0 1 (s := secB 98) rfl E2.out rfl) ?_
  rintro e w4 ⟨rfl, hb, hs⟩
  have HB4 : Hid (BK w (fun _ => False) w4 q sh2) := Lib.hid hb; clear hb hs HB3
  go_wp2_with fail
  refine Calls.mono (st_flush HB4.out sh2_u 0 E3.out rfl) ?_
  rintro e w5 ⟨rfl, hb, hs⟩
  have HB5 : Hid (BK w (fun _ => False) w5 q sh3) := Lib.hid hb; clear hb hs HB4
  go_wp2_with fail
  refine Calls.mono (st_write HB5.out sh3_u 0 1 (s := secB 99) rfl E4.out rfl) ?_
  rintro e w6 ⟨rfl, hb, hs⟩
  have HB6 : Hid (BK w (fun _ => False) w6 q sh4) := Lib.hid hb; clear hb hs HB5
  go_wp2_with fail
  refine Calls.mono (st_write HB6.out sh4_u 0 0 (s := secB 100) rfl E5.out rfl) ?_
  rintro e w7 ⟨rfl, hb, hs⟩
  have HB7 : Hid (BK w (fun _ => False) w7 q sh5) := Lib.hid hb; clear hb hs HB6
  go_wp2_with fail
  refine Calls.mono (st_loose HB7.out sh5_u E6.out) ?_
  rintro e w8 ⟨rfl, hb, hs⟩
  have HB8 : Hid (BK w (fun _ => False) w8 q sh5) := Lib.hid hb; clear hb hs HB7
  go_wp2_with fail
  refine Calls.mono (bk_Crash HB8.out sh5_u 2 (by decide) (by decide)) ?_
  rintro e w9 ⟨rfl, hb, hs⟩
  have HB9 : Hid (BK w (fun _ => False) w9 q sh6) := Lib.hid hb; clear hb hs HB8
  go_wp2_with fail
  refine Calls.mono (st_read HB9.out sh6_u 0 0 R1.out) ?_
  rintro e w10 ⟨rfl, hb, hs⟩
  have HB10 : Hid (BK w (fun _ => False) w10 q sh6) := Lib.hid hb; clear hb hs HB9
  go_wp2_with (refine stop_at (o := ⟨some 5, _, _, _, _, _⟩) ?_)
  refine Stop.mk ?_
  refine wpList_new_row rfl rfl _ _ rfl rfl ty_sec (u8s zeroB) zero_sec (by rw [u8s_length, zeroB_length]) (u8s zeroB) rfl (by rw [u8s_length]; rfl) (u8s_one _) rfl ?_
  intro w11 hzw11 hsw11 hkw11
  have HB11 := Lib.hid (HB10.out.kept hkw11).1; clear hzw11 hsw11 hkw11 HB10
  go_wp2_with fail
  refine Calls.mono (bk_Start HB11.out) ?_
  rintro e w12 ⟨rfl, hb, hs⟩
  have HB12 : Hid (BK w (fun _ => False) w12 q sh7) := Lib.hid hb; clear hb hs HB11
  go_wp2_with fail
  refine Calls.mono (st_read HB12.out sh7_u 0 0 R2.out) ?_
  rintro e w13 ⟨rfl, hb, hs⟩
  have HB13 : Hid (BK w (fun _ => False) w13 q sh7) := Lib.hid hb; clear hb hs HB12
  go_wp2_with (refine stop_at (o := ⟨some 7, _, _, _, _, _⟩) ?_)
  refine Stop.mk ?_
  refine wpList_new_row rfl rfl _ _ rfl rfl ty_sec (u8s zeroB) zero_sec (by rw [u8s_length, zeroB_length]) (u8s (secB 100)) rfl (by rw [u8s_length]; rfl) (u8s_one _) rfl ?_
  intro w14 hzw14 hsw14 hkw14
  have HB14 := Lib.hid (HB13.out.kept hkw14).1; clear hsw14 hkw14 HB13
  have HX := hzw14; clear hzw14
  go_wp2_with fail
  refine Calls.mono (st_read HB14.out sh7_u 0 1 R3.out) ?_
  rintro e w15 ⟨rfl, hb, hs⟩
  have HB15 : Hid (BK w (fun _ => False) w15 q sh7) := Lib.hid hb
  have HX15 := Lib.hid (hs.block HX.out); clear hb hs HB14 HX
  go_wp2_with (refine stop_at (o := ⟨some 9, _, _, _, _, _⟩) ?_)
  refine Stop.mk ?_
  refine wpList_new_row rfl rfl _ _ rfl rfl ty_sec (u8s zeroB) zero_sec (by rw [u8s_length, zeroB_length]) (u8s (secB 98)) rfl (by rw [u8s_length]; rfl) (u8s_one _) rfl ?_
  intro w16 hzw16 hsw16 hkw16
  have HB16 := Lib.hid (HB15.out.kept hkw16).1
  have HX16 := Lib.hid (hkw16.block HX15.out); clear hsw16 hkw16 HB15 HX15
  have HY := hzw16; clear hzw16
  go_wp2_with fail
  refine Calls.mono (st_read HB16.out sh7_u 0 4 R4.out) ?_
  rintro e w17 ⟨rfl, hb, hs⟩
  have HB17 : Hid (BK w (fun _ => False) w17 q sh7) := Lib.hid hb
  have HX17 := Lib.hid (hs.block HX16.out); have HY17 := Lib.hid (hs.block HY.out); clear hb hs HB16 HX16 HY
  go_wp2_with (refine stop_at (o := ⟨some 11, _, _, _, _, _⟩) ?_)
  refine Stop.mk ?_
  refine wpList_new_row rfl rfl _ _ rfl rfl ty_sec (u8s zeroB) zero_sec (by rw [u8s_length, zeroB_length]) (u8s zeroB) rfl (by rw [u8s_length]; rfl) (u8s_one _) rfl ?_
  intro w18 hzw18 hsw18 hkw18
  have HB18 := Lib.hid (HB17.out.kept hkw18).1
  have HX18 := Lib.hid (hkw18.block HX17.out); have HY18 := Lib.hid (hkw18.block HY17.out); clear hzw18 hsw18 hkw18 HB17 HX17 HY17
  go_wp2_with fail
  refine Calls.mono (st_read HB18.out sh7_u 1 0 R5.out) ?_
  rintro e w19 ⟨rfl, hb, hs⟩
  have HB19 : Hid (BK w (fun _ => False) w19 q sh7) := Lib.hid hb
  have HX19 := Lib.hid (hs.block HX18.out); have HY19 := Lib.hid (hs.block HY18.out); clear hb hs HB18 HX18 HY18
  go_wp2_with (refine stop_at (o := ⟨some 13, _, _, _, _, _⟩) ?_)
  refine Stop.mk ?_
  refine wpList_new_row rfl rfl _ _ rfl rfl ty_sec (u8s zeroB) zero_sec (by rw [u8s_length, zeroB_length]) (u8s zeroB) rfl (by rw [u8s_length]; rfl) (u8s_one _) rfl ?_
  intro w20 hzw20 hsw20 hkw20
  have HB20 := Lib.hid (HB19.out.kept hkw20).1
  have HX20 := Lib.hid (hkw20.block HX19.out); have HY20 := Lib.hid (hkw20.block HY19.out); clear hzw20 hsw20 hkw20 HB19 HX19 HY19
  go_wp2_with (refine stop_at (o := ⟨some 105, _, _, _, _, _⟩) ?_)
  refine Stop.mk ?_
  refine wpList_load_aggW _ rfl ty_sec w13.heap.size 0 rfl (u8s (secB 100)) (by simpa using Cells.of_block HX20.out) rfl rfl ?_
  go_wp2_with (refine stop_at (o := ⟨some 107, _, _, _, _, _⟩) ?_)
  refine Stop.mk ?_
  refine wpList_eq_sec rfl _ _ rfl (secB 100) (secB 100) rfl rfl rfl rfl ?_
  rw [show (secB 100 == secB 100) = true by rfl]
  go_wp2_with (refine stop_at (o := ⟨some 110, _, _, _, _, _⟩) ?_)
  refine Stop.mk ?_
  refine wpList_load_aggW _ rfl ty_sec w15.heap.size 0 rfl (u8s (secB 98)) (by simpa using Cells.of_block HY20.out) rfl rfl ?_
  go_wp2_with (refine stop_at (o := ⟨some 112, _, _, _, _, _⟩) ?_)
  refine Stop.mk ?_
  refine wpList_eq_sec rfl _ _ rfl (secB 98) (secB 98) rfl rfl rfl rfl ?_
  rw [show (secB 98 == secB 98) = true by rfl]
  clear HX20 HY20
  go_wp2_with fail
  refine Calls.mono (st_writes HB20.out E7.out) ?_
  rintro e w21 ⟨rfl, rfl⟩
  go_wp2_with fail
  refine Calls.mono (st_fail HB20.out sh7_u 0 E8.out rfl) ?_
  rintro e w22 ⟨rfl, hb, hs⟩
  have HB22 : Hid (BK w (fun _ => False) w22 q sh8) := Lib.hid hb; clear hb hs HB20
  go_wp2_with fail
  refine Calls.mono (st_flush HB22.out sh8_u 0 E9.out rfl) ?_
  rintro e w23 ⟨rfl, hb, hs⟩
  have HK := Lib.hid hb.keeps; clear hb hs HB22
  go_wp2
  go_ret
  exact ⟨rfl, HK.out⟩
end
end Go.Proofs.Ytglplhmclfekfaa
