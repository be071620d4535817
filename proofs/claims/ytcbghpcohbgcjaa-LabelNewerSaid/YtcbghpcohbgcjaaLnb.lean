/- LabelNewer: the plain part and the walk. -/
import Derived.Test.YtcbghpcohbgcjaaLabV
namespace Go.Proofs.Ytcbghpcohbgcjaa
open Go.RowKit
set_option linter.unusedVariables false
set_option linter.unusedSimpArgs false

/-- two labels on one member's places -/
theorem newer_bank {T : BankT} (h : Still T 3 200) (hc : T.clock ≤ 6) (hw : T.writes ≤ 6) (hz : ∀ c i : Nat, c < 3 → i < 200 → T.N c i = zeroB) {x y : Lab} (hx : rightB x = true) (hy : rightB y = true) (hm : x.member = 1) :
    ∃ T1 T2, T.write 1 0 x.sec = (T1, 0) ∧ T1.write 1 1 y.sec = (T2, 0) ∧ T.Use ∧ T1.Use ∧ T2.Use ∧ T2.loadL 1 = ((if y.member = 1 ∧ x.gen < y.gen then y else x), 0) ∧ T2.loadL 2 = (Lab.zero, 8) := by
  have hs : ∀ l : Lab, rightB l = true → l.sec.length = 64 ∧ ∀ b ∈ l.sec, IsByte b := fun l hl => ⟨Lab.sec_length _ (by
    simp only [rightB, headB, inB, Bool.and_eq_true, decide_eq_true_eq] at hl; omega), sec_bytes l⟩
  obtain ⟨T1, e1, s1, c1, v1, r1⟩ := h.write (d := 1) (a := 0) (by decide) (by decide) (hs x hx)
  obtain ⟨T2, e2, s2, c2, v2, r2⟩ := s1.write (d := 1) (a := 1) (by decide) (by decide) (hs y hy)
  have n10 : T2.N 1 0 = x.sec := by rw [(r2 1 0).2.1, if_neg (by decide), (r1 1 0).2.1, if_pos ⟨rfl, rfl⟩]
  have n11 : T2.N 1 1 = y.sec := by rw [(r2 1 1).2.1, if_pos ⟨rfl, rfl⟩]
  have n20 : T2.N 2 0 = zeroB := by rw [(r2 2 0).2.1, if_neg (by decide), (r1 2 0).2.1, if_neg (by decide)]; exact hz 2 0 (by decide) (by decide)
  have n21 : T2.N 2 1 = zeroB := by rw [(r2 2 1).2.1, if_neg (by decide), (r1 2 1).2.1, if_neg (by decide)]; exact hz 2 1 (by decide) (by decide)
  refine ⟨T1, T2, e1, e2, h.live.use (by decide) (by omega) (by omega), s1.live.use (by decide) (by omega) (by omega), s2.live.use (by decide) (by omega) (by omega), ?_, ?_⟩
  · have e := load_two s2 (d := 1) (by decide)
    rw [n10, n11, cand_lab hx, cand_lab hy, show ((1 : Nat) : Int) = 1 from rfl, if_pos hm] at e
    rw [e]
    by_cases h1 : y.member = 1
    · rw [if_pos h1]
      show ((if x.gen < y.gen then y else x), (0 : Int)) = _
      by_cases h2 : x.gen < y.gen
      · rw [if_pos h2, if_pos ⟨h1, h2⟩]
      · rw [if_neg h2, if_neg (fun h => h2 h.2)]
    · rw [if_neg h1, if_neg (fun h => h1 h.1)]; rfl
  · have e := load_two s2 (d := 2) (by decide)
    rw [n20, n21, cand_zero] at e
    exact e

section
variable {w W : World}
set_option maxHeartbeats 4000000
set_option maxRecDepth 100000
theorem law_newer (a0 c0 : Int) (o : Bool) (w : World) :
    Calls Try.prog 11 #[.int .i64 a0, .int .i64 c0, .bool o] w fun e w' => e = .returned (.bool true) ∧ Kept w w' := by
  obtain ⟨ya, hya, hyal⟩ := and_low a0 16 (by decide) (m := 65535) (by decide)
  have hyal' : ya < 65536 := hyal
  obtain ⟨yc, hyc, hycl⟩ := and_low c0 16 (by decide) (m := 65535) (by decide)
  have hycl' : yc < 65536 := hycl
  obtain ⟨gx, hgx, hgx1, hgx2⟩ : ∃ g : Nat, (2 : Int) + 2 * (ya : Int) = (g : Int) ∧ 1 ≤ g ∧ g ≤ 4294967295 := ⟨2 + 2 * ya, by omega, by omega, by omega⟩
  obtain ⟨gy, hgy, hgy1, hgy2⟩ : ∃ g : Nat, (1 : Int) + 2 * (yc : Int) = (g : Int) ∧ 1 ≤ g ∧ g ≤ 4294967295 := ⟨1 + 2 * yc, by omega, by omega, by omega⟩
  have HRX : Hid (rightB (plainL (gx : Int) 1) = true) := Lib.hid (by have h := plain_right2 gx 1 hgx1 hgx2 (by decide); rw [show ((1 : Nat) : Int) = 1 from rfl] at h; exact h)
  have HRY1 : Hid (rightB (plainL (gy : Int) 1) = true) := Lib.hid (by have h := plain_right2 gy 1 hgy1 hgy2 (by decide); rw [show ((1 : Nat) : Int) = 1 from rfl] at h; exact h)
  have HRY0 : Hid (rightB (plainL (gy : Int) 0) = true) := Lib.hid (by have h := plain_right2 gy 0 hgy1 hgy2 (by decide); rw [show ((0 : Nat) : Int) = 0 from rfl] at h; exact h)
  have HSH := Lib.hid (law_shown w)
  clear hyal hycl hgx1 hgx2 hgy1 hgy2
  go_enter Try.func11, Try.ntmps11
  go_wp2_with fail
  refine Calls.mono HSH.out ?_
  rintro e w1 ⟨rfl, hk1⟩
  have HL : Hid (Calls Try.prog 40 #[.slice none 0 0, .slice none 0 0] w1 fun e w' => ∃ qb qr T, e = .returned (.tuple #[.pointer (some ⟨qb, 0, none⟩), .pointer (some ⟨qr, 0, none⟩)]) ∧ BK w (fun _ => False) w' qb T ∧ Still T 3 200 ∧ T.clock ≤ 6 ∧ T.writes ≤ 6 ∧ ∀ c i : Nat, c < 3 → i < 200 → T.N c i = zeroB) := Lib.hid ((law_bank [] none 0 w w1 (SSrc.nil w) hk1).mono fun e w' ⟨qb, qr, T, h1, h2, h3, h4, h5, h6⟩ => ⟨qb, qr, T, h1, h2, h3, h4, h5, h6 rfl⟩)
  clear hk1 HSH
  go_wp2_with fail
  refine Calls.mono HL.out ?_
  rintro e w2 ⟨qb, qr, T, rfl, hb, hst, hcl, hwr, hze⟩
  have HB2 := Lib.hid hb; have HT := Lib.hid hst; have HC := Lib.hid (And.intro hcl (And.intro hwr hze))
  clear hb hst hcl hwr hze HL
  go_wp2_with fail
  try simp only [hgx]
  refine Calls.mono (law_plain_own (gx : Int) 1 w2) ?_
  rintro e w3 ⟨sx, bx, rfl, hm, hox, hb1, hb2, hk⟩
  have HOX := Lib.hid hox; have HMX3 := Lib.hid hm; have HB3 := Lib.hid (HB2.out.more hk bx hb1 hb2)
  clear hm hk HB2 hgx hya hox hb1
  go_wp2_with (refine stop_at (o := ⟨some 10, _, _, _, _, _⟩) ?_)
  refine Stop.mk ?_
  refine wpList_new_row rfl rfl _ _ rfl rfl ty_lab [.int .i64 0, .int .i64 0, .int .i64 0, .int .i64 0, .slice none 0 0] zero_lab rfl (Lab.vals (plainL (gx : Int) 1) sx) rfl rfl (lab_one _ _ HMX3.out.one) rfl ?_
  intro w4 hz hs hk
  have HX4 := hz
  have HMX4 := Lib.hid (HMX3.out.kept hk)
  have HB4 := Lib.hid (HB3.out.box hk hs)
  have HBX := Lib.hid hb2; have HWX := Lib.hid HB3.out.keeps.size
  generalize w3.heap.size = X at *
  clear hz hk HMX3 HB3 hb2
  go_wp2_with fail
  try simp only [hgy]
  refine Calls.mono (law_plain_own (gy : Int) 1 w4) ?_
  rintro e w5 ⟨sy, bY, rfl, hm, hoy, hb1, hb2, hk⟩
  have HOY := Lib.hid hoy; have HMY5 := Lib.hid hm; have HB5 := Lib.hid (HB4.out.more hk bY hb1 hb2)
  have HBY := Lib.hid hb2; have HXY := Lib.hid (Nat.lt_of_lt_of_le hs hk.size)
  clear hs hoy hb1 hb2
  have HX5 := Lib.hid (hk.block HX4.out); have HMX5 := Lib.hid (HMX4.out.kept hk)
  clear hm hk HB4 hgy hyc HX4 HMX4
  go_wp2_with (refine stop_at (o := ⟨some 11, _, _, _, _, _⟩) ?_)
  refine Stop.mk ?_
  refine wpList_new_row rfl rfl _ _ rfl rfl ty_lab [.int .i64 0, .int .i64 0, .int .i64 0, .int .i64 0, .slice none 0 0] zero_lab rfl (Lab.vals (plainL (gy : Int) 1) sy) rfl rfl (lab_one _ _ HMY5.out.one) rfl ?_
  intro w6 hz hs hk
  have HY6 := hz
  have HMY6 := Lib.hid (HMY5.out.kept hk)
  have HB6 := Lib.hid (HB5.out.box hk hs)
  have HX6 := Lib.hid (hk.block HX5.out); have HMX6 := Lib.hid (HMX5.out.kept hk)
  generalize w5.heap.size = Y at *
  clear hz hs hk HMY5 HB5 HX5 HMX5
  cases o
  · by_cases hgt : gx < gy
    · skip
      have HLX := Lib.hid (sec64 HRX.out); have HLY := Lib.hid (sec64 HRY1.out)
      have hnb := newer_bank HT.out HC.out.1 HC.out.2.1 HC.out.2.2 HRX.out HRY1.out rfl
      obtain ⟨T1, T2, e1, e2, u0, u1, u2, l1, l2⟩ := hnb
      have HL1 : Hid (T2.loadL 1 = (plainL (gy : Int) 1, 0)) := Lib.hid (by rw [l1, if_pos ⟨rfl, show (gx : Int) < (gy : Int) by omega⟩])
      have HE1 := Lib.hid e1; have HE2 := Lib.hid e2; have HU0 := Lib.hid u0; have HU1 := Lib.hid u1; have HU2 := Lib.hid u2; have HL2 := Lib.hid l2
      clear e1 e2 u0 u1 u2 l1 l2 HT HC
      go_wp2_with (refine stop_at (o := ⟨some 46, _, _, _, _, _⟩) ?_)
      refine Stop.mk ?_
      refine wpList_load_agg rfl _ rfl ty_lab X 0 rfl (Lab.vals (plainL (gx : Int) 1) sx) (by simpa using Cells.of_block HX6.out) rfl ?_
      go_wp2_with fail
      refine Calls.mono (label_Put_ok (plainL (gx : Int) 1) sx w6 HMX6.out HRX.out) ?_
      rintro e w7 ⟨rfl, hk⟩
      have HX7 := Lib.hid (hk.block HX6.out)
      have HMX7 := Lib.hid (HMX6.out.kept hk)
      have HY7 := Lib.hid (hk.block HY6.out)
      have HMY7 := Lib.hid (HMY6.out.kept hk)
      have HB7 := Lib.hid ((HB6.out.kept hk).1)
      clear HX6 HMX6 HY6 HMY6 HB6 hk
      go_wp2_with (refine stop_at (o := ⟨some 12, _, _, _, _, _⟩) ?_)
      refine Stop.mk ?_
      refine wpList_new_row rfl rfl _ _ rfl rfl ty_sec (u8s zeroB) zero_sec (by rw [u8s_length, zeroB_length]) (u8s (plainL (gx : Int) 1).sec) rfl (by rw [u8s_length, HLX.out]) (u8s_one _) rfl ?_
      intro w8 hz hs hk
      have HS8 := hz
      have HX8 := Lib.hid (hk.block HX7.out)
      have HMX8 := Lib.hid (HMX7.out.kept hk)
      have HY8 := Lib.hid (hk.block HY7.out)
      have HMY8 := Lib.hid (HMY7.out.kept hk)
      have HB8 := Lib.hid (HB7.out.box hk hs)
      generalize w7.heap.size = S at *
      clear HX7 HMX7 HY7 HMY7 HB7 hz hs hk
      go_wp2_with (refine stop_at (o := ⟨some 51, _, _, _, _, _⟩) ?_)
      refine Stop.mk ?_
      refine wpList_load_agg rfl _ rfl ty_lab Y 0 rfl (Lab.vals (plainL (gy : Int) 1) sy) (by simpa using Cells.of_block HY8.out) rfl ?_
      go_wp2_with fail
      refine Calls.mono (label_Put_ok (plainL (gy : Int) 1) sy w8 HMY8.out HRY1.out) ?_
      rintro e w9 ⟨rfl, hk⟩
      have HX9 := Lib.hid (hk.block HX8.out)
      have HMX9 := Lib.hid (HMX8.out.kept hk)
      have HY9 := Lib.hid (hk.block HY8.out)
      have HMY9 := Lib.hid (HMY8.out.kept hk)
      have HB9 := Lib.hid ((HB8.out.kept hk).1)
      have HS9 := Lib.hid (hk.block HS8.out)
      clear HX8 HMX8 HY8 HMY8 HB8 HS8 hk
      go_wp2_with (refine stop_at (o := ⟨some 14, _, _, _, _, _⟩) ?_)
      refine Stop.mk ?_
      refine wpList_new_row rfl rfl _ _ rfl rfl ty_sec (u8s zeroB) zero_sec (by rw [u8s_length, zeroB_length]) (u8s (plainL (gy : Int) 1).sec) rfl (by rw [u8s_length, HLY.out]) (u8s_one _) rfl ?_
      intro w10 hz hs hk
      have HQ10 := hz
      have HX10 := Lib.hid (hk.block HX9.out)
      have HMX10 := Lib.hid (HMX9.out.kept hk)
      have HY10 := Lib.hid (hk.block HY9.out)
      have HMY10 := Lib.hid (HMY9.out.kept hk)
      have HB10 := Lib.hid (HB9.out.box hk hs)
      have HS10 := Lib.hid (hk.block HS9.out)
      generalize w9.heap.size = Z at *
      clear HX9 HMX9 HY9 HMY9 HB9 HS9 hz hs hk
      go_wp2_with (refine stop_at (o := ⟨some 57, _, _, _, _, _⟩) ?_)
      refine Stop.mk ?_
      refine wpList_load_agg rfl _ rfl ty_sec S 0 rfl (u8s (plainL (gx : Int) 1).sec) (by simpa using Cells.of_block HS10.out) (by rw [u8s_length, HLX.out]) ?_
      go_wp2_with fail
      refine Calls.mono (st_writeE HB10.out HU0.out 1 0 HLX.out HE1.out) ?_
      rintro e w11 ⟨rfl, hb, hr⟩
      have HB11 := Lib.hid hb
      have HX11 := Lib.hid ((hr X (by simp)).trans HX10.out)
      have HMX11 := Lib.hid (HMX10.out.same fun b hb => hr b (by have h := HOX.out.symm.trans hb; injection h with h; subst h; simp))
      have HY11 := Lib.hid ((hr Y (by simp)).trans HY10.out)
      have HMY11 := Lib.hid (HMY10.out.same fun b hb => hr b (by have h := HOY.out.symm.trans hb; injection h with h; subst h; simp))
      have HS11 := Lib.hid ((hr S (by simp)).trans HS10.out)
      have HQ11 := Lib.hid ((hr Z (by simp)).trans HQ10.out)
      clear HX10 HMX10 HY10 HMY10 HB10 HS10 HQ10 hb hr
      go_wp2_with (refine stop_at (o := ⟨some 61, _, _, _, _, _⟩) ?_)
      refine Stop.mk ?_
      refine wpList_load_agg rfl _ rfl ty_sec Z 0 rfl (u8s (plainL (gy : Int) 1).sec) (by simpa using Cells.of_block HQ11.out) (by rw [u8s_length, HLY.out]) ?_
      go_wp2_with fail
      refine Calls.mono (st_writeE HB11.out HU1.out 1 1 HLY.out HE2.out) ?_
      rintro e w12 ⟨rfl, hb, hr⟩
      have HB12 := Lib.hid hb
      have HX12 := Lib.hid ((hr X (by simp)).trans HX11.out)
      have HMX12 := Lib.hid (HMX11.out.same fun b hb => hr b (by have h := HOX.out.symm.trans hb; injection h with h; subst h; simp))
      have HY12 := Lib.hid ((hr Y (by simp)).trans HY11.out)
      have HMY12 := Lib.hid (HMY11.out.same fun b hb => hr b (by have h := HOY.out.symm.trans hb; injection h with h; subst h; simp))
      have HS12 := Lib.hid ((hr S (by simp)).trans HS11.out)
      have HQ12 := Lib.hid ((hr Z (by simp)).trans HQ11.out)
      clear HX11 HMX11 HY11 HMY11 HB11 HS11 HQ11 hb hr
      clear HS12 HQ12 HE1 HE2 HU0 HU1 HLX HLY HOX HOY
      go_wp2_with fail
      refine Calls.mono (label_Load HB12.out HU2.out 1) ?_
      rintro e w13 ⟨sl, he, hml, hk⟩
      rw [HL1.out] at he hml
      dsimp only at he hml
      subst he
      have HML13 := Lib.hid hml
      have HX13 := Lib.hid (hk.block HX12.out)
      have HMX13 := Lib.hid (HMX12.out.kept hk)
      have HY13 := Lib.hid (hk.block HY12.out)
      have HMY13 := Lib.hid (HMY12.out.kept hk)
      have HB13 := Lib.hid ((HB12.out.kept hk).1)
      clear HX12 HMX12 HY12 HMY12 HB12 hk hml HL1
      go_wp2_with (refine stop_at (o := ⟨some 16, _, _, _, _, _⟩) ?_)
      refine Stop.mk ?_
      refine wpList_new_row rfl rfl _ _ rfl rfl ty_lab [.int .i64 0, .int .i64 0, .int .i64 0, .int .i64 0, .slice none 0 0] zero_lab rfl (Lab.vals (plainL (gy : Int) 1) sl) rfl rfl (lab_one _ _ HML13.out.one) rfl ?_
      intro w14 hz hs hk
      have HE14 := hz
      have HX14 := Lib.hid (hk.block HX13.out)
      have HMX14 := Lib.hid (HMX13.out.kept hk)
      have HY14 := Lib.hid (hk.block HY13.out)
      have HMY14 := Lib.hid (HMY13.out.kept hk)
      have HB14 := Lib.hid (HB13.out.box hk hs)
      have HML14 := Lib.hid (HML13.out.kept hk)
      generalize w13.heap.size = E at *
      clear HX13 HMX13 HY13 HMY13 HB13 HML13 hz hs hk
      go_wp2_with (refine stop_at (o := ⟨some 68, _, _, _, _, _⟩) ?_)
      refine Stop.mk ?_
      refine wpList_load_agg rfl _ rfl ty_lab X 0 rfl (Lab.vals (plainL (gx : Int) 1) sx) (by simpa using Cells.of_block HX14.out) rfl ?_
      go_wp2_with (refine stop_at (o := ⟨some 18, _, _, _, _, _⟩) ?_)
      refine Stop.mk ?_
      refine wpList_new_row rfl rfl _ _ rfl rfl ty_lab [.int .i64 0, .int .i64 0, .int .i64 0, .int .i64 0, .slice none 0 0] zero_lab rfl (Lab.vals (plainL (gx : Int) 1) sx) rfl rfl (lab_one _ _ HMX14.out.one) rfl ?_
      intro w15 hz hs hk
      have HV15 := hz
      have HX15 := Lib.hid (hk.block HX14.out)
      have HMX15 := Lib.hid (HMX14.out.kept hk)
      have HY15 := Lib.hid (hk.block HY14.out)
      have HMY15 := Lib.hid (HMY14.out.kept hk)
      have HB15 := Lib.hid ((HB14.out.kept hk).1)
      have HML15 := Lib.hid (HML14.out.kept hk)
      have HE15 := Lib.hid (hk.block HE14.out)
      have HKV := Lib.hid hk
      have HSV := Lib.hid (Nat.le_refl w14.heap.size)
      generalize hV : w14.heap.size = V at *
      clear hz hs hk
      have px : w15.cell? ⟨X, 1, none⟩ = some (.int .i64 (gx : Int)) := cell_of_row _ _ 1 _ _ _ HX15.out
      have py : w15.cell? ⟨Y, 1, none⟩ = some (.int .i64 (gy : Int)) := cell_of_row _ _ 1 _ _ _ HY15.out
      go_wp2_with (refine stop_at (o := ⟨some 78, _, _, _, _, _⟩) ?_)
      refine Stop.mk ?_
      refine wpList_load_agg rfl _ rfl ty_lab Y 0 rfl (Lab.vals (plainL (gy : Int) 1) sy) (by simpa using Cells.of_block HY15.out) rfl ?_
      go_wp2_with (refine stop_at (o := ⟨none, .store _ _ _, _, _, _, _⟩) ?_)
      refine Stop.mk ?_
      refine wpList_store_agg rfl _ _ rfl ty_lab V 0 rfl (Lab.vals (plainL (gy : Int) 1) sy) rfl rfl (lab_one _ _ HMY15.out.one) _ _ HV15.out (by show 0 + 5 ≤ 5; decide) ?_
      intro w16 hw
      replace hw := hw.all rfl
      have hk := hw.kept HKV.out (Nat.le_of_eq hV)
      have HV16 : Hid (w16.heap[V]? = some (.cells (Lab.vals (plainL (gy : Int) 1) sy).toArray 71 (0, 0))) := Lib.hid hw.blk
      have HX16 := Lib.hid (hk.block HX14.out)
      have HMX16 := Lib.hid (HMX14.out.kept hk)
      have HY16 := Lib.hid (hk.block HY14.out)
      have HMY16 := Lib.hid (HMY14.out.kept hk)
      have HB16 := Lib.hid (HB14.out.kept hk).1
      have HML16 := Lib.hid (HML14.out.kept hk)
      have HE16 := Lib.hid (hk.block HE14.out)
      clear hw hk hV HKV HSV px py HX14 HMX14 HY14 HMY14 HB14 HML14 HE14 HX15 HMX15 HY15 HMY15 HB15 HML15 HE15 HV15
      go_wp2_with (refine stop_at (o := ⟨some 79, _, _, _, _, _⟩) ?_)
      refine Stop.mk ?_
      refine wpList_load_agg rfl _ rfl ty_lab E 0 rfl (Lab.vals (plainL (gy : Int) 1) sl) (by simpa using Cells.of_block HE16.out) rfl ?_
      go_wp2_with (refine stop_at (o := ⟨some 80, _, _, _, _, _⟩) ?_)
      refine Stop.mk ?_
      refine wpList_load_agg rfl _ rfl ty_lab V 0 rfl (Lab.vals (plainL (gy : Int) 1) sy) (by simpa using Cells.of_block HV16.out) rfl ?_
      go_wp2_with fail
      refine Calls.mono (same_labels (plainL (gy : Int) 1) sl sy w16 (by show 3 ≤ 9223372036854775807; decide) HML16.out HMY16.out) ?_
      rintro e w17 ⟨rfl, hk⟩
      have HB17 := Lib.hid (HB16.out.kept hk).1
      clear HX16 HMX16 HY16 HMY16 HB16 HML16 HE16 HV16 hk
      go_wp2_with fail
      refine Calls.mono (label_Load HB17.out HU2.out 2) ?_
      rintro e w18 ⟨sl2, he, hml, hk⟩
      rw [HL2.out] at he hml
      dsimp only at he hml
      subst he
      have HML18 := Lib.hid hml
      have HB18 := Lib.hid ((HB17.out.kept hk).1)
      clear HB17 hk hml HL2
      go_wp2_with (refine stop_at (o := ⟨some 20, _, _, _, _, _⟩) ?_)
      refine Stop.mk ?_
      refine wpList_new_row rfl rfl _ _ rfl rfl ty_lab [.int .i64 0, .int .i64 0, .int .i64 0, .int .i64 0, .slice none 0 0] zero_lab rfl (Lab.vals (Lab.zero) sl2) rfl rfl (lab_one _ _ HML18.out.one) rfl ?_
      intro w19 hz hs hk
      have HE19 := hz
      have HB19 := Lib.hid (HB18.out.box hk hs)
      have HML19 := Lib.hid (HML18.out.kept hk)
      generalize w18.heap.size = E2 at *
      clear HB18 HML18 hz hs hk
      go_wp2
      go_ret
      exact ⟨rfl, HB19.out.keeps⟩
    · skip
      have HLX := Lib.hid (sec64 HRX.out); have HLY := Lib.hid (sec64 HRY1.out)
      have hnb := newer_bank HT.out HC.out.1 HC.out.2.1 HC.out.2.2 HRX.out HRY1.out rfl
      obtain ⟨T1, T2, e1, e2, u0, u1, u2, l1, l2⟩ := hnb
      have HL1 : Hid (T2.loadL 1 = (plainL (gx : Int) 1, 0)) := Lib.hid (by rw [l1, if_neg (fun h => by have h1 : (gx : Int) < (gy : Int) := h.2; omega)])
      have HE1 := Lib.hid e1; have HE2 := Lib.hid e2; have HU0 := Lib.hid u0; have HU1 := Lib.hid u1; have HU2 := Lib.hid u2; have HL2 := Lib.hid l2
      clear e1 e2 u0 u1 u2 l1 l2 HT HC
      go_wp2_with (refine stop_at (o := ⟨some 46, _, _, _, _, _⟩) ?_)
      refine Stop.mk ?_
      refine wpList_load_agg rfl _ rfl ty_lab X 0 rfl (Lab.vals (plainL (gx : Int) 1) sx) (by simpa using Cells.of_block HX6.out) rfl ?_
      go_wp2_with fail
      refine Calls.mono (label_Put_ok (plainL (gx : Int) 1) sx w6 HMX6.out HRX.out) ?_
      rintro e w7 ⟨rfl, hk⟩
      have HX7 := Lib.hid (hk.block HX6.out)
      have HMX7 := Lib.hid (HMX6.out.kept hk)
      have HY7 := Lib.hid (hk.block HY6.out)
      have HMY7 := Lib.hid (HMY6.out.kept hk)
      have HB7 := Lib.hid ((HB6.out.kept hk).1)
      clear HX6 HMX6 HY6 HMY6 HB6 hk
      go_wp2_with (refine stop_at (o := ⟨some 12, _, _, _, _, _⟩) ?_)
      refine Stop.mk ?_
      refine wpList_new_row rfl rfl _ _ rfl rfl ty_sec (u8s zeroB) zero_sec (by rw [u8s_length, zeroB_length]) (u8s (plainL (gx : Int) 1).sec) rfl (by rw [u8s_length, HLX.out]) (u8s_one _) rfl ?_
      intro w8 hz hs hk
      have HS8 := hz
      have HX8 := Lib.hid (hk.block HX7.out)
      have HMX8 := Lib.hid (HMX7.out.kept hk)
      have HY8 := Lib.hid (hk.block HY7.out)
      have HMY8 := Lib.hid (HMY7.out.kept hk)
      have HB8 := Lib.hid (HB7.out.box hk hs)
      generalize w7.heap.size = S at *
      clear HX7 HMX7 HY7 HMY7 HB7 hz hs hk
      go_wp2_with (refine stop_at (o := ⟨some 51, _, _, _, _, _⟩) ?_)
      refine Stop.mk ?_
      refine wpList_load_agg rfl _ rfl ty_lab Y 0 rfl (Lab.vals (plainL (gy : Int) 1) sy) (by simpa using Cells.of_block HY8.out) rfl ?_
      go_wp2_with fail
      refine Calls.mono (label_Put_ok (plainL (gy : Int) 1) sy w8 HMY8.out HRY1.out) ?_
      rintro e w9 ⟨rfl, hk⟩
      have HX9 := Lib.hid (hk.block HX8.out)
      have HMX9 := Lib.hid (HMX8.out.kept hk)
      have HY9 := Lib.hid (hk.block HY8.out)
      have HMY9 := Lib.hid (HMY8.out.kept hk)
      have HB9 := Lib.hid ((HB8.out.kept hk).1)
      have HS9 := Lib.hid (hk.block HS8.out)
      clear HX8 HMX8 HY8 HMY8 HB8 HS8 hk
      go_wp2_with (refine stop_at (o := ⟨some 14, _, _, _, _, _⟩) ?_)
      refine Stop.mk ?_
      refine wpList_new_row rfl rfl _ _ rfl rfl ty_sec (u8s zeroB) zero_sec (by rw [u8s_length, zeroB_length]) (u8s (plainL (gy : Int) 1).sec) rfl (by rw [u8s_length, HLY.out]) (u8s_one _) rfl ?_
      intro w10 hz hs hk
      have HQ10 := hz
      have HX10 := Lib.hid (hk.block HX9.out)
      have HMX10 := Lib.hid (HMX9.out.kept hk)
      have HY10 := Lib.hid (hk.block HY9.out)
      have HMY10 := Lib.hid (HMY9.out.kept hk)
      have HB10 := Lib.hid (HB9.out.box hk hs)
      have HS10 := Lib.hid (hk.block HS9.out)
      generalize w9.heap.size = Z at *
      clear HX9 HMX9 HY9 HMY9 HB9 HS9 hz hs hk
      go_wp2_with (refine stop_at (o := ⟨some 57, _, _, _, _, _⟩) ?_)
      refine Stop.mk ?_
      refine wpList_load_agg rfl _ rfl ty_sec S 0 rfl (u8s (plainL (gx : Int) 1).sec) (by simpa using Cells.of_block HS10.out) (by rw [u8s_length, HLX.out]) ?_
      go_wp2_with fail
      refine Calls.mono (st_writeE HB10.out HU0.out 1 0 HLX.out HE1.out) ?_
      rintro e w11 ⟨rfl, hb, hr⟩
      have HB11 := Lib.hid hb
      have HX11 := Lib.hid ((hr X (by simp)).trans HX10.out)
      have HMX11 := Lib.hid (HMX10.out.same fun b hb => hr b (by have h := HOX.out.symm.trans hb; injection h with h; subst h; simp))
      have HY11 := Lib.hid ((hr Y (by simp)).trans HY10.out)
      have HMY11 := Lib.hid (HMY10.out.same fun b hb => hr b (by have h := HOY.out.symm.trans hb; injection h with h; subst h; simp))
      have HS11 := Lib.hid ((hr S (by simp)).trans HS10.out)
      have HQ11 := Lib.hid ((hr Z (by simp)).trans HQ10.out)
      clear HX10 HMX10 HY10 HMY10 HB10 HS10 HQ10 hb hr
      go_wp2_with (refine stop_at (o := ⟨some 61, _, _, _, _, _⟩) ?_)
      refine Stop.mk ?_
      refine wpList_load_agg rfl _ rfl ty_sec Z 0 rfl (u8s (plainL (gy : Int) 1).sec) (by simpa using Cells.of_block HQ11.out) (by rw [u8s_length, HLY.out]) ?_
      go_wp2_with fail
      refine Calls.mono (st_writeE HB11.out HU1.out 1 1 HLY.out HE2.out) ?_
      rintro e w12 ⟨rfl, hb, hr⟩
      have HB12 := Lib.hid hb
      have HX12 := Lib.hid ((hr X (by simp)).trans HX11.out)
      have HMX12 := Lib.hid (HMX11.out.same fun b hb => hr b (by have h := HOX.out.symm.trans hb; injection h with h; subst h; simp))
      have HY12 := Lib.hid ((hr Y (by simp)).trans HY11.out)
      have HMY12 := Lib.hid (HMY11.out.same fun b hb => hr b (by have h := HOY.out.symm.trans hb; injection h with h; subst h; simp))
      have HS12 := Lib.hid ((hr S (by simp)).trans HS11.out)
      have HQ12 := Lib.hid ((hr Z (by simp)).trans HQ11.out)
      clear HX11 HMX11 HY11 HMY11 HB11 HS11 HQ11 hb hr
      clear HS12 HQ12 HE1 HE2 HU0 HU1 HLX HLY HOX HOY
      go_wp2_with fail
      refine Calls.mono (label_Load HB12.out HU2.out 1) ?_
      rintro e w13 ⟨sl, he, hml, hk⟩
      rw [HL1.out] at he hml
      dsimp only at he hml
      subst he
      have HML13 := Lib.hid hml
      have HX13 := Lib.hid (hk.block HX12.out)
      have HMX13 := Lib.hid (HMX12.out.kept hk)
      have HY13 := Lib.hid (hk.block HY12.out)
      have HMY13 := Lib.hid (HMY12.out.kept hk)
      have HB13 := Lib.hid ((HB12.out.kept hk).1)
      clear HX12 HMX12 HY12 HMY12 HB12 hk hml HL1
      go_wp2_with (refine stop_at (o := ⟨some 16, _, _, _, _, _⟩) ?_)
      refine Stop.mk ?_
      refine wpList_new_row rfl rfl _ _ rfl rfl ty_lab [.int .i64 0, .int .i64 0, .int .i64 0, .int .i64 0, .slice none 0 0] zero_lab rfl (Lab.vals (plainL (gx : Int) 1) sl) rfl rfl (lab_one _ _ HML13.out.one) rfl ?_
      intro w14 hz hs hk
      have HE14 := hz
      have HX14 := Lib.hid (hk.block HX13.out)
      have HMX14 := Lib.hid (HMX13.out.kept hk)
      have HY14 := Lib.hid (hk.block HY13.out)
      have HMY14 := Lib.hid (HMY13.out.kept hk)
      have HB14 := Lib.hid (HB13.out.box hk hs)
      have HML14 := Lib.hid (HML13.out.kept hk)
      generalize w13.heap.size = E at *
      clear HX13 HMX13 HY13 HMY13 HB13 HML13 hz hs hk
      go_wp2_with (refine stop_at (o := ⟨some 68, _, _, _, _, _⟩) ?_)
      refine Stop.mk ?_
      refine wpList_load_agg rfl _ rfl ty_lab X 0 rfl (Lab.vals (plainL (gx : Int) 1) sx) (by simpa using Cells.of_block HX14.out) rfl ?_
      go_wp2_with (refine stop_at (o := ⟨some 18, _, _, _, _, _⟩) ?_)
      refine Stop.mk ?_
      refine wpList_new_row rfl rfl _ _ rfl rfl ty_lab [.int .i64 0, .int .i64 0, .int .i64 0, .int .i64 0, .slice none 0 0] zero_lab rfl (Lab.vals (plainL (gx : Int) 1) sx) rfl rfl (lab_one _ _ HMX14.out.one) rfl ?_
      intro w15 hz hs hk
      have HV15 := hz
      have HX15 := Lib.hid (hk.block HX14.out)
      have HMX15 := Lib.hid (HMX14.out.kept hk)
      have HY15 := Lib.hid (hk.block HY14.out)
      have HMY15 := Lib.hid (HMY14.out.kept hk)
      have HB15 := Lib.hid ((HB14.out.kept hk).1)
      have HML15 := Lib.hid (HML14.out.kept hk)
      have HE15 := Lib.hid (hk.block HE14.out)
      have HKV := Lib.hid hk
      have HSV := Lib.hid (Nat.le_refl w14.heap.size)
      generalize hV : w14.heap.size = V at *
      clear hV HKV HSV
      clear HX14 HMX14 HY14 HMY14 HB14 HML14 HE14 hz hs hk
      have px : w15.cell? ⟨X, 1, none⟩ = some (.int .i64 (gx : Int)) := cell_of_row _ _ 1 _ _ _ HX15.out
      have py : w15.cell? ⟨Y, 1, none⟩ = some (.int .i64 (gy : Int)) := cell_of_row _ _ 1 _ _ _ HY15.out
      go_wp2_with (refine stop_at (o := ⟨some 79, _, _, _, _, _⟩) ?_)
      refine Stop.mk ?_
      refine wpList_load_agg rfl _ rfl ty_lab E 0 rfl (Lab.vals (plainL (gx : Int) 1) sl) (by simpa using Cells.of_block HE15.out) rfl ?_
      go_wp2_with (refine stop_at (o := ⟨some 80, _, _, _, _, _⟩) ?_)
      refine Stop.mk ?_
      refine wpList_load_agg rfl _ rfl ty_lab V 0 rfl (Lab.vals (plainL (gx : Int) 1) sx) (by simpa using Cells.of_block HV15.out) rfl ?_
      go_wp2_with fail
      refine Calls.mono (same_labels (plainL (gx : Int) 1) sl sx w15 (by show 3 ≤ 9223372036854775807; decide) HML15.out HMX15.out) ?_
      rintro e w16 ⟨rfl, hk⟩
      have HB16 := Lib.hid (HB15.out.kept hk).1
      clear HX15 HMX15 HY15 HMY15 HB15 HML15 HE15 HV15 hk
      go_wp2_with fail
      refine Calls.mono (label_Load HB16.out HU2.out 2) ?_
      rintro e w17 ⟨sl2, he, hml, hk⟩
      rw [HL2.out] at he hml
      dsimp only at he hml
      subst he
      have HML17 := Lib.hid hml
      have HB17 := Lib.hid ((HB16.out.kept hk).1)
      clear HB16 hk hml HL2
      go_wp2_with (refine stop_at (o := ⟨some 20, _, _, _, _, _⟩) ?_)
      refine Stop.mk ?_
      refine wpList_new_row rfl rfl _ _ rfl rfl ty_lab [.int .i64 0, .int .i64 0, .int .i64 0, .int .i64 0, .slice none 0 0] zero_lab rfl (Lab.vals (Lab.zero) sl2) rfl rfl (lab_one _ _ HML17.out.one) rfl ?_
      intro w18 hz hs hk
      have HE18 := hz
      have HB18 := Lib.hid (HB17.out.box hk hs)
      have HML18 := Lib.hid (HML17.out.kept hk)
      generalize w17.heap.size = E2 at *
      clear HB17 HML17 hz hs hk
      go_wp2
      go_ret
      exact ⟨rfl, HB18.out.keeps⟩
  · skip
    go_wp2_with (refine stop_at (o := ⟨none, .store _ _ _, _, _, _, _⟩) ?_)
    refine Stop.mk ?_
    refine wpList_set_cell rfl _ _ rfl size_int Y 2 rfl (.int .i64 0) rfl rfl rfl _ _ HY6.out (by show 2 < 5; decide) ?_
    intro w7 hw
    have HY7 := Lib.hid (show w7.heap[Y]? = some (.cells (Lab.vals (plainL (gy : Int) 0) sy).toArray 71 (0, 0)) from hw.blk)
    have HX7 := Lib.hid ((hw.oth X (Nat.ne_of_lt HXY.out)).trans HX6.out)
    have HMX7 := Lib.hid (HMX6.out.same fun b hb => hw.oth b (by have h := HOX.out.symm.trans hb; injection h with h; have := HBX.out; have := HXY.out; omega))
    have HMY7 := Lib.hid (HMY6.out.same fun b hb => hw.oth b (by have h := HOY.out.symm.trans hb; injection h with h; have := HBY.out; omega))
    have HB7 := Lib.hid (HB6.out.wrote hw (.inr rfl) (by have := HXY.out; have := HWX.out; omega))
    clear HX6 HMX6 HY6 HMY6 HB6 hw
    have HLX := Lib.hid (sec64 HRX.out); have HLY := Lib.hid (sec64 HRY0.out)
    have hnb := newer_bank HT.out HC.out.1 HC.out.2.1 HC.out.2.2 HRX.out HRY0.out rfl
    obtain ⟨T1, T2, e1, e2, u0, u1, u2, l1, l2⟩ := hnb
    have HL1 : Hid (T2.loadL 1 = (plainL (gx : Int) 1, 0)) := Lib.hid (by rw [l1, if_neg (fun h => by have h1 : (0 : Int) = 1 := h.1; omega)])
    have HE1 := Lib.hid e1; have HE2 := Lib.hid e2; have HU0 := Lib.hid u0; have HU1 := Lib.hid u1; have HU2 := Lib.hid u2; have HL2 := Lib.hid l2
    clear e1 e2 u0 u1 u2 l1 l2 HT HC
    go_wp2_with (refine stop_at (o := ⟨some 46, _, _, _, _, _⟩) ?_)
    refine Stop.mk ?_
    refine wpList_load_agg rfl _ rfl ty_lab X 0 rfl (Lab.vals (plainL (gx : Int) 1) sx) (by simpa using Cells.of_block HX7.out) rfl ?_
    go_wp2_with fail
    refine Calls.mono (label_Put_ok (plainL (gx : Int) 1) sx w7 HMX7.out HRX.out) ?_
    rintro e w8 ⟨rfl, hk⟩
    have HX8 := Lib.hid (hk.block HX7.out)
    have HMX8 := Lib.hid (HMX7.out.kept hk)
    have HY8 := Lib.hid (hk.block HY7.out)
    have HMY8 := Lib.hid (HMY7.out.kept hk)
    have HB8 := Lib.hid ((HB7.out.kept hk).1)
    clear HX7 HMX7 HY7 HMY7 HB7 hk
    go_wp2_with (refine stop_at (o := ⟨some 12, _, _, _, _, _⟩) ?_)
    refine Stop.mk ?_
    refine wpList_new_row rfl rfl _ _ rfl rfl ty_sec (u8s zeroB) zero_sec (by rw [u8s_length, zeroB_length]) (u8s (plainL (gx : Int) 1).sec) rfl (by rw [u8s_length, HLX.out]) (u8s_one _) rfl ?_
    intro w9 hz hs hk
    have HS9 := hz
    have HX9 := Lib.hid (hk.block HX8.out)
    have HMX9 := Lib.hid (HMX8.out.kept hk)
    have HY9 := Lib.hid (hk.block HY8.out)
    have HMY9 := Lib.hid (HMY8.out.kept hk)
    have HB9 := Lib.hid (HB8.out.box hk hs)
    generalize w8.heap.size = S at *
    clear HX8 HMX8 HY8 HMY8 HB8 hz hs hk
    go_wp2_with (refine stop_at (o := ⟨some 51, _, _, _, _, _⟩) ?_)
    refine Stop.mk ?_
    refine wpList_load_agg rfl _ rfl ty_lab Y 0 rfl (Lab.vals (plainL (gy : Int) 0) sy) (by simpa using Cells.of_block HY9.out) rfl ?_
    go_wp2_with fail
    refine Calls.mono (label_Put_ok (plainL (gy : Int) 0) sy w9 HMY9.out HRY0.out) ?_
    rintro e w10 ⟨rfl, hk⟩
    have HX10 := Lib.hid (hk.block HX9.out)
    have HMX10 := Lib.hid (HMX9.out.kept hk)
    have HY10 := Lib.hid (hk.block HY9.out)
    have HMY10 := Lib.hid (HMY9.out.kept hk)
    have HB10 := Lib.hid ((HB9.out.kept hk).1)
    have HS10 := Lib.hid (hk.block HS9.out)
    clear HX9 HMX9 HY9 HMY9 HB9 HS9 hk
    go_wp2_with (refine stop_at (o := ⟨some 14, _, _, _, _, _⟩) ?_)
    refine Stop.mk ?_
    refine wpList_new_row rfl rfl _ _ rfl rfl ty_sec (u8s zeroB) zero_sec (by rw [u8s_length, zeroB_length]) (u8s (plainL (gy : Int) 0).sec) rfl (by rw [u8s_length, HLY.out]) (u8s_one _) rfl ?_
    intro w11 hz hs hk
    have HQ11 := hz
    have HX11 := Lib.hid (hk.block HX10.out)
    have HMX11 := Lib.hid (HMX10.out.kept hk)
    have HY11 := Lib.hid (hk.block HY10.out)
    have HMY11 := Lib.hid (HMY10.out.kept hk)
    have HB11 := Lib.hid (HB10.out.box hk hs)
    have HS11 := Lib.hid (hk.block HS10.out)
    generalize w10.heap.size = Z at *
    clear HX10 HMX10 HY10 HMY10 HB10 HS10 hz hs hk
    go_wp2_with (refine stop_at (o := ⟨some 57, _, _, _, _, _⟩) ?_)
    refine Stop.mk ?_
    refine wpList_load_agg rfl _ rfl ty_sec S 0 rfl (u8s (plainL (gx : Int) 1).sec) (by simpa using Cells.of_block HS11.out) (by rw [u8s_length, HLX.out]) ?_
    go_wp2_with fail
    refine Calls.mono (st_writeE HB11.out HU0.out 1 0 HLX.out HE1.out) ?_
    rintro e w12 ⟨rfl, hb, hr⟩
    have HB12 := Lib.hid hb
    have HX12 := Lib.hid ((hr X (by simp)).trans HX11.out)
    have HMX12 := Lib.hid (HMX11.out.same fun b hb => hr b (by have h := HOX.out.symm.trans hb; injection h with h; subst h; simp))
    have HY12 := Lib.hid ((hr Y (by simp)).trans HY11.out)
    have HMY12 := Lib.hid (HMY11.out.same fun b hb => hr b (by have h := HOY.out.symm.trans hb; injection h with h; subst h; simp))
    have HS12 := Lib.hid ((hr S (by simp)).trans HS11.out)
    have HQ12 := Lib.hid ((hr Z (by simp)).trans HQ11.out)
    clear HX11 HMX11 HY11 HMY11 HB11 HS11 HQ11 hb hr
    go_wp2_with (refine stop_at (o := ⟨some 61, _, _, _, _, _⟩) ?_)
    refine Stop.mk ?_
    refine wpList_load_agg rfl _ rfl ty_sec Z 0 rfl (u8s (plainL (gy : Int) 0).sec) (by simpa using Cells.of_block HQ12.out) (by rw [u8s_length, HLY.out]) ?_
    go_wp2_with fail
    refine Calls.mono (st_writeE HB12.out HU1.out 1 1 HLY.out HE2.out) ?_
    rintro e w13 ⟨rfl, hb, hr⟩
    have HB13 := Lib.hid hb
    have HX13 := Lib.hid ((hr X (by simp)).trans HX12.out)
    have HMX13 := Lib.hid (HMX12.out.same fun b hb => hr b (by have h := HOX.out.symm.trans hb; injection h with h; subst h; simp))
    have HY13 := Lib.hid ((hr Y (by simp)).trans HY12.out)
    have HMY13 := Lib.hid (HMY12.out.same fun b hb => hr b (by have h := HOY.out.symm.trans hb; injection h with h; subst h; simp))
    have HS13 := Lib.hid ((hr S (by simp)).trans HS12.out)
    have HQ13 := Lib.hid ((hr Z (by simp)).trans HQ12.out)
    clear HX12 HMX12 HY12 HMY12 HB12 HS12 HQ12 hb hr
    clear HS13 HQ13 HE1 HE2 HU0 HU1 HLX HLY HOX HOY
    go_wp2_with fail
    refine Calls.mono (label_Load HB13.out HU2.out 1) ?_
    rintro e w14 ⟨sl, he, hml, hk⟩
    rw [HL1.out] at he hml
    dsimp only at he hml
    subst he
    have HML14 := Lib.hid hml
    have HX14 := Lib.hid (hk.block HX13.out)
    have HMX14 := Lib.hid (HMX13.out.kept hk)
    have HY14 := Lib.hid (hk.block HY13.out)
    have HMY14 := Lib.hid (HMY13.out.kept hk)
    have HB14 := Lib.hid ((HB13.out.kept hk).1)
    clear HX13 HMX13 HY13 HMY13 HB13 hk hml HL1
    go_wp2_with (refine stop_at (o := ⟨some 16, _, _, _, _, _⟩) ?_)
    refine Stop.mk ?_
    refine wpList_new_row rfl rfl _ _ rfl rfl ty_lab [.int .i64 0, .int .i64 0, .int .i64 0, .int .i64 0, .slice none 0 0] zero_lab rfl (Lab.vals (plainL (gx : Int) 1) sl) rfl rfl (lab_one _ _ HML14.out.one) rfl ?_
    intro w15 hz hs hk
    have HE15 := hz
    have HX15 := Lib.hid (hk.block HX14.out)
    have HMX15 := Lib.hid (HMX14.out.kept hk)
    have HY15 := Lib.hid (hk.block HY14.out)
    have HMY15 := Lib.hid (HMY14.out.kept hk)
    have HB15 := Lib.hid (HB14.out.box hk hs)
    have HML15 := Lib.hid (HML14.out.kept hk)
    generalize w14.heap.size = E at *
    clear HX14 HMX14 HY14 HMY14 HB14 HML14 hz hs hk
    go_wp2_with (refine stop_at (o := ⟨some 68, _, _, _, _, _⟩) ?_)
    refine Stop.mk ?_
    refine wpList_load_agg rfl _ rfl ty_lab X 0 rfl (Lab.vals (plainL (gx : Int) 1) sx) (by simpa using Cells.of_block HX15.out) rfl ?_
    go_wp2_with (refine stop_at (o := ⟨some 18, _, _, _, _, _⟩) ?_)
    refine Stop.mk ?_
    refine wpList_new_row rfl rfl _ _ rfl rfl ty_lab [.int .i64 0, .int .i64 0, .int .i64 0, .int .i64 0, .slice none 0 0] zero_lab rfl (Lab.vals (plainL (gx : Int) 1) sx) rfl rfl (lab_one _ _ HMX15.out.one) rfl ?_
    intro w16 hz hs hk
    have HV16 := hz
    have HX16 := Lib.hid (hk.block HX15.out)
    have HMX16 := Lib.hid (HMX15.out.kept hk)
    have HY16 := Lib.hid (hk.block HY15.out)
    have HMY16 := Lib.hid (HMY15.out.kept hk)
    have HB16 := Lib.hid ((HB15.out.kept hk).1)
    have HML16 := Lib.hid (HML15.out.kept hk)
    have HE16 := Lib.hid (hk.block HE15.out)
    have HKV := Lib.hid hk
    have HSV := Lib.hid (Nat.le_refl w15.heap.size)
    generalize hV : w15.heap.size = V at *
    clear hV HKV HSV
    clear HX15 HMX15 HY15 HMY15 HB15 HML15 HE15 hz hs hk
    go_wp2_with (refine stop_at (o := ⟨some 79, _, _, _, _, _⟩) ?_)
    refine Stop.mk ?_
    refine wpList_load_agg rfl _ rfl ty_lab E 0 rfl (Lab.vals (plainL (gx : Int) 1) sl) (by simpa using Cells.of_block HE16.out) rfl ?_
    go_wp2_with (refine stop_at (o := ⟨some 80, _, _, _, _, _⟩) ?_)
    refine Stop.mk ?_
    refine wpList_load_agg rfl _ rfl ty_lab V 0 rfl (Lab.vals (plainL (gx : Int) 1) sx) (by simpa using Cells.of_block HV16.out) rfl ?_
    go_wp2_with fail
    refine Calls.mono (same_labels (plainL (gx : Int) 1) sl sx w16 (by show 3 ≤ 9223372036854775807; decide) HML16.out HMX16.out) ?_
    rintro e w17 ⟨rfl, hk⟩
    have HB17 := Lib.hid (HB16.out.kept hk).1
    clear HX16 HMX16 HY16 HMY16 HB16 HML16 HE16 HV16 hk
    go_wp2_with fail
    refine Calls.mono (label_Load HB17.out HU2.out 2) ?_
    rintro e w18 ⟨sl2, he, hml, hk⟩
    rw [HL2.out] at he hml
    dsimp only at he hml
    subst he
    have HML18 := Lib.hid hml
    have HB18 := Lib.hid ((HB17.out.kept hk).1)
    clear HB17 hk hml HL2
    go_wp2_with (refine stop_at (o := ⟨some 20, _, _, _, _, _⟩) ?_)
    refine Stop.mk ?_
    refine wpList_new_row rfl rfl _ _ rfl rfl ty_lab [.int .i64 0, .int .i64 0, .int .i64 0, .int .i64 0, .slice none 0 0] zero_lab rfl (Lab.vals (Lab.zero) sl2) rfl rfl (lab_one _ _ HML18.out.one) rfl ?_
    intro w19 hz hs hk
    have HE19 := hz
    have HB19 := Lib.hid (HB18.out.box hk hs)
    have HML19 := Lib.hid (HML18.out.kept hk)
    generalize w18.heap.size = E2 at *
    clear HB18 HML18 hz hs hk
    go_wp2
    go_ret
    exact ⟨rfl, HB19.out.keeps⟩
end
end Go.Proofs.Ytcbghpcohbgcjaa
