/- StripeMaps' walk. -/
import Derived.Test.YtkcemkphehocgaaSry
import Derived.Test.YtkcemkphehocgaaStj
namespace Go.Proofs.Ytkcemkphehocgaa
open Go.RowKit
set_option linter.unusedVariables false
set_option linter.unusedSimpArgs false

section
variable {w : World}
set_option maxHeartbeats 4000000
set_option maxRecDepth 100000
theorem law_smaps (v : Value) (l : List (Int × Int)) (slot t a3 : Int) (w : World) (hs : XtSrc w v l) : Calls Try.prog 6 #[v, .int .i64 slot, .int .i64 t, .int .i64 a3] w fun e w' => e = .returned (.bool true) ∧ Kept w w' := by
  have HSRC := Lib.hid hs
  obtain ⟨oap, capp, rfl, _⟩ := hs
  obtain ⟨y, hy, hyl⟩ := and_low a3 11 (by decide) (m := 2047) (by decide)
  have hyl' : y < 2048 := hyl
  have HY := Lib.hid hy
  clear hy hyl
  have hN := fewL_near l
  have h9 : (fewL l).length ≤ 9 := by rw [fewL_len]; omega
  go_enter Try.func6, Try.ntmps6
  go_wp2_with fail
  refine Calls.mono (law_shown13 _) ?_
  rintro e w1 ⟨rfl, hk1⟩
  go_wp2_with fail
  refine Calls.mono (law_few (HSRC.out.kept hk1)) ?_
  rintro e w2 ⟨r, rfl, he, hk2⟩
  generalize fewL l = L at *
  have HN := Lib.hid hN
  have HE2 := Lib.hid he; have HK2 := Lib.hid (hk1.trans hk2)
  have HU1 := Lib.hid fun W (he : ESl W r L) => st_DataU he HN.out t; have HU2 := Lib.hid fun W (he : ESl W r L) => rf_DataU he HN.out t
  have HM1 := Lib.hid fun W (he : ESl W r L) => st_MatesU he HN.out slot; have HM2 := Lib.hid fun W (he : ESl W r L) => rf_MatesU he HN.out slot
  have HDL := Lib.hid (dataU_len L t); have HML := Lib.hid (matesU_len L slot)
  have hh1 := fun W (he : ESl W r L) => st_Home he HN.out slot; have hh2 := fun W (he : ESl W r L) => rf_Home he HN.out slot
  have hp1 := fun W (he : ESl W r L) => st_Parity he HN.out t; have hp2 := fun W (he : ESl W r L) => rf_Parity he HN.out t
  obtain ⟨⟨⟨ax, ay⟩, ec⟩, hhx⟩ : ∃ p, homeX L slot = p := ⟨_, rfl⟩
  obtain ⟨⟨⟨cx, cy⟩, gc⟩, hpx⟩ : ∃ p, parityX L t = p := ⟨_, rfl⟩
  rw [hhx] at hh1 hh2
  rw [hpx] at hp1 hp2
  have HH1 := Lib.hid hh1; have HH2 := Lib.hid hh2; have HP1 := Lib.hid hp1; have HP2 := Lib.hid hp2
  have HS1 := Lib.hid fun W => st_Slots (y : Int) (by omega) (by omega) W; have HS2 := Lib.hid fun W => rf_Slots (y : Int) (by omega) (by omega) W
  have hs3 := fun W => st_Slots (-(y : Int)) (by omega) (by omega) W
  rw [if_pos (show -(y : Int) < 2 by omega)] at hs3
  have HS3 := Lib.hid hs3
  obtain ⟨oa, cap, rfl, _⟩ := he
  clear hN hh1 hh2 hp1 hp2 hhx hpx hs3 hk1 hk2 HSRC
  generalize (splitX L.length slot).2.2 = kc at *
  generalize rightX L.length t = ic at *
  generalize dataU L t = DU at *
  generalize matesU L slot = MU at *
  generalize (if (y : Int) < 2 then (0 : Int) else 8 * ((y : Int) - 1)) = sl at *
  have hy := HY.out
  go_wp2_with fail
  try simp only [hy]
  clear hy
  refine Calls.mono (HH1.out _ HE2.out) ?_
  rintro e w3 ⟨rfl, hk⟩
  have HE3 := Lib.hid (HE2.out.kept hk)
  have HK3 := Lib.hid (HK2.out.trans hk)
  clear HE2 HK2 hk HH1
  go_wp2_with (refine stop_at (o := ⟨some 10, _, _, _, _, _⟩) ?_)
  refine Stop.mk ?_
  refine wpList_new_row rfl rfl _ _ rfl rfl ty_plc _ zero_plc rfl [.int .i64 (ax), .int .i64 (ay)] rfl rfl (one_plc _ _) rfl ?_
  intro w4 hz hs hk
  have HPa4 := hz
  have HE4 := Lib.hid (HE3.out.kept hk)
  have HK4 := Lib.hid (HK3.out.trans hk)
  generalize w3.heap.size = P0 at *
  clear HE3 HK3 hz hs hk 
  go_wp2_with fail
  refine Calls.mono (HH2.out _ HE4.out) ?_
  rintro e w5 ⟨rfl, hk⟩
  have HE5 := Lib.hid (HE4.out.kept hk)
  have HK5 := Lib.hid (HK4.out.trans hk)
  have HPa5 := Lib.hid (hk.block HPa4.out)
  clear HE4 HK4 HPa4 hk HH2
  go_wp2_with (refine stop_at (o := ⟨some 12, _, _, _, _, _⟩) ?_)
  refine Stop.mk ?_
  refine wpList_new_row rfl rfl _ _ rfl rfl ty_plc _ zero_plc rfl [.int .i64 (ax), .int .i64 (ay)] rfl rfl (one_plc _ _) rfl ?_
  intro w6 hz hs hk
  have HPb6 := hz
  have HE6 := Lib.hid (HE5.out.kept hk)
  have HK6 := Lib.hid (HK5.out.trans hk)
  have HPa6 := Lib.hid (hk.block HPa5.out)
  generalize w5.heap.size = P1 at *
  clear HE5 HK5 HPa5 hz hs hk 
  go_wp2_with fail
  refine Calls.mono (HP1.out _ HE6.out) ?_
  rintro e w7 ⟨rfl, hk⟩
  have HE7 := Lib.hid (HE6.out.kept hk)
  have HK7 := Lib.hid (HK6.out.trans hk)
  have HPa7 := Lib.hid (hk.block HPa6.out)
  have HPb7 := Lib.hid (hk.block HPb6.out)
  clear HE6 HK6 HPa6 HPb6 hk HP1
  go_wp2_with (refine stop_at (o := ⟨some 14, _, _, _, _, _⟩) ?_)
  refine Stop.mk ?_
  refine wpList_new_row rfl rfl _ _ rfl rfl ty_plc _ zero_plc rfl [.int .i64 (cx), .int .i64 (cy)] rfl rfl (one_plc _ _) rfl ?_
  intro w8 hz hs hk
  have HPc8 := hz
  have HE8 := Lib.hid (HE7.out.kept hk)
  have HK8 := Lib.hid (HK7.out.trans hk)
  have HPa8 := Lib.hid (hk.block HPa7.out)
  have HPb8 := Lib.hid (hk.block HPb7.out)
  generalize w7.heap.size = P2 at *
  clear HE7 HK7 HPa7 HPb7 hz hs hk 
  go_wp2_with fail
  refine Calls.mono (HP2.out _ HE8.out) ?_
  rintro e w9 ⟨rfl, hk⟩
  have HE9 := Lib.hid (HE8.out.kept hk)
  have HK9 := Lib.hid (HK8.out.trans hk)
  have HPa9 := Lib.hid (hk.block HPa8.out)
  have HPb9 := Lib.hid (hk.block HPb8.out)
  have HPc9 := Lib.hid (hk.block HPc8.out)
  clear HE8 HK8 HPa8 HPb8 HPc8 hk HP2
  go_wp2_with (refine stop_at (o := ⟨some 16, _, _, _, _, _⟩) ?_)
  refine Stop.mk ?_
  refine wpList_new_row rfl rfl _ _ rfl rfl ty_plc _ zero_plc rfl [.int .i64 (cx), .int .i64 (cy)] rfl rfl (one_plc _ _) rfl ?_
  intro w10 hz hs hk
  have HPd10 := hz
  have HE10 := Lib.hid (HE9.out.kept hk)
  have HK10 := Lib.hid (HK9.out.trans hk)
  have HPa10 := Lib.hid (hk.block HPa9.out)
  have HPb10 := Lib.hid (hk.block HPb9.out)
  have HPc10 := Lib.hid (hk.block HPc9.out)
  generalize w9.heap.size = P3 at *
  clear HE9 HK9 HPa9 HPb9 HPc9 hz hs hk 
  go_wp2_with (refine stop_at (o := ⟨some 57, _, _, _, _, _⟩) ?_)
  refine Stop.mk ?_
  refine wpList_load_aggW _ rfl ty_plc P0 0 rfl [.int .i64 ax, .int .i64 ay] (by simpa using Cells.of_block HPa10.out) rfl (by rfl) ?_
  go_wp2_with (refine stop_at (o := ⟨some 58, _, _, _, _, _⟩) ?_)
  refine Stop.mk ?_
  refine wpList_load_aggW _ rfl ty_plc P1 0 rfl [.int .i64 ax, .int .i64 ay] (by simpa using Cells.of_block HPb10.out) rfl (by rfl) ?_
  go_wp2_with (refine stop_at (o := ⟨some 59, _, _, _, _, _⟩) ?_)
  refine Stop.mk ?_
  refine wpList_neq_plc rfl _ _ rfl ax ay ax ay rfl rfl false (by simp) ?_
  go_wp2_with (refine stop_at (o := ⟨some 66, _, _, _, _, _⟩) ?_)
  refine Stop.mk ?_
  refine wpList_load_aggW _ rfl ty_plc P2 0 rfl [.int .i64 cx, .int .i64 cy] (by simpa using Cells.of_block HPc10.out) rfl (by rfl) ?_
  go_wp2_with (refine stop_at (o := ⟨some 67, _, _, _, _, _⟩) ?_)
  refine Stop.mk ?_
  refine wpList_load_aggW _ rfl ty_plc P3 0 rfl [.int .i64 cx, .int .i64 cy] (by simpa using Cells.of_block HPd10.out) rfl (by rfl) ?_
  go_wp2_with (refine stop_at (o := ⟨some 68, _, _, _, _, _⟩) ?_)
  refine Stop.mk ?_
  refine wpList_neq_plc rfl _ _ rfl cx cy cx cy rfl rfl false (by simp) ?_
  go_wp2_with fail
  refine Calls.mono (HS1.out _) ?_
  rintro e w' ⟨rfl, rfl⟩
  clear HS1
  go_wp2_with fail
  refine Calls.mono (HS2.out _) ?_
  rintro e w' ⟨rfl, rfl⟩
  clear HS2
  go_wp2_with fail
  refine Calls.mono (HS3.out _) ?_
  rintro e w' ⟨rfl, rfl⟩
  clear HS3
  clear HPa10 HPb10 HPc10 HPd10
  go_wp2_with fail
  refine Calls.mono (HU1.out _ HE10.out) ?_
  rintro e w11 ⟨r1, rfl, he, hk⟩
  have HE11 := Lib.hid (HE10.out.kept hk)
  have HK11 := Lib.hid (HK10.out.trans hk)
  have HQ11 := Lib.hid he
  clear HE10 HK10 hk he HU1
  go_wp2_with fail
  refine Calls.mono (HU2.out _ HE11.out) ?_
  rintro e w12 ⟨r2, rfl, he, hk⟩
  have HE12 := Lib.hid (HE11.out.kept hk)
  have HK12 := Lib.hid (HK11.out.trans hk)
  have HQ12 := Lib.hid (HQ11.out.kept hk)
  have HR12 := Lib.hid he
  clear HE11 HK11 HQ11 hk he HU2
  go_wp2_with fail
  refine Calls.mono (HM1.out _ HE12.out) ?_
  rintro e w13 ⟨r3, rfl, he, hk⟩
  have HE13 := Lib.hid (HE12.out.kept hk)
  have HK13 := Lib.hid (HK12.out.trans hk)
  have HQ13 := Lib.hid (HQ12.out.kept hk)
  have HR13 := Lib.hid (HR12.out.kept hk)
  have HS13 := Lib.hid he
  clear HE12 HK12 HQ12 HR12 hk he HM1
  go_wp2_with fail
  refine Calls.mono (HM2.out _ HE13.out) ?_
  rintro e w14 ⟨r4, rfl, he, hk⟩
  have HE14 := Lib.hid (HE13.out.kept hk)
  have HK14 := Lib.hid (HK13.out.trans hk)
  have HQ14 := Lib.hid (HQ13.out.kept hk)
  have HR14 := Lib.hid (HR13.out.kept hk)
  have HS14 := Lib.hid (HS13.out.kept hk)
  have HT14 := Lib.hid he
  clear HE13 HK13 HQ13 HR13 HS13 hk he HM2
  have hcs := ref_Same HQ14.out HR14.out (by have := HDL.out; omega) (by have := HDL.out; omega)
  rw [show decide (DU = DU) = true by simp] at hcs
  go_wp2_with fail
  refine Calls.mono (hcs) ?_
  rintro e w15 ⟨rfl, hk⟩
  have HE15 := Lib.hid (HE14.out.kept hk)
  have HK15 := Lib.hid (HK14.out.trans hk)
  have HQ15 := Lib.hid (HQ14.out.kept hk)
  have HR15 := Lib.hid (HR14.out.kept hk)
  have HS15 := Lib.hid (HS14.out.kept hk)
  have HT15 := Lib.hid (HT14.out.kept hk)
  clear HE14 HK14 HQ14 HR14 HS14 HT14 hk hcs
  have hcs := ref_Same HS15.out HT15.out (by have := HML.out; omega) (by have := HML.out; omega)
  rw [show decide (MU = MU) = true by simp] at hcs
  go_wp2_with fail
  refine Calls.mono (hcs) ?_
  rintro e w16 ⟨rfl, hk⟩
  have HE16 := Lib.hid (HE15.out.kept hk)
  have HK16 := Lib.hid (HK15.out.trans hk)
  have HQ16 := Lib.hid (HQ15.out.kept hk)
  have HR16 := Lib.hid (HR15.out.kept hk)
  have HS16 := Lib.hid (HS15.out.kept hk)
  have HT16 := Lib.hid (HT15.out.kept hk)
  clear HE15 HK15 HQ15 HR15 HS15 HT15 hk hcs
  have HZ := HK16
  clear HE16 HK16 HQ16 HR16 HS16 HT16
  go_wp2
  go_ret
  exact ⟨rfl, HZ.out⟩
end
end Go.Proofs.Ytkcemkphehocgaa
