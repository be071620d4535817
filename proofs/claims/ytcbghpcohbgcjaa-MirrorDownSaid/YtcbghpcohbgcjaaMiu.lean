/- MirrorDown: the walk (gen_down.py). -/
import Derived.Test.YtcbghpcohbgcjaaMil
import Derived.Test.YtcbghpcohbgcjaaMit
import Derived.Test.YtcbghpcohbgcjaaMiv
namespace Go.Proofs.Ytcbghpcohbgcjaa
open Go.RowKit
set_option linter.unusedVariables false
set_option linter.unusedSimpArgs false

section
variable {w W : World}
set_option maxHeartbeats 4000000
set_option maxRecDepth 100000
theorem law_down (at0 n0 m0 mask : Int) (w : World) (hm : 0 ≤ mask ∧ mask < 18446744073709551616) :
    Calls Try.prog 9 #[.int .i64 at0, .int .i64 n0, .int .i64 m0, .int .u64 mask] w fun e w' => e = .returned (.bool true) ∧ Kept w w' := by
  obtain ⟨a, ha, hal⟩ := and_low at0 3 (by decide) (m := 7) (by decide)
  have ha8 : a < 8 := hal
  obtain ⟨k, hk, hkl⟩ := and_low m0 1 (by decide) (m := 1) (by decide)
  have hk2 : k < 2 := hkl
  have hsub : (11 : Int) - (a : Int) = ((11 - a : Nat) : Int) := by omega
  obtain ⟨T1, T2, T3, T4, e1, e2, e3, e4, h1, h2, h3, h4, ⟨c1, c2, c3, c4⟩, ⟨v1, v2, v3, v4⟩, hidle, hN0, hN1, hF⟩ := down_begin ha8 (secN_ok n0)
  obtain ⟨T6, s, u5, u51, e6, u6, u7, r6, a6, r7, r8, r9, ls, hsx⟩ := down_law h4 (by omega) (by omega) ha8 hidle hN0 hN1 hF hk2 mask hm (secN_ok m0)
  have HE2 := Lib.hid e2; have HE3 := Lib.hid e3; have HE4 := Lib.hid e4
  have HU0 : Hid (addZ 12 2).Use := Lib.hid ((addZ_still (z := 12) (k := 2) (by decide) (by decide)).live.use (by decide) (by rw [(addZ_rest 12 2).2.2.1]; decide) (by rw [(addZ_rest 12 2).2.2.2]; decide))
  have HU1 : Hid ((addZ 12 2).write 0 (a : Int) (secN n0)).1.Use := Lib.hid (by rw [e1]; exact h1.live.use (by decide) (by omega) (by omega))
  have HU2 := Lib.hid (h2.live.use (by decide) (by omega) (by omega))
  have HU3 := Lib.hid (h3.live.use (by decide) (by omega) (by omega))
  have HU5 := Lib.hid u5; have HU51 := Lib.hid u51; have HE6 := Lib.hid e6; have HU6 := Lib.hid u6; have HU7 := Lib.hid u7; have R6 := Lib.hid r6; have A6 := Lib.hid a6; have R7 := Lib.hid r7; have R8 := Lib.hid r8; have R9 := Lib.hid r9; have LS := Lib.hid ls; have HSX := Lib.hid hsx
  clear hal hkl e1 e2 e3 e4 h1 h2 h3 h4 c1 c2 c3 c4 v1 v2 v3 v4 hidle hN0 hN1 hF u5 u51 e6 u6 u7 r6 a6 r7 r8 r9 ls hsx hm
  go_enter Try.func9, Try.ntmps9
  go_wp2_with fail
  refine Calls.mono (m_shown _) ?_
  rintro e w1 ⟨rfl, hk⟩
  have HK1 := Lib.hid hk
  clear hk
  go_wp2_with fail
  refine Calls.mono (m_laid 2 (by decide) w w1 (fun _ => False) HK1.out (fun _ h => h.elim)) ?_
  rintro e w2 ⟨q, rfl, hb, hr⟩
  have HB2 : Hid (BK w (fun _ => False) w2 q (addZ 12 2)) := Lib.hid hb
  clear hb hr HK1
  generalize addZ 12 2 = T0 at *
  go_wp2_with (refine stop_at (o := ⟨some 11, _, _, _, _, _⟩) ?_)
  refine Stop.mk ?_
  refine wpList_new_row rfl rfl _ _ rfl rfl ty_plc _ zero_plc rfl [.int .i64 0, .int .i64 (a : Int)] (by first | rfl | (simp only [ha]; rfl) | simp [ha]) rfl (one_plc _ _) rfl ?_
  intro w3 hz hs hk
  have HB3 := Lib.hid (HB2.out.box hk hs)
  have HX3 := hz
  generalize w2.heap.size = X at *
  clear hz hs hk HB2
  go_wp2_with (refine stop_at (o := ⟨some 12, _, _, _, _, _⟩) ?_)
  refine Stop.mk ?_
  refine wpList_new_row rfl rfl _ _ rfl rfl ty_plc _ zero_plc rfl [.int .i64 1, .int .i64 ((11 - a : Nat) : Int)] (by first | rfl | (simp only [hsub]; rfl) | simp [ha, hsub]) rfl (one_plc _ _) rfl ?_
  intro w4 hz hs hk
  have HB4 := Lib.hid (HB3.out.box hk hs)
  have HX4 := Lib.hid (hk.block HX3.out)
  have HY4 := hz
  generalize w3.heap.size = Y at *
  clear hz hs hk HB3 HX3 ha hsub
  go_upto_region 7 with fail
  have hS : Pl w4.drew X 0 (a : Int) ∧ Pl w4.drew Y 1 ((11 - a : Nat) : Int) := ⟨Pl.of HX4.out, Pl.of HY4.out⟩
  refine wp_region_calm ?_
  refine wp_region_E (fun W => Pl W X 0 (a : Int) ∧ Pl W Y 1 ((11 - a : Nat) : Int)) 100 (by kernel_rfl) ?_
  refine wpAnyE_take (i := 0) (v := ?_) (listed' := #[true, false, false, false, false, false, false, false, false, false, false, false, false, false, false, false, false]) (by rfl) (by kernel_rfl) (by kernel_rfl) calm_put hS (by rfl) ?_ ?_
  rotate_left
  · intro W hW; clear hW; go_simp; try (with_reducible rfl)
  simp only [Act.put, List.getElem_toArray, List.getElem_cons_succ, List.getElem_cons_zero, List.setIfInBounds_toArray, List.set_cons_zero, List.set_cons_succ]
  refine wpAnyE_take (i := 1) (v := ?_) (listed' := #[true, true, false, false, false, false, false, false, false, false, false, false, false, false, false, false, false]) (by rfl) (by kernel_rfl) (by kernel_rfl) calm_put hS (by rfl) ?_ ?_
  rotate_left
  · intro W hW; obtain ⟨⟨p0, p1⟩, q0, q1⟩ := hW; go_simp; try (with_reducible rfl)
  simp only [Act.put, List.getElem_toArray, List.getElem_cons_succ, List.getElem_cons_zero, List.setIfInBounds_toArray, List.set_cons_zero, List.set_cons_succ]
  refine wpAnyE_take (i := 2) (v := ?_) (listed' := #[true, true, true, false, false, false, false, false, false, false, false, false, false, false, false, false, false]) (by rfl) (by kernel_rfl) (by kernel_rfl) calm_put hS (by rfl) ?_ ?_
  rotate_left
  · intro W hW; obtain ⟨⟨p0, p1⟩, q0, q1⟩ := hW; go_simp; try (with_reducible rfl)
  simp only [Act.put, List.getElem_toArray, List.getElem_cons_succ, List.getElem_cons_zero, List.setIfInBounds_toArray, List.set_cons_zero, List.set_cons_succ]
  refine wpAnyE_take (i := 3) (v := ?_) (listed' := #[true, true, true, true, false, false, false, false, false, false, false, false, false, false, false, false, false]) (by rfl) (by kernel_rfl) (by kernel_rfl) calm_put hS (by rfl) ?_ ?_
  rotate_left
  · intro W hW; clear hW; go_simp; try (with_reducible rfl)
  simp only [Act.put, List.getElem_toArray, List.getElem_cons_succ, List.getElem_cons_zero, List.setIfInBounds_toArray, List.set_cons_zero, List.set_cons_succ]
  refine wpAnyE_one (i := 4) (listed' := #[true, true, true, true, true, false, false, false, false, false, false, false, false, false, false, false, false]) (by rfl) (by kernel_rfl) (by kernel_rfl) (by rfl) (fun K hK => ?_)
  simp only [Act.put, List.getElem_toArray, List.getElem_cons_succ, List.getElem_cons_zero, List.setIfInBounds_toArray, List.set_cons_zero, List.set_cons_succ]
  go_wp2_with fail
  refine Calls.mono (m_sector n0 _) ?_
  rintro e w5 ⟨rfl, hks⟩
  have hS := (⟨hS.1.kept hks, hS.2.kept hks⟩ : _ ∧ _)
  refine hK _ _ (fun _ => hS) ?_; clear hK K
  refine wpAnyE_one (i := 5) (listed' := #[true, true, true, true, true, true, false, false, false, false, false, false, false, false, false, false, false]) (by rfl) (by kernel_rfl) (by kernel_rfl) (by rfl) (fun K hK => ?_)
  simp only [Act.put, List.getElem_toArray, List.getElem_cons_succ, List.getElem_cons_zero, List.setIfInBounds_toArray, List.set_cons_zero, List.set_cons_succ]
  go_wp2_with fail
  refine Calls.mono (m_WriteE (HB4.out.kept ((Kept.refl _).drew.trans hks)).1 HU0.out 0 (a : Int) 1 ((11 - a : Nat) : Int) (s := secN n0) (secN_len _) HU1.out HE2.out) ?_
  rintro e w6 ⟨rfl, hb, hr⟩
  have HB5 := Lib.hid hb
  have hS := (⟨hS.1.same (hr X (.inl (.inr rfl))), hS.2.same (hr Y (.inr rfl))⟩ : _ ∧ _)
  clear hb hr hks
  refine hK _ _ (fun _ => hS) ?_; clear hK K
  refine wpAnyE_take (i := 6) (v := ?_) (listed' := #[true, true, true, true, true, true, true, false, false, false, false, false, false, false, false, false, false]) (by rfl) (by kernel_rfl) (by kernel_rfl) calm_put hS (by rfl) ?_ ?_
  rotate_left
  · intro W hW; clear hW; go_simp; try (with_reducible rfl)
  simp only [Act.put, List.getElem_toArray, List.getElem_cons_succ, List.getElem_cons_zero, List.setIfInBounds_toArray, List.set_cons_zero, List.set_cons_succ]
  refine wpAnyE_take (i := 7) (v := ?_) (listed' := #[true, true, true, true, true, true, true, true, false, false, false, false, false, false, false, false, false]) (by rfl) (by kernel_rfl) (by kernel_rfl) calm_put hS (by rfl) ?_ ?_
  rotate_left
  · intro W hW; clear hW; go_simp; try (with_reducible rfl)
  simp only [Act.put, List.getElem_toArray, List.getElem_cons_succ, List.getElem_cons_zero, List.setIfInBounds_toArray, List.set_cons_zero, List.set_cons_succ]
  refine wpAnyE_take (i := 8) (v := ?_) (listed' := #[true, true, true, true, true, true, true, true, true, false, false, false, false, false, false, false, false]) (by rfl) (by kernel_rfl) (by kernel_rfl) calm_put hS (by rfl) ?_ ?_
  rotate_left
  · intro W hW; clear hW; go_simp; try (with_reducible rfl)
  simp only [Act.put, List.getElem_toArray, List.getElem_cons_succ, List.getElem_cons_zero, List.setIfInBounds_toArray, List.set_cons_zero, List.set_cons_succ]
  refine wpAnyE_one (i := 9) (listed' := #[true, true, true, true, true, true, true, true, true, true, false, false, false, false, false, false, false]) (by rfl) (by kernel_rfl) (by kernel_rfl) (by rfl) (fun K hK => ?_)
  simp only [Act.put, List.getElem_toArray, List.getElem_cons_succ, List.getElem_cons_zero, List.setIfInBounds_toArray, List.set_cons_zero, List.set_cons_succ]
  go_wp2_with fail
  refine Calls.mono (st_flush HB5.out HU2.out 0 (c := 0) (T' := T3) (by rw [HE3.out]) (by rw [HE3.out])) ?_
  rintro e w6a ⟨rfl, hb, hr⟩
  have HB6 := Lib.hid hb
  have hS := (⟨hS.1.same (hr X (.inl (.inr rfl))), hS.2.same (hr Y (.inr rfl))⟩ : _ ∧ _)
  clear hb hr
  refine hK _ _ (fun _ => hS) ?_; clear hK K
  refine wpAnyE_take (i := 10) (v := ?_) (listed' := #[true, true, true, true, true, true, true, true, true, true, true, false, false, false, false, false, false]) (by rfl) (by kernel_rfl) (by kernel_rfl) calm_put hS (by rfl) ?_ ?_
  rotate_left
  · intro W hW; clear hW; go_simp; try (with_reducible rfl)
  simp only [Act.put, List.getElem_toArray, List.getElem_cons_succ, List.getElem_cons_zero, List.setIfInBounds_toArray, List.set_cons_zero, List.set_cons_succ]
  refine wpAnyE_take (i := 11) (v := ?_) (listed' := #[true, true, true, true, true, true, true, true, true, true, true, true, false, false, false, false, false]) (by rfl) (by kernel_rfl) (by kernel_rfl) calm_put hS (by rfl) ?_ ?_
  rotate_left
  · intro W hW; clear hW; go_simp; try (with_reducible rfl)
  simp only [Act.put, List.getElem_toArray, List.getElem_cons_succ, List.getElem_cons_zero, List.setIfInBounds_toArray, List.set_cons_zero, List.set_cons_succ]
  refine wpAnyE_take (i := 12) (v := ?_) (listed' := #[true, true, true, true, true, true, true, true, true, true, true, true, true, false, false, false, false]) (by rfl) (by kernel_rfl) (by kernel_rfl) calm_put hS (by rfl) ?_ ?_
  rotate_left
  · intro W hW; clear hW; go_simp; try (with_reducible rfl)
  simp only [Act.put, List.getElem_toArray, List.getElem_cons_succ, List.getElem_cons_zero, List.setIfInBounds_toArray, List.set_cons_zero, List.set_cons_succ]
  refine wpAnyE_take (i := 13) (v := ?_) (listed' := #[true, true, true, true, true, true, true, true, true, true, true, true, true, true, false, false, false]) (by rfl) (by kernel_rfl) (by kernel_rfl) calm_put hS (by rfl) ?_ ?_
  rotate_left
  · intro W hW; clear hW; go_simp; try (with_reducible rfl)
  simp only [Act.put, List.getElem_toArray, List.getElem_cons_succ, List.getElem_cons_zero, List.setIfInBounds_toArray, List.set_cons_zero, List.set_cons_succ]
  refine wpAnyE_one (i := 14) (listed' := #[true, true, true, true, true, true, true, true, true, true, true, true, true, true, true, false, false]) (by rfl) (by kernel_rfl) (by kernel_rfl) (by rfl) (fun K hK => ?_)
  simp only [Act.put, List.getElem_toArray, List.getElem_cons_succ, List.getElem_cons_zero, List.setIfInBounds_toArray, List.set_cons_zero, List.set_cons_succ]
  go_wp2_with fail
  refine Calls.mono (st_flush HB6.out HU3.out 1 (c := 0) (T' := T4) (by rw [HE4.out]) (by rw [HE4.out])) ?_
  rintro e w7 ⟨rfl, hb, hr⟩
  have HB7 := Lib.hid hb
  have hS := (⟨hS.1.same (hr X (.inl (.inr rfl))), hS.2.same (hr Y (.inr rfl))⟩ : _ ∧ _)
  clear hb hr
  refine hK _ _ (fun _ => hS) ?_; clear hK K
  refine wpAnyE_take (i := 15) (v := ?_) (listed' := #[true, true, true, true, true, true, true, true, true, true, true, true, true, true, true, true, false]) (by rfl) (by kernel_rfl) (by kernel_rfl) calm_put hS (by rfl) ?_ ?_
  rotate_left
  · intro W hW; clear hW; go_simp; try (with_reducible rfl)
  simp only [Act.put, List.getElem_toArray, List.getElem_cons_succ, List.getElem_cons_zero, List.setIfInBounds_toArray, List.set_cons_zero, List.set_cons_succ]
  refine wpAnyE_take (i := 16) (v := ?_) (listed' := #[true, true, true, true, true, true, true, true, true, true, true, true, true, true, true, true, true]) (by rfl) (by kernel_rfl) (by kernel_rfl) calm_put hS (by rfl) ?_ ?_
  rotate_left
  · intro W hW; clear hW; go_simp; try (with_reducible rfl)
  simp only [Act.put, List.getElem_toArray, List.getElem_cons_succ, List.getElem_cons_zero, List.setIfInBounds_toArray, List.set_cons_zero, List.set_cons_succ]
  refine wpAnyE_done (by kernel_rfl) ?_ _
  refine calm_normal ?_
  have HX7 := Lib.hid hS.1; have HY7 := Lib.hid hS.2
  clear hS HB4 HX4 HY4 HU0 HU1 HE2 HE3 HE4 HU2 HU3
  go_wp2_with fail
  refine Calls.mono (bk_Arm HB7.out (1 + (k : Int)) mask) ?_
  rintro e w8 ⟨rfl, hb, hr⟩
  have HB8 := Lib.hid hb
  have HX8 := Lib.hid (HX7.out.same (hr X (.inl (.inr rfl))))
  have HY8 := Lib.hid (HY7.out.same (hr Y (.inr rfl)))
  clear hb hr HB7 HX7 HY7
  generalize T4.arm (1 + (k : Int)) mask = T5 at *
  go_upto_region 10 with fail
  have hS : Pl w8.drew X 0 (a : Int) ∧ Pl w8.drew Y 1 ((11 - a : Nat) : Int) := ⟨HX8.out, HY8.out⟩
  refine wp_region_calm ?_
  refine wp_region_E (fun W => Pl W X 0 (a : Int) ∧ Pl W Y 1 ((11 - a : Nat) : Int)) 100 (by kernel_rfl) ?_
  refine wpAnyE_take (i := 0) (v := ?_) (listed' := #[true, false, false, false, false, false, false]) (by rfl) (by kernel_rfl) (by kernel_rfl) calm_put hS (by rfl) ?_ ?_
  rotate_left
  · intro W hW; clear hW; go_simp; try (with_reducible rfl)
  simp only [Act.put, List.getElem_toArray, List.getElem_cons_succ, List.getElem_cons_zero, List.setIfInBounds_toArray, List.set_cons_zero, List.set_cons_succ]
  refine wpAnyE_take (i := 1) (v := ?_) (listed' := #[true, true, false, false, false, false, false]) (by rfl) (by kernel_rfl) (by kernel_rfl) calm_put hS (by rfl) ?_ ?_
  rotate_left
  · intro W hW; obtain ⟨⟨p0, p1⟩, q0, q1⟩ := hW; go_simp; try (with_reducible rfl)
  simp only [Act.put, List.getElem_toArray, List.getElem_cons_succ, List.getElem_cons_zero, List.setIfInBounds_toArray, List.set_cons_zero, List.set_cons_succ]
  refine wpAnyE_take (i := 2) (v := ?_) (listed' := #[true, true, true, false, false, false, false]) (by rfl) (by kernel_rfl) (by kernel_rfl) calm_put hS (by rfl) ?_ ?_
  rotate_left
  · intro W hW; obtain ⟨⟨p0, p1⟩, q0, q1⟩ := hW; go_simp; try (with_reducible rfl)
  simp only [Act.put, List.getElem_toArray, List.getElem_cons_succ, List.getElem_cons_zero, List.setIfInBounds_toArray, List.set_cons_zero, List.set_cons_succ]
  refine wpAnyE_take (i := 3) (v := ?_) (listed' := #[true, true, true, true, false, false, false]) (by rfl) (by kernel_rfl) (by kernel_rfl) calm_put hS (by rfl) ?_ ?_
  rotate_left
  · intro W hW; clear hW; go_simp; try (with_reducible rfl)
  simp only [Act.put, List.getElem_toArray, List.getElem_cons_succ, List.getElem_cons_zero, List.setIfInBounds_toArray, List.set_cons_zero, List.set_cons_succ]
  refine wpAnyE_one (i := 4) (listed' := #[true, true, true, true, true, false, false]) (by rfl) (by kernel_rfl) (by kernel_rfl) (by rfl) (fun K hK => ?_)
  simp only [Act.put, List.getElem_toArray, List.getElem_cons_succ, List.getElem_cons_zero, List.setIfInBounds_toArray, List.set_cons_zero, List.set_cons_succ]
  go_wp2_with fail
  refine Calls.mono (m_sector m0 _) ?_
  rintro e w9 ⟨rfl, hks⟩
  have hS := (⟨hS.1.kept hks, hS.2.kept hks⟩ : _ ∧ _)
  refine hK _ _ (fun _ => hS) ?_; clear hK K
  refine wpAnyE_one (i := 5) (listed' := #[true, true, true, true, true, true, false]) (by rfl) (by kernel_rfl) (by kernel_rfl) (by rfl) (fun K hK => ?_)
  simp only [Act.put, List.getElem_toArray, List.getElem_cons_succ, List.getElem_cons_zero, List.setIfInBounds_toArray, List.set_cons_zero, List.set_cons_succ]
  go_wp2_with fail
  refine Calls.mono (m_WriteE (HB8.out.kept ((Kept.refl _).drew.trans hks)).1 HU5.out 0 (a : Int) 1 ((11 - a : Nat) : Int) (s := secN m0) (secN_len _) HU51.out HE6.out) ?_
  rintro e w10 ⟨rfl, hb, hr⟩
  have HB10 := Lib.hid hb
  have hS := (⟨hS.1.same (hr X (.inl (.inr rfl))), hS.2.same (hr Y (.inr rfl))⟩ : _ ∧ _)
  clear hb hr hks
  refine hK _ _ (fun _ => hS) ?_; clear hK K
  refine wpAnyE_one (i := 6) (listed' := #[true, true, true, true, true, true, true]) (by rfl) (by kernel_rfl) (by kernel_rfl) (by rfl) (fun K hK => ?_)
  simp only [Act.put, List.getElem_toArray, List.getElem_cons_succ, List.getElem_cons_zero, List.setIfInBounds_toArray, List.set_cons_zero, List.set_cons_succ]
  go_wp2
  refine hK _ _ (fun _ => hS) ?_; clear hK K
  refine wpAnyE_done (by kernel_rfl) ?_ _
  refine calm_normal ?_
  have HX10 := Lib.hid hS.1; have HY10 := Lib.hid hS.2
  obtain ⟨⟨p0, p1⟩, q0, q1⟩ := hS
  clear HB8 HX8 HY8 HU5 HU51 HE6
  go_wp2_with fail
  refine Calls.mono (m_ReadE HB10.out HU6.out 0 (a : Int) 1 ((11 - a : Nat) : Int) R6.out) ?_
  rintro e w11 ⟨rfl, hk⟩
  have HB11 := Lib.hid (HB10.out.kept hk).1
  have HX11 := Lib.hid (HX10.out.kept hk); have HY11 := Lib.hid (HY10.out.kept hk)
  clear hk HB10 HX10 HY10 p0 p1 q0 q1 R6
  go_wp2_with (refine stop_at (o := ⟨some 14, _, _, _, _, _⟩) ?_)
  refine Stop.mk ?_
  refine wpList_new_row rfl rfl _ _ rfl rfl ty_sec (u8s zeroB) zero_sec (by rw [u8s_length, zeroB_length]) (u8s zeroB) rfl (by rw [u8s_length, zeroB_length]) (u8s_one _) rfl ?_
  intro w12 hz hs hk
  have HB12 := Lib.hid (HB11.out.kept hk).1
  have HX12 := Lib.hid (HX11.out.kept hk); have HY12 := Lib.hid (HY11.out.kept hk)
  clear hz hs hk HB11 HX11 HY11
  obtain ⟨p0, p1⟩ := HX12.out
  obtain ⟨q0, q1⟩ := HY12.out
  go_wp2_with fail
  refine Calls.mono (m_AlikeE HB12.out HU6.out 0 (a : Int) 1 ((11 - a : Nat) : Int) A6.out) ?_
  rintro e w13 ⟨rfl, hb, hr⟩
  have HB13 := Lib.hid hb
  have HX13 := Lib.hid (HX12.out.same (hr X (.inl (.inr rfl)))); have HY13 := Lib.hid (HY12.out.same (hr Y (.inr rfl)))
  clear hb hr HB12 HX12 HY12 p0 p1 q0 q1 A6
  go_wp2_with fail
  refine Calls.mono (bk_Start HB13.out) ?_
  rintro e w14 ⟨rfl, hb, hr⟩
  have HB14 := Lib.hid hb
  have HX14 := Lib.hid (HX13.out.same (hr X (.inl (.inr rfl)))); have HY14 := Lib.hid (HY13.out.same (hr Y (.inr rfl)))
  clear hb hr HB13 HX13 HY13 HU6
  generalize T6.start = T7 at *
  obtain ⟨p0, p1⟩ := HX14.out
  go_wp2_with fail
  refine Calls.mono (st_read HB14.out HU7.out 0 (a : Int) R7.out) ?_
  rintro e w15 ⟨rfl, hb, hk⟩
  have HB15 := Lib.hid (HB14.out.kept hk).1
  have HX15 := Lib.hid (HX14.out.kept hk); have HY15 := Lib.hid (HY14.out.kept hk)
  clear hb hk HB14 HX14 HY14 p0 p1 R7
  go_wp2_with (refine stop_at (o := ⟨some 18, _, _, _, _, _⟩) ?_)
  refine Stop.mk ?_
  refine wpList_new_row rfl rfl _ _ rfl rfl ty_sec (u8s zeroB) zero_sec (by rw [u8s_length, zeroB_length]) (u8s s) rfl (by rw [u8s_length, LS.out]) (u8s_one _) rfl ?_
  intro w16 hz hs hk
  have HB16 := Lib.hid (HB15.out.kept hk).1
  have HX16 := Lib.hid (HX15.out.kept hk); have HY16 := Lib.hid (HY15.out.kept hk)
  have S16 := hz
  generalize w15.heap.size = Bs at *
  clear hz hs hk HB15 HX15 HY15
  obtain ⟨q0, q1⟩ := HY16.out
  go_wp2_with fail
  refine Calls.mono (st_read HB16.out HU7.out 1 ((11 - a : Nat) : Int) R8.out) ?_
  rintro e w17 ⟨rfl, hb, hk⟩
  have HB17 := Lib.hid (HB16.out.kept hk).1
  have HX17 := Lib.hid (HX16.out.kept hk); have HY17 := Lib.hid (HY16.out.kept hk)
  have S17 := Lib.hid (hk.block S16.out)
  clear hb hk HB16 HX16 HY16 S16 q0 q1 R8
  go_wp2_with (refine stop_at (o := ⟨some 20, _, _, _, _, _⟩) ?_)
  refine Stop.mk ?_
  refine wpList_new_row rfl rfl _ _ rfl rfl ty_sec (u8s zeroB) zero_sec (by rw [u8s_length, zeroB_length]) (u8s (secN n0)) rfl (by rw [u8s_length, secN_len]) (u8s_one _) rfl ?_
  intro w18 hz hs hk
  have HB18 := Lib.hid (HB17.out.kept hk).1
  have HX18 := Lib.hid (HX17.out.kept hk); have HY18 := Lib.hid (HY17.out.kept hk)
  have S18 := Lib.hid (hk.block S17.out)
  have Z18 := hz
  generalize w17.heap.size = Bt at *
  clear hz hs hk HB17 HX17 HY17 S17
  obtain ⟨p0, p1⟩ := HX18.out
  obtain ⟨q0, q1⟩ := HY18.out
  go_wp2_with fail
  refine Calls.mono (m_ReadE HB18.out HU7.out 0 (a : Int) 1 ((11 - a : Nat) : Int) R9.out) ?_
  rintro e w19 ⟨rfl, hk⟩
  have HK19 := Lib.hid (HB18.out.keeps.trans hk)
  have S19 := Lib.hid (hk.block S18.out); have Z19 := Lib.hid (hk.block Z18.out)
  clear hk HB18 HX18 HY18 S18 Z18 p0 p1 q0 q1 R9 HU7
  go_wp2_with (refine stop_at (o := ⟨some 22, _, _, _, _, _⟩) ?_)
  refine Stop.mk ?_
  refine wpList_new_row rfl rfl _ _ rfl rfl ty_sec (u8s zeroB) zero_sec (by rw [u8s_length, zeroB_length]) (u8s s) rfl (by rw [u8s_length, LS.out]) (u8s_one _) rfl ?_
  intro w20 hz hs hk
  have HK20 := Lib.hid (HK19.out.trans hk)
  have S20 := Lib.hid (hk.block S19.out); have Z20 := Lib.hid (hk.block Z19.out)
  have U20 := hz
  generalize w19.heap.size = Bu at *
  clear hz hs hk HK19 S19 Z19
  go_wp2_with (refine stop_at (o := ⟨some 122, _, _, _, _, _⟩) ?_)
  refine Stop.mk ?_
  refine wpList_load_aggW _ rfl ty_sec Bu 0 rfl (u8s s) (by simpa using Cells.of_block U20.out) (by rw [u8s_length, LS.out]) rfl ?_
  go_wp2_with (refine stop_at (o := ⟨some 123, _, _, _, _, _⟩) ?_)
  refine Stop.mk ?_
  refine wpList_load_aggW _ rfl ty_sec Bs 0 rfl (u8s s) (by simpa using Cells.of_block S20.out) (by rw [u8s_length, LS.out]) rfl ?_
  go_wp2_with (refine stop_at (o := ⟨some 124, _, _, _, _, _⟩) ?_)
  refine Stop.mk ?_
  refine wpList_neq_sec rfl _ _ rfl s s rfl rfl LS.out LS.out ?_
  rw [show (s == s) = true by simp]
  clear U20
  go_upto_region 19 with fail
  have hS : Kept w w20.drew ∧ Cells w20.drew Bs 0 (u8s s) ∧ Cells w20.drew Bt 0 (u8s (secN n0)) := ⟨HK20.out.drew, Cells.of_block S20.out, Cells.of_block Z20.out⟩
  have hd : ((s == secN n0) = true) ∨ ((s == secN n0) = false ∧ (s == secN m0) = true ∧ k = 1) := by
    by_cases e : s = secN n0
    · exact .inl (by simp [e])
    · obtain ⟨e1, e2⟩ := HSX.out.resolve_left e
      exact .inr ⟨by simpa using e, by simp [e1], e2⟩
  clear HK20 S20 Z20 HSX
  rcases hd with hb1 | ⟨hb1, hm1, hk1⟩
  · have hno : True := trivial
    refine wp_region_calm ?_
    refine wp_region_E (fun W => Kept w W ∧ Cells W Bs 0 (u8s s) ∧ Cells W Bt 0 (u8s (secN n0))) 100 (by kernel_rfl) ?_
    refine wpAnyE_take (i := 0) (v := ?_) (listed' := #[true, false, false, false, false, false, false, false, false, false, false, false, false, false, false, false, false, false, false, false, false, false, false, false, false]) (by rfl) (by kernel_rfl) (by kernel_rfl) calm_put hS (by rfl) ?_ ?_
    rotate_left
    · intro W hW; clear hW; go_simp; try (with_reducible rfl)
    simp only [Act.put, List.getElem_toArray, List.getElem_cons_succ, List.getElem_cons_zero, List.setIfInBounds_toArray, List.set_cons_zero, List.set_cons_succ]
    refine wpAnyE_take (i := 1) (v := ?_) (listed' := #[true, true, false, false, false, false, false, false, false, false, false, false, false, false, false, false, false, false, false, false, false, false, false, false, false]) (by rfl) (by kernel_rfl) (by kernel_rfl) calm_put hS (by rfl) ?_ ?_
    rotate_left
    · intro W hW; clear hW; go_simp; try (with_reducible rfl)
    simp only [Act.put, List.getElem_toArray, List.getElem_cons_succ, List.getElem_cons_zero, List.setIfInBounds_toArray, List.set_cons_zero, List.set_cons_succ]
    refine wpAnyE_take (i := 2) (v := .agg (u8s s).toArray) (listed' := #[true, true, true, false, false, false, false, false, false, false, false, false, false, false, false, false, false, false, false, false, false, false, false, false, false]) (by rfl) (by kernel_rfl) (by kernel_rfl) calm_put hS (by rfl) ?_ ?_
    · intro W hW; skip; exact exec_load_sec _ rfl Bs rfl s LS.out hW.2.1
    simp only [Act.put, List.getElem_toArray, List.getElem_cons_succ, List.getElem_cons_zero, List.setIfInBounds_toArray, List.set_cons_zero, List.set_cons_succ]
    refine wpAnyE_take (i := 3) (v := ?_) (listed' := #[true, true, true, true, false, false, false, false, false, false, false, false, false, false, false, false, false, false, false, false, false, false, false, false, false]) (by rfl) (by kernel_rfl) (by kernel_rfl) calm_put hS (by rfl) ?_ ?_
    rotate_left
    · intro W hW; clear hW; go_simp; try (with_reducible rfl)
    simp only [Act.put, List.getElem_toArray, List.getElem_cons_succ, List.getElem_cons_zero, List.setIfInBounds_toArray, List.set_cons_zero, List.set_cons_succ]
    refine wpAnyE_one (i := 4) (listed' := #[true, true, true, true, true, false, false, false, false, false, false, false, false, false, false, false, false, false, false, false, false, false, false, false, false]) (by rfl) (by kernel_rfl) (by kernel_rfl) (by rfl) (fun K hK => ?_)
    simp only [Act.put, List.getElem_toArray, List.getElem_cons_succ, List.getElem_cons_zero, List.setIfInBounds_toArray, List.set_cons_zero, List.set_cons_succ]
    go_wp2_with fail
    refine Calls.mono (m_sector n0 _) ?_
    rintro e wa ⟨rfl, hks⟩
    have hS := (⟨hS.1.trans hks, hS.2.1.kept hks, hS.2.2.kept hks⟩ : _ ∧ _ ∧ _)
    clear hks
    refine hK _ _ (fun _ => hS) ?_; clear hK K
    refine wpAnyE_take (i := 5) (v := .bool true) (listed' := #[true, true, true, true, true, true, false, false, false, false, false, false, false, false, false, false, false, false, false, false, false, false, false, false, false]) (by rfl) (by kernel_rfl) (by kernel_rfl) calm_put hS (by rfl) ?_ ?_
    · intro W hW; clear hW; exact exec_eq_secB _ _ rfl s (secN n0) LS.out (secN_len _) true hb1 rfl rfl
    simp only [Act.put, List.getElem_toArray, List.getElem_cons_succ, List.getElem_cons_zero, List.setIfInBounds_toArray, List.set_cons_zero, List.set_cons_succ]
    refine wpAnyE_take (i := 6) (v := ?_) (listed' := #[true, true, true, true, true, true, true, false, false, false, false, false, false, false, false, false, false, false, false, false, false, false, false, false, false]) (by rfl) (by kernel_rfl) (by kernel_rfl) calm_put hS (by rfl) ?_ ?_
    rotate_left
    · intro W hW; clear hW; go_simp; try (with_reducible rfl)
    simp only [Act.put, List.getElem_toArray, List.getElem_cons_succ, List.getElem_cons_zero, List.setIfInBounds_toArray, List.set_cons_zero, List.set_cons_succ]
    refine wpAnyE_skip (i := 7) (listed' := #[true, true, true, true, true, true, true, true, false, false, false, false, false, false, false, false, false, false, false, false, false, false, false, false, false]) (by rfl) (by kernel_rfl) (by kernel_rfl) calm_put hS (by rfl) ?_
    simp only [Act.put, List.getElem_toArray, List.getElem_cons_succ, List.getElem_cons_zero, List.setIfInBounds_toArray, List.set_cons_zero, List.set_cons_succ]
    refine wpAnyE_skip (i := 8) (listed' := #[true, true, true, true, true, true, true, true, true, false, false, false, false, false, false, false, false, false, false, false, false, false, false, false, false]) (by rfl) (by kernel_rfl) (by kernel_rfl) calm_put hS (by rfl) ?_
    simp only [Act.put, List.getElem_toArray, List.getElem_cons_succ, List.getElem_cons_zero, List.setIfInBounds_toArray, List.set_cons_zero, List.set_cons_succ]
    refine wpAnyE_none (i := 9) (listed' := #[true, true, true, true, true, true, true, true, true, true, false, false, false, false, false, false, false, false, false, false, false, false, false, false, false]) (by rfl) (by kernel_rfl) (by kernel_rfl) (by rfl) (fun _ => hS) ?_
    simp only [Act.put, List.getElem_toArray, List.getElem_cons_succ, List.getElem_cons_zero, List.setIfInBounds_toArray, List.set_cons_zero, List.set_cons_succ]
    refine wpAnyE_skip (i := 10) (listed' := #[true, true, true, true, true, true, true, true, true, true, true, false, false, false, false, false, false, false, false, false, false, false, false, false, false]) (by rfl) (by kernel_rfl) (by kernel_rfl) calm_put hS (by rfl) ?_
    simp only [Act.put, List.getElem_toArray, List.getElem_cons_succ, List.getElem_cons_zero, List.setIfInBounds_toArray, List.set_cons_zero, List.set_cons_succ]
    refine wpAnyE_skip (i := 11) (listed' := #[true, true, true, true, true, true, true, true, true, true, true, true, false, false, false, false, false, false, false, false, false, false, false, false, false]) (by rfl) (by kernel_rfl) (by kernel_rfl) calm_put hS (by rfl) ?_
    simp only [Act.put, List.getElem_toArray, List.getElem_cons_succ, List.getElem_cons_zero, List.setIfInBounds_toArray, List.set_cons_zero, List.set_cons_succ]
    refine wpAnyE_skip (i := 12) (listed' := #[true, true, true, true, true, true, true, true, true, true, true, true, true, false, false, false, false, false, false, false, false, false, false, false, false]) (by rfl) (by kernel_rfl) (by kernel_rfl) calm_put hS (by rfl) ?_
    simp only [Act.put, List.getElem_toArray, List.getElem_cons_succ, List.getElem_cons_zero, List.setIfInBounds_toArray, List.set_cons_zero, List.set_cons_succ]
    refine wpAnyE_skip (i := 13) (listed' := #[true, true, true, true, true, true, true, true, true, true, true, true, true, true, false, false, false, false, false, false, false, false, false, false, false]) (by rfl) (by kernel_rfl) (by kernel_rfl) calm_put hS (by rfl) ?_
    simp only [Act.put, List.getElem_toArray, List.getElem_cons_succ, List.getElem_cons_zero, List.setIfInBounds_toArray, List.set_cons_zero, List.set_cons_succ]
    refine wpAnyE_skip (i := 14) (listed' := #[true, true, true, true, true, true, true, true, true, true, true, true, true, true, true, false, false, false, false, false, false, false, false, false, false]) (by rfl) (by kernel_rfl) (by kernel_rfl) calm_put hS (by rfl) ?_
    simp only [Act.put, List.getElem_toArray, List.getElem_cons_succ, List.getElem_cons_zero, List.setIfInBounds_toArray, List.set_cons_zero, List.set_cons_succ]
    refine wpAnyE_skip (i := 15) (listed' := #[true, true, true, true, true, true, true, true, true, true, true, true, true, true, true, true, false, false, false, false, false, false, false, false, false]) (by rfl) (by kernel_rfl) (by kernel_rfl) calm_put hS (by rfl) ?_
    simp only [Act.put, List.getElem_toArray, List.getElem_cons_succ, List.getElem_cons_zero, List.setIfInBounds_toArray, List.set_cons_zero, List.set_cons_succ]
    refine wpAnyE_take (i := 16) (v := ?_) (listed' := #[true, true, true, true, true, true, true, true, true, true, true, true, true, true, true, true, true, false, false, false, false, false, false, false, false]) (by rfl) (by kernel_rfl) (by kernel_rfl) calm_put hS (by rfl) ?_ ?_
    rotate_left
    · intro W hW; clear hW; go_simp; try (with_reducible rfl)
    simp only [Act.put, List.getElem_toArray, List.getElem_cons_succ, List.getElem_cons_zero, List.setIfInBounds_toArray, List.set_cons_zero, List.set_cons_succ]
    refine wpAnyE_take (i := 17) (v := ?_) (listed' := #[true, true, true, true, true, true, true, true, true, true, true, true, true, true, true, true, true, true, false, false, false, false, false, false, false]) (by rfl) (by kernel_rfl) (by kernel_rfl) calm_put hS (by rfl) ?_ ?_
    rotate_left
    · intro W hW; clear hW; go_simp; try (with_reducible rfl)
    simp only [Act.put, List.getElem_toArray, List.getElem_cons_succ, List.getElem_cons_zero, List.setIfInBounds_toArray, List.set_cons_zero, List.set_cons_succ]
    refine wpAnyE_take (i := 18) (v := ?_) (listed' := #[true, true, true, true, true, true, true, true, true, true, true, true, true, true, true, true, true, true, true, false, false, false, false, false, false]) (by rfl) (by kernel_rfl) (by kernel_rfl) calm_put hS (by rfl) ?_ ?_
    rotate_left
    · intro W hW; clear hW; go_simp; try (with_reducible rfl)
    simp only [Act.put, List.getElem_toArray, List.getElem_cons_succ, List.getElem_cons_zero, List.setIfInBounds_toArray, List.set_cons_zero, List.set_cons_succ]
    refine wpAnyE_take (i := 19) (v := .agg (u8s (secN n0)).toArray) (listed' := #[true, true, true, true, true, true, true, true, true, true, true, true, true, true, true, true, true, true, true, true, false, false, false, false, false]) (by rfl) (by kernel_rfl) (by kernel_rfl) calm_put hS (by rfl) ?_ ?_
    · intro W hW; skip; exact exec_load_sec _ rfl Bt rfl (secN n0) (secN_len _) hW.2.2
    simp only [Act.put, List.getElem_toArray, List.getElem_cons_succ, List.getElem_cons_zero, List.setIfInBounds_toArray, List.set_cons_zero, List.set_cons_succ]
    refine wpAnyE_take (i := 20) (v := ?_) (listed' := #[true, true, true, true, true, true, true, true, true, true, true, true, true, true, true, true, true, true, true, true, true, false, false, false, false]) (by rfl) (by kernel_rfl) (by kernel_rfl) calm_put hS (by rfl) ?_ ?_
    rotate_left
    · intro W hW; clear hW; go_simp; try (with_reducible rfl)
    simp only [Act.put, List.getElem_toArray, List.getElem_cons_succ, List.getElem_cons_zero, List.setIfInBounds_toArray, List.set_cons_zero, List.set_cons_succ]
    refine wpAnyE_one (i := 21) (listed' := #[true, true, true, true, true, true, true, true, true, true, true, true, true, true, true, true, true, true, true, true, true, true, false, false, false]) (by rfl) (by kernel_rfl) (by kernel_rfl) (by rfl) (fun K hK => ?_)
    simp only [Act.put, List.getElem_toArray, List.getElem_cons_succ, List.getElem_cons_zero, List.setIfInBounds_toArray, List.set_cons_zero, List.set_cons_succ]
    go_wp2_with fail
    refine Calls.mono (m_sector n0 _) ?_
    rintro e wc ⟨rfl, hks⟩
    have hS := (⟨hS.1.trans hks, hS.2.1.kept hks, hS.2.2.kept hks⟩ : _ ∧ _ ∧ _)
    clear hks
    refine hK _ _ (fun _ => hS) ?_; clear hK K
    refine wpAnyE_take (i := 22) (v := .bool true) (listed' := #[true, true, true, true, true, true, true, true, true, true, true, true, true, true, true, true, true, true, true, true, true, true, true, false, false]) (by rfl) (by kernel_rfl) (by kernel_rfl) calm_put hS (by rfl) ?_ ?_
    · intro W hW; clear hW; exact exec_eq_secB _ _ rfl (secN n0) (secN n0) (secN_len _) (secN_len _) true (by simp) rfl rfl
    simp only [Act.put, List.getElem_toArray, List.getElem_cons_succ, List.getElem_cons_zero, List.setIfInBounds_toArray, List.set_cons_zero, List.set_cons_succ]
    refine wpAnyE_take (i := 23) (v := ?_) (listed' := #[true, true, true, true, true, true, true, true, true, true, true, true, true, true, true, true, true, true, true, true, true, true, true, true, false]) (by rfl) (by kernel_rfl) (by kernel_rfl) calm_put hS (by rfl) ?_ ?_
    rotate_left
    · intro W hW; clear hW; go_simp; try (with_reducible rfl)
    simp only [Act.put, List.getElem_toArray, List.getElem_cons_succ, List.getElem_cons_zero, List.setIfInBounds_toArray, List.set_cons_zero, List.set_cons_succ]
    refine wpAnyE_one (i := 24) (listed' := #[true, true, true, true, true, true, true, true, true, true, true, true, true, true, true, true, true, true, true, true, true, true, true, true, true]) (by rfl) (by kernel_rfl) (by kernel_rfl) (by rfl) (fun K hK => ?_)
    simp only [Act.put, List.getElem_toArray, List.getElem_cons_succ, List.getElem_cons_zero, List.setIfInBounds_toArray, List.set_cons_zero, List.set_cons_succ]
    go_wp2
    refine hK _ _ (fun _ => hS) ?_; clear hK K
    refine wpAnyE_done (by kernel_rfl) ?_ _
    refine calm_normal ?_
    go_wp2
    go_ret
    exact ⟨rfl, hS.1⟩
  · have hkk : bits .and .i64 m0 1 = 1 := by rw [hk, hk1]; rfl
    clear hk
    refine wp_region_calm ?_
    refine wp_region_E (fun W => Kept w W ∧ Cells W Bs 0 (u8s s) ∧ Cells W Bt 0 (u8s (secN n0))) 100 (by kernel_rfl) ?_
    refine wpAnyE_take (i := 0) (v := ?_) (listed' := #[true, false, false, false, false, false, false, false, false, false, false, false, false, false, false, false, false, false, false, false, false, false, false, false, false]) (by rfl) (by kernel_rfl) (by kernel_rfl) calm_put hS (by rfl) ?_ ?_
    rotate_left
    · intro W hW; clear hW; go_simp; try (with_reducible rfl)
    simp only [Act.put, List.getElem_toArray, List.getElem_cons_succ, List.getElem_cons_zero, List.setIfInBounds_toArray, List.set_cons_zero, List.set_cons_succ]
    refine wpAnyE_take (i := 1) (v := ?_) (listed' := #[true, true, false, false, false, false, false, false, false, false, false, false, false, false, false, false, false, false, false, false, false, false, false, false, false]) (by rfl) (by kernel_rfl) (by kernel_rfl) calm_put hS (by rfl) ?_ ?_
    rotate_left
    · intro W hW; clear hW; go_simp; try (with_reducible rfl)
    simp only [Act.put, List.getElem_toArray, List.getElem_cons_succ, List.getElem_cons_zero, List.setIfInBounds_toArray, List.set_cons_zero, List.set_cons_succ]
    refine wpAnyE_take (i := 2) (v := .agg (u8s s).toArray) (listed' := #[true, true, true, false, false, false, false, false, false, false, false, false, false, false, false, false, false, false, false, false, false, false, false, false, false]) (by rfl) (by kernel_rfl) (by kernel_rfl) calm_put hS (by rfl) ?_ ?_
    · intro W hW; skip; exact exec_load_sec _ rfl Bs rfl s LS.out hW.2.1
    simp only [Act.put, List.getElem_toArray, List.getElem_cons_succ, List.getElem_cons_zero, List.setIfInBounds_toArray, List.set_cons_zero, List.set_cons_succ]
    refine wpAnyE_take (i := 3) (v := ?_) (listed' := #[true, true, true, true, false, false, false, false, false, false, false, false, false, false, false, false, false, false, false, false, false, false, false, false, false]) (by rfl) (by kernel_rfl) (by kernel_rfl) calm_put hS (by rfl) ?_ ?_
    rotate_left
    · intro W hW; clear hW; go_simp; try (with_reducible rfl)
    simp only [Act.put, List.getElem_toArray, List.getElem_cons_succ, List.getElem_cons_zero, List.setIfInBounds_toArray, List.set_cons_zero, List.set_cons_succ]
    refine wpAnyE_one (i := 4) (listed' := #[true, true, true, true, true, false, false, false, false, false, false, false, false, false, false, false, false, false, false, false, false, false, false, false, false]) (by rfl) (by kernel_rfl) (by kernel_rfl) (by rfl) (fun K hK => ?_)
    simp only [Act.put, List.getElem_toArray, List.getElem_cons_succ, List.getElem_cons_zero, List.setIfInBounds_toArray, List.set_cons_zero, List.set_cons_succ]
    go_wp2_with fail
    refine Calls.mono (m_sector n0 _) ?_
    rintro e wa ⟨rfl, hks⟩
    have hS := (⟨hS.1.trans hks, hS.2.1.kept hks, hS.2.2.kept hks⟩ : _ ∧ _ ∧ _)
    clear hks
    refine hK _ _ (fun _ => hS) ?_; clear hK K
    refine wpAnyE_take (i := 5) (v := .bool false) (listed' := #[true, true, true, true, true, true, false, false, false, false, false, false, false, false, false, false, false, false, false, false, false, false, false, false, false]) (by rfl) (by kernel_rfl) (by kernel_rfl) calm_put hS (by rfl) ?_ ?_
    · intro W hW; clear hW; exact exec_eq_secB _ _ rfl s (secN n0) LS.out (secN_len _) false hb1 rfl rfl
    simp only [Act.put, List.getElem_toArray, List.getElem_cons_succ, List.getElem_cons_zero, List.setIfInBounds_toArray, List.set_cons_zero, List.set_cons_succ]
    refine wpAnyE_take (i := 6) (v := ?_) (listed' := #[true, true, true, true, true, true, true, false, false, false, false, false, false, false, false, false, false, false, false, false, false, false, false, false, false]) (by rfl) (by kernel_rfl) (by kernel_rfl) calm_put hS (by rfl) ?_ ?_
    rotate_left
    · intro W hW; clear hW; go_simp; try (with_reducible rfl)
    simp only [Act.put, List.getElem_toArray, List.getElem_cons_succ, List.getElem_cons_zero, List.setIfInBounds_toArray, List.set_cons_zero, List.set_cons_succ]
    refine wpAnyE_take (i := 7) (v := .agg (u8s s).toArray) (listed' := #[true, true, true, true, true, true, true, true, false, false, false, false, false, false, false, false, false, false, false, false, false, false, false, false, false]) (by rfl) (by kernel_rfl) (by kernel_rfl) calm_put hS (by rfl) ?_ ?_
    · intro W hW; skip; exact exec_load_sec _ rfl Bs rfl s LS.out hW.2.1
    simp only [Act.put, List.getElem_toArray, List.getElem_cons_succ, List.getElem_cons_zero, List.setIfInBounds_toArray, List.set_cons_zero, List.set_cons_succ]
    refine wpAnyE_take (i := 8) (v := ?_) (listed' := #[true, true, true, true, true, true, true, true, true, false, false, false, false, false, false, false, false, false, false, false, false, false, false, false, false]) (by rfl) (by kernel_rfl) (by kernel_rfl) calm_put hS (by rfl) ?_ ?_
    rotate_left
    · intro W hW; clear hW; go_simp; try (with_reducible rfl)
    simp only [Act.put, List.getElem_toArray, List.getElem_cons_succ, List.getElem_cons_zero, List.setIfInBounds_toArray, List.set_cons_zero, List.set_cons_succ]
    refine wpAnyE_one (i := 9) (listed' := #[true, true, true, true, true, true, true, true, true, true, false, false, false, false, false, false, false, false, false, false, false, false, false, false, false]) (by rfl) (by kernel_rfl) (by kernel_rfl) (by rfl) (fun K hK => ?_)
    simp only [Act.put, List.getElem_toArray, List.getElem_cons_succ, List.getElem_cons_zero, List.setIfInBounds_toArray, List.set_cons_zero, List.set_cons_succ]
    go_wp2_with fail
    refine Calls.mono (m_sector m0 _) ?_
    rintro e wb ⟨rfl, hks⟩
    have hS := (⟨hS.1.trans hks, hS.2.1.kept hks, hS.2.2.kept hks⟩ : _ ∧ _ ∧ _)
    clear hks
    refine hK _ _ (fun _ => hS) ?_; clear hK K
    refine wpAnyE_take (i := 10) (v := .bool true) (listed' := #[true, true, true, true, true, true, true, true, true, true, true, false, false, false, false, false, false, false, false, false, false, false, false, false, false]) (by rfl) (by kernel_rfl) (by kernel_rfl) calm_put hS (by rfl) ?_ ?_
    · intro W hW; clear hW; exact exec_eq_secB _ _ rfl s (secN m0) LS.out (secN_len _) true hm1 rfl rfl
    simp only [Act.put, List.getElem_toArray, List.getElem_cons_succ, List.getElem_cons_zero, List.setIfInBounds_toArray, List.set_cons_zero, List.set_cons_succ]
    refine wpAnyE_take (i := 11) (v := ?_) (listed' := #[true, true, true, true, true, true, true, true, true, true, true, true, false, false, false, false, false, false, false, false, false, false, false, false, false]) (by rfl) (by kernel_rfl) (by kernel_rfl) calm_put hS (by rfl) ?_ ?_
    rotate_left
    · intro W hW; clear hW; go_simp; try (with_reducible rfl)
    simp only [Act.put, List.getElem_toArray, List.getElem_cons_succ, List.getElem_cons_zero, List.setIfInBounds_toArray, List.set_cons_zero, List.set_cons_succ]
    refine wpAnyE_take (i := 12) (v := ?_) (listed' := #[true, true, true, true, true, true, true, true, true, true, true, true, true, false, false, false, false, false, false, false, false, false, false, false, false]) (by rfl) (by kernel_rfl) (by kernel_rfl) calm_put hS (by rfl) ?_ ?_
    rotate_left
    · intro W hW; clear hW; go_simp; try (with_reducible rfl)
    simp only [Act.put, List.getElem_toArray, List.getElem_cons_succ, List.getElem_cons_zero, List.setIfInBounds_toArray, List.set_cons_zero, List.set_cons_succ]
    refine wpAnyE_take (i := 13) (v := ?_) (listed' := #[true, true, true, true, true, true, true, true, true, true, true, true, true, true, false, false, false, false, false, false, false, false, false, false, false]) (by rfl) (by kernel_rfl) (by kernel_rfl) calm_put hS (by rfl) ?_ ?_
    rotate_left
    · intro W hW; clear hW; go_simp; try (with_reducible rfl)
    simp only [Act.put, List.getElem_toArray, List.getElem_cons_succ, List.getElem_cons_zero, List.setIfInBounds_toArray, List.set_cons_zero, List.set_cons_succ]
    refine wpAnyE_take (i := 14) (v := ?_) (listed' := #[true, true, true, true, true, true, true, true, true, true, true, true, true, true, true, false, false, false, false, false, false, false, false, false, false]) (by rfl) (by kernel_rfl) (by kernel_rfl) calm_put hS (by rfl) ?_ ?_
    rotate_left
    · intro W hW; clear hW; go_simp; try (with_reducible rfl)
    simp only [Act.put, List.getElem_toArray, List.getElem_cons_succ, List.getElem_cons_zero, List.setIfInBounds_toArray, List.set_cons_zero, List.set_cons_succ]
    refine wpAnyE_take (i := 15) (v := ?_) (listed' := #[true, true, true, true, true, true, true, true, true, true, true, true, true, true, true, true, false, false, false, false, false, false, false, false, false]) (by rfl) (by kernel_rfl) (by kernel_rfl) calm_put hS (by rfl) ?_ ?_
    rotate_left
    · intro W hW; clear hW; go_simp; try (with_reducible rfl)
    simp only [Act.put, List.getElem_toArray, List.getElem_cons_succ, List.getElem_cons_zero, List.setIfInBounds_toArray, List.set_cons_zero, List.set_cons_succ]
    refine wpAnyE_take (i := 16) (v := ?_) (listed' := #[true, true, true, true, true, true, true, true, true, true, true, true, true, true, true, true, true, false, false, false, false, false, false, false, false]) (by rfl) (by kernel_rfl) (by kernel_rfl) calm_put hS (by rfl) ?_ ?_
    rotate_left
    · intro W hW; clear hW; go_simp; try (with_reducible rfl)
    simp only [Act.put, List.getElem_toArray, List.getElem_cons_succ, List.getElem_cons_zero, List.setIfInBounds_toArray, List.set_cons_zero, List.set_cons_succ]
    refine wpAnyE_take (i := 17) (v := ?_) (listed' := #[true, true, true, true, true, true, true, true, true, true, true, true, true, true, true, true, true, true, false, false, false, false, false, false, false]) (by rfl) (by kernel_rfl) (by kernel_rfl) calm_put hS (by rfl) ?_ ?_
    rotate_left
    · intro W hW; clear hW; go_simp; try (with_reducible rfl)
    simp only [Act.put, List.getElem_toArray, List.getElem_cons_succ, List.getElem_cons_zero, List.setIfInBounds_toArray, List.set_cons_zero, List.set_cons_succ]
    refine wpAnyE_take (i := 18) (v := ?_) (listed' := #[true, true, true, true, true, true, true, true, true, true, true, true, true, true, true, true, true, true, true, false, false, false, false, false, false]) (by rfl) (by kernel_rfl) (by kernel_rfl) calm_put hS (by rfl) ?_ ?_
    rotate_left
    · intro W hW; clear hW; go_simp; try (with_reducible rfl)
    simp only [Act.put, List.getElem_toArray, List.getElem_cons_succ, List.getElem_cons_zero, List.setIfInBounds_toArray, List.set_cons_zero, List.set_cons_succ]
    refine wpAnyE_take (i := 19) (v := .agg (u8s (secN n0)).toArray) (listed' := #[true, true, true, true, true, true, true, true, true, true, true, true, true, true, true, true, true, true, true, true, false, false, false, false, false]) (by rfl) (by kernel_rfl) (by kernel_rfl) calm_put hS (by rfl) ?_ ?_
    · intro W hW; skip; exact exec_load_sec _ rfl Bt rfl (secN n0) (secN_len _) hW.2.2
    simp only [Act.put, List.getElem_toArray, List.getElem_cons_succ, List.getElem_cons_zero, List.setIfInBounds_toArray, List.set_cons_zero, List.set_cons_succ]
    refine wpAnyE_take (i := 20) (v := ?_) (listed' := #[true, true, true, true, true, true, true, true, true, true, true, true, true, true, true, true, true, true, true, true, true, false, false, false, false]) (by rfl) (by kernel_rfl) (by kernel_rfl) calm_put hS (by rfl) ?_ ?_
    rotate_left
    · intro W hW; clear hW; go_simp; try (with_reducible rfl)
    simp only [Act.put, List.getElem_toArray, List.getElem_cons_succ, List.getElem_cons_zero, List.setIfInBounds_toArray, List.set_cons_zero, List.set_cons_succ]
    refine wpAnyE_one (i := 21) (listed' := #[true, true, true, true, true, true, true, true, true, true, true, true, true, true, true, true, true, true, true, true, true, true, false, false, false]) (by rfl) (by kernel_rfl) (by kernel_rfl) (by rfl) (fun K hK => ?_)
    simp only [Act.put, List.getElem_toArray, List.getElem_cons_succ, List.getElem_cons_zero, List.setIfInBounds_toArray, List.set_cons_zero, List.set_cons_succ]
    go_wp2_with fail
    refine Calls.mono (m_sector n0 _) ?_
    rintro e wc ⟨rfl, hks⟩
    have hS := (⟨hS.1.trans hks, hS.2.1.kept hks, hS.2.2.kept hks⟩ : _ ∧ _ ∧ _)
    clear hks
    refine hK _ _ (fun _ => hS) ?_; clear hK K
    refine wpAnyE_take (i := 22) (v := .bool true) (listed' := #[true, true, true, true, true, true, true, true, true, true, true, true, true, true, true, true, true, true, true, true, true, true, true, false, false]) (by rfl) (by kernel_rfl) (by kernel_rfl) calm_put hS (by rfl) ?_ ?_
    · intro W hW; clear hW; exact exec_eq_secB _ _ rfl (secN n0) (secN n0) (secN_len _) (secN_len _) true (by simp) rfl rfl
    simp only [Act.put, List.getElem_toArray, List.getElem_cons_succ, List.getElem_cons_zero, List.setIfInBounds_toArray, List.set_cons_zero, List.set_cons_succ]
    refine wpAnyE_take (i := 23) (v := ?_) (listed' := #[true, true, true, true, true, true, true, true, true, true, true, true, true, true, true, true, true, true, true, true, true, true, true, true, false]) (by rfl) (by kernel_rfl) (by kernel_rfl) calm_put hS (by rfl) ?_ ?_
    rotate_left
    · intro W hW; clear hW; go_simp; try (with_reducible rfl)
    simp only [Act.put, List.getElem_toArray, List.getElem_cons_succ, List.getElem_cons_zero, List.setIfInBounds_toArray, List.set_cons_zero, List.set_cons_succ]
    refine wpAnyE_one (i := 24) (listed' := #[true, true, true, true, true, true, true, true, true, true, true, true, true, true, true, true, true, true, true, true, true, true, true, true, true]) (by rfl) (by kernel_rfl) (by kernel_rfl) (by rfl) (fun K hK => ?_)
    simp only [Act.put, List.getElem_toArray, List.getElem_cons_succ, List.getElem_cons_zero, List.setIfInBounds_toArray, List.set_cons_zero, List.set_cons_succ]
    go_wp2
    refine hK _ _ (fun _ => hS) ?_; clear hK K
    refine wpAnyE_done (by kernel_rfl) ?_ _
    refine calm_normal ?_
    go_wp2
    go_ret
    exact ⟨rfl, hS.1⟩
end
end Go.Proofs.Ytcbghpcohbgcjaa
