/- LabelTells: the walk. -/
import Derived.Test.YtpnpconphpbcaaaRfe
import Derived.Test.YtpnpconphpbcaaaLabK
namespace Go.Proofs.Ytpnpconphpbcaaa
open Go.RowKit
set_option linter.unusedVariables false
set_option linter.unusedSimpArgs false

theorem putSec_length (l : Lab) (h : l.ms.length ≤ 20) : (putSec l).length = 64 := by
  unfold putSec
  split
  · rename_i hr
    exact Lab.sec_length l (by simp only [rightB, headB, inB, Bool.and_eq_true, decide_eq_true_eq] at hr; omega)
  · exact zeroB_length
theorem ofLab_len (bs : List Int) : (ofLab bs).ms.length ≤ 9223372036854775807 := by
  unfold ofLab
  split
  · rename_i h
    simp only [ofOk, ofHead, Bool.and_eq_true, decide_eq_true_eq] at h
    simp only [parse, parseMs_length]; omega
  · simp [Lab.zero]

attribute [local go_sem ↓] Go.wp_at_zero Go.wp_at_succ
set_option maxHeartbeats 2000000 in
set_option maxRecDepth 100000 in
theorem law_tells (l : Lab) (oa0 : Option Addr) (n0 cap0 : Nat) (bs : List Int) (w : World) (hs : MSrc w (.slice oa0 n0 cap0) l.ms) (hb : ∀ x ∈ bs, IsByte x) (hl : bs.length = 64) :
    Calls Try.prog 3 #[l.val (.slice oa0 n0 cap0), secV bs] w fun e w' => e = .returned (.bool true) ∧ Kept w w' := by
  have HCUT := Lib.hid fun (W : World) (hk : Kept w W) => (law_cut l oa0 n0 cap0 W (hs.kept hk)).mono (fun e w' ⟨sl, h1, h2, h3, _⟩ => (⟨sl, h1, h2, h3⟩ : ∃ sl, e = Ending.returned (l.cut.val sl) ∧ MSl w' sl (l.ms.take 20) ∧ Kept W w'))
  have hms : l.cut.ms = l.ms.take 20 := rfl
  have hn : l.cut.ms.length ≤ 20 := by rw [hms]; simp; omega
  rw [← hms] at HCUT
  have HPut := Lib.hid fun sl (W : World) (hm : MSl W sl l.cut.ms) => label_Put l.cut sl W (by omega) hm
  have HRPut := Lib.hid fun sl (W : World) (hm : MSl W sl l.cut.ms) => ref_LPut l.cut sl W (by omega) hm
  have HR := Lib.hid fun sl (W : World) (hm : MSl W sl l.cut.ms) => label_Right l.cut sl W (by omega) hm
  have HRR := Lib.hid fun sl (W : World) (hm : MSl W sl l.cut.ms) => ref_Right l.cut sl W (by omega) hm
  have HSm := Lib.hid fun s1 s2 (W : World) (h1 : MSl W s1 l.cut.ms) (h2 : MSl W s2 l.cut.ms) => same_labels l.cut s1 s2 W (by omega) h1 h2
  have HSL := Lib.hid (putSec_length l.cut hn)
  have HOf := Lib.hid fun (W : World) => (label_Of bs W hb hl).mono fun e w' h => h.tells
  have HROf := Lib.hid fun (W : World) => (ref_Of bs W hb hl).mono fun e w' h => h.tells
  have HSo := Lib.hid fun s1 s2 (W : World) (h1 : MSl W s1 (ofLab bs).ms) (h2 : MSl W s2 (ofLab bs).ms) => same_labels (ofLab bs) s1 s2 W (ofLab_len bs) h1 h2
  have hq := run_equal_secA (putSec l.cut) (putSec l.cut) (putSec_length l.cut hn) (putSec_length l.cut hn)
  rw [show (putSec l.cut == putSec l.cut) = true by simp] at hq
  have HQ := Lib.hid hq; clear hq
  have HBL := Lib.hid hl; clear hl
  have HEQG := Lib.hid eqg_sec
  clear hb hs hn hms
  generalize putSec l.cut = sc at *
  generalize putErr l.cut = er at *
  generalize rightB l.cut = rb at *
  generalize l.cut = lc at *
  generalize ofLab bs = lo at *
  generalize ofErr bs = eo at *
  obtain ⟨array, gen, member, blocks, ms0⟩ := l
  simp only [Lab.val, secV] at HCUT HPut HRPut HOf HROf ⊢
  go_enter Try.func3, Try.ntmps3
  go_wp2_with fail
  refine (law_shown _).mono ?_
  rintro e w1 ⟨rfl, hk1⟩
  have HB0 : Hid (Cells w1 w.heap.size 0 [.int .i64 array, .int .i64 gen, .int .i64 member, .int .i64 blocks, .slice oa0 n0 cap0]) := Lib.hid ((Cells.of_block (((Kept.refl _).alloc _).block (heap_alloc_new w (.cells #[.int .i64 array, .int .i64 gen, .int .i64 member, .int .i64 blocks, .slice oa0 n0 cap0] 24)))).kept hk1)
  have HBS : Hid (Cells w1 (w.heap.size + 1) 0 (u8s bs)) := Lib.hid (by
    have := heap_alloc_new (w.alloc (.cells #[.int .i64 array, .int .i64 gen, .int .i64 member, .int .i64 blocks, .slice oa0 n0 cap0] 24)) (.cells (u8s bs).toArray 26)
    rw [World.size_alloc] at this
    exact (Cells.of_block this).kept hk1)
  have K : Kept w w1 := (((Kept.refl w).alloc _).alloc _).trans hk1
  go_wp2_with (refine stop_at (o := ⟨some 18, _, _, _, _, _⟩) ?_)
  refine Stop.mk ?_
  refine wpList_load_agg rfl _ rfl ty_lab w.heap.size 0 rfl [.int .i64 array, .int .i64 gen, .int .i64 member, .int .i64 blocks, .slice oa0 n0 cap0] HB0.out rfl ?_
  go_wp2_with fail
  refine Calls.mono (HCUT.out _ K) ?_
  rintro e w2 ⟨sl, rfl, hm2, hk2⟩
  replace K := K.trans hk2
  replace HB0 := Lib.hid (HB0.out.kept hk2)
  replace HBS := Lib.hid (HBS.out.kept hk2)
  have HM := Lib.hid hm2; clear hm2
  go_wp2_with (refine stop_at (o := ⟨some 6, _, _, _, _, _⟩) ?_)
  refine Stop.mk ?_
  refine wpList_new_agg rfl rfl _ _ rfl rfl ty_lab [.int .i64 0, .int .i64 0, .int .i64 0, .int .i64 0, .slice none 0 0] zero_lab rfl (Lab.vals lc sl) rfl rfl (lab_one lc sl HM.out.one) rfl ?_
  intro w3 hz3 hs3 hk3
  replace K := K.trans hk3
  replace HB0 := Lib.hid (HB0.out.kept hk3)
  replace HBS := Lib.hid (HBS.out.kept hk3)
  replace HM := Lib.hid (HM.out.kept hk3)
  have HO : Hid (Cells w3 w2.heap.size 0 (Lab.vals lc sl)) := Lib.hid (Cells.of_block hz3.out)
  go_wp2_with (refine stop_at (o := ⟨some 21, _, _, _, _, _⟩) ?_)
  refine Stop.mk ?_
  refine wpList_load_agg rfl _ rfl ty_lab w2.heap.size 0 rfl (Lab.vals lc sl) HO.out rfl ?_
  go_wp2_with fail
  refine Calls.mono (HPut.out _ _ HM.out) ?_
  rintro e w4 ⟨rfl, hk4⟩
  replace K := K.trans hk4
  replace HB0 := Lib.hid (HB0.out.kept hk4)
  replace HBS := Lib.hid (HBS.out.kept hk4)
  replace HM := Lib.hid (HM.out.kept hk4)
  replace HO := Lib.hid (HO.out.kept hk4)
  go_wp2_with (refine stop_at (o := ⟨some 7, _, _, _, _, _⟩) ?_)
  refine Stop.mk ?_
  refine wpList_new_agg rfl rfl _ _ rfl rfl ty_sec (u8s zeroB) zero_sec (by simp [u8s_length, zeroB_length]) (u8s sc) rfl (by rw [u8s_length, HSL.out]) (u8s_one _) rfl ?_
  intro w5 hz5 hs5 hk5
  replace K := K.trans hk5
  replace HB0 := Lib.hid (HB0.out.kept hk5)
  replace HBS := Lib.hid (HBS.out.kept hk5)
  replace HM := Lib.hid (HM.out.kept hk5)
  replace HO := Lib.hid (HO.out.kept hk5)
  have HX : Hid (Cells w5 w4.heap.size 0 (u8s sc)) := Lib.hid (Cells.of_block hz5.out)
  go_wp2_with (refine stop_at (o := ⟨some 26, _, _, _, _, _⟩) ?_)
  refine Stop.mk ?_
  refine wpList_load_agg rfl _ rfl ty_lab w.heap.size 0 rfl [.int .i64 array, .int .i64 gen, .int .i64 member, .int .i64 blocks, .slice oa0 n0 cap0] HB0.out rfl ?_
  go_wp2_with fail
  refine Calls.mono (HCUT.out _ K) ?_
  rintro e w6 ⟨sl6, rfl, hm6, hk6⟩
  replace K := K.trans hk6
  replace HB0 := Lib.hid (HB0.out.kept hk6)
  replace HBS := Lib.hid (HBS.out.kept hk6)
  replace HM := Lib.hid (HM.out.kept hk6)
  replace HO := Lib.hid (HO.out.kept hk6)
  replace HX := Lib.hid (HX.out.kept hk6)
  have HM6 := Lib.hid hm6; clear hm6
  go_wp2_with fail
  refine Calls.mono (HRPut.out _ _ HM6.out) ?_
  rintro e w7 ⟨rfl, hk7⟩
  replace K := K.trans hk7
  replace HB0 := Lib.hid (HB0.out.kept hk7)
  replace HBS := Lib.hid (HBS.out.kept hk7)
  replace HM := Lib.hid (HM.out.kept hk7)
  replace HO := Lib.hid (HO.out.kept hk7)
  replace HX := Lib.hid (HX.out.kept hk7)
  replace HM6 := Lib.hid (HM6.out.kept hk7)
  go_wp2_with (refine stop_at (o := ⟨some 9, _, _, _, _, _⟩) ?_)
  refine Stop.mk ?_
  refine wpList_new_agg rfl rfl _ _ rfl rfl ty_sec (u8s zeroB) zero_sec (by simp [u8s_length, zeroB_length]) (u8s sc) rfl (by rw [u8s_length, HSL.out]) (u8s_one _) rfl ?_
  intro w8 hz8 hs8 hk8
  replace K := K.trans hk8
  replace HB0 := Lib.hid (HB0.out.kept hk8)
  replace HBS := Lib.hid (HBS.out.kept hk8)
  replace HM := Lib.hid (HM.out.kept hk8)
  replace HO := Lib.hid (HO.out.kept hk8)
  replace HX := Lib.hid (HX.out.kept hk8)
  replace HM6 := Lib.hid (HM6.out.kept hk8)
  have HY : Hid (Cells w8 w7.heap.size 0 (u8s sc)) := Lib.hid (Cells.of_block hz8.out)
  go_wp2_with (refine stop_at (o := ⟨some 32, _, _, _, _, _⟩) ?_)
  refine Stop.mk ?_
  refine wpList_load_agg rfl _ rfl ty_sec (w.heap.size + 1) 0 rfl (u8s bs) HBS.out (by rw [u8s_length, HBL.out]) ?_
  go_wp2_with fail
  refine Calls.mono (HOf.out _) ?_
  rintro e w9 ⟨sl9, rfl, hm9, hk9⟩
  replace K := K.trans hk9
  replace HB0 := Lib.hid (HB0.out.kept hk9)
  replace HBS := Lib.hid (HBS.out.kept hk9)
  replace HM := Lib.hid (HM.out.kept hk9)
  replace HO := Lib.hid (HO.out.kept hk9)
  replace HX := Lib.hid (HX.out.kept hk9)
  replace HM6 := Lib.hid (HM6.out.kept hk9)
  replace HY := Lib.hid (HY.out.kept hk9)
  have HM9 := Lib.hid hm9; clear hm9
  go_wp2_with (refine stop_at (o := ⟨some 11, _, _, _, _, _⟩) ?_)
  refine Stop.mk ?_
  refine wpList_new_agg rfl rfl _ _ rfl rfl ty_lab [.int .i64 0, .int .i64 0, .int .i64 0, .int .i64 0, .slice none 0 0] zero_lab rfl (Lab.vals lo sl9) rfl rfl (lab_one lo sl9 HM9.out.one) rfl ?_
  intro w10 hz10 hs10 hk10
  replace K := K.trans hk10
  replace HB0 := Lib.hid (HB0.out.kept hk10)
  replace HBS := Lib.hid (HBS.out.kept hk10)
  replace HM := Lib.hid (HM.out.kept hk10)
  replace HO := Lib.hid (HO.out.kept hk10)
  replace HX := Lib.hid (HX.out.kept hk10)
  replace HM6 := Lib.hid (HM6.out.kept hk10)
  replace HY := Lib.hid (HY.out.kept hk10)
  replace HM9 := Lib.hid (HM9.out.kept hk10)
  have HA : Hid (Cells w10 w9.heap.size 0 (Lab.vals lo sl9)) := Lib.hid (Cells.of_block hz10.out)
  go_wp2_with (refine stop_at (o := ⟨some 37, _, _, _, _, _⟩) ?_)
  refine Stop.mk ?_
  refine wpList_load_agg rfl _ rfl ty_sec (w.heap.size + 1) 0 rfl (u8s bs) HBS.out (by rw [u8s_length, HBL.out]) ?_
  go_wp2_with fail
  refine Calls.mono (HROf.out _) ?_
  rintro e w11 ⟨sl11, rfl, hm11, hk11⟩
  replace K := K.trans hk11
  replace HB0 := Lib.hid (HB0.out.kept hk11)
  replace HBS := Lib.hid (HBS.out.kept hk11)
  replace HM := Lib.hid (HM.out.kept hk11)
  replace HO := Lib.hid (HO.out.kept hk11)
  replace HX := Lib.hid (HX.out.kept hk11)
  replace HM6 := Lib.hid (HM6.out.kept hk11)
  replace HY := Lib.hid (HY.out.kept hk11)
  replace HM9 := Lib.hid (HM9.out.kept hk11)
  replace HA := Lib.hid (HA.out.kept hk11)
  have HM11 := Lib.hid hm11; clear hm11
  go_wp2_with (refine stop_at (o := ⟨some 13, _, _, _, _, _⟩) ?_)
  refine Stop.mk ?_
  refine wpList_new_agg rfl rfl _ _ rfl rfl ty_lab [.int .i64 0, .int .i64 0, .int .i64 0, .int .i64 0, .slice none 0 0] zero_lab rfl (Lab.vals lo sl11) rfl rfl (lab_one lo sl11 HM11.out.one) rfl ?_
  intro w12 hz12 hs12 hk12
  replace K := K.trans hk12
  replace HB0 := Lib.hid (HB0.out.kept hk12)
  replace HBS := Lib.hid (HBS.out.kept hk12)
  replace HM := Lib.hid (HM.out.kept hk12)
  replace HO := Lib.hid (HO.out.kept hk12)
  replace HX := Lib.hid (HX.out.kept hk12)
  replace HM6 := Lib.hid (HM6.out.kept hk12)
  replace HY := Lib.hid (HY.out.kept hk12)
  replace HM9 := Lib.hid (HM9.out.kept hk12)
  replace HA := Lib.hid (HA.out.kept hk12)
  replace HM11 := Lib.hid (HM11.out.kept hk12)
  have HBB : Hid (Cells w12 w11.heap.size 0 (Lab.vals lo sl11)) := Lib.hid (Cells.of_block hz12.out)
  go_wp2_with (refine stop_at (o := ⟨some 41, _, _, _, _, _⟩) ?_)
  refine Stop.mk ?_
  refine wpList_load_agg rfl _ rfl ty_lab w9.heap.size 0 rfl (Lab.vals lo sl9) HA.out rfl ?_
  go_wp2_with (refine stop_at (o := ⟨some 42, _, _, _, _, _⟩) ?_)
  refine Stop.mk ?_
  refine wpList_load_agg rfl _ rfl ty_lab w11.heap.size 0 rfl (Lab.vals lo sl11) HBB.out rfl ?_
  go_wp2_with fail
  refine Calls.mono (HSo.out _ _ _ HM9.out HM11.out) ?_
  rintro e w13 ⟨rfl, hk13⟩
  replace K := K.trans hk13
  replace HB0 := Lib.hid (HB0.out.kept hk13)
  replace HBS := Lib.hid (HBS.out.kept hk13)
  replace HM := Lib.hid (HM.out.kept hk13)
  replace HO := Lib.hid (HO.out.kept hk13)
  replace HX := Lib.hid (HX.out.kept hk13)
  replace HM6 := Lib.hid (HM6.out.kept hk13)
  replace HY := Lib.hid (HY.out.kept hk13)
  replace HM9 := Lib.hid (HM9.out.kept hk13)
  replace HA := Lib.hid (HA.out.kept hk13)
  replace HM11 := Lib.hid (HM11.out.kept hk13)
  replace HBB := Lib.hid (HBB.out.kept hk13)
  go_upto_region 8 with fail
  replace K := K.trans ((Kept.refl _).drew)
  replace HB0 := Lib.hid (HB0.out.kept ((Kept.refl _).drew))
  replace HBS := Lib.hid (HBS.out.kept ((Kept.refl _).drew))
  replace HM := Lib.hid (HM.out.kept ((Kept.refl _).drew))
  replace HO := Lib.hid (HO.out.kept ((Kept.refl _).drew))
  replace HX := Lib.hid (HX.out.kept ((Kept.refl _).drew))
  replace HM6 := Lib.hid (HM6.out.kept ((Kept.refl _).drew))
  replace HY := Lib.hid (HY.out.kept ((Kept.refl _).drew))
  replace HM9 := Lib.hid (HM9.out.kept ((Kept.refl _).drew))
  replace HA := Lib.hid (HA.out.kept ((Kept.refl _).drew))
  replace HM11 := Lib.hid (HM11.out.kept ((Kept.refl _).drew))
  replace HBB := Lib.hid (HBB.out.kept ((Kept.refl _).drew))
  have hS := (⟨HO.out, HB0.out⟩ : _ ∧ _)
  refine wp_region_calm ?_
  refine wp_region_E (fun W => Cells W w2.heap.size 0 (Lab.vals lc sl) ∧ Cells W w.heap.size 0 [.int .i64 array, .int .i64 gen, .int .i64 member, .int .i64 blocks, .slice oa0 n0 cap0]) 100 (by kernel_rfl) ?_
  refine wpAnyE_take (i := 0) (v := .agg (Lab.vals lc sl).toArray) (listed' := #[true, false, false, false, false]) (by rfl) (by kernel_rfl) (by kernel_rfl) calm_put hS (by rfl) ?_ ?_
  · intro W hW; skip; exact run_load_agg (.tmp 6) rfl ty_lab w2.heap.size 0 rfl _ hW.1 rfl
  simp only [Act.put, List.getElem_toArray, List.getElem_cons_succ, List.getElem_cons_zero, List.setIfInBounds_toArray, List.set_cons_zero, List.set_cons_succ]
  refine wpAnyE_take (i := 1) (v := .agg #[.int .i64 array, .int .i64 gen, .int .i64 member, .int .i64 blocks, .slice oa0 n0 cap0]) (listed' := #[true, true, false, false, false]) (by rfl) (by kernel_rfl) (by kernel_rfl) calm_put hS (by rfl) ?_ ?_
  · intro W hW; skip; exact run_load_agg (.tmp 2) rfl ty_lab w.heap.size 0 rfl _ hW.2 rfl
  simp only [Act.put, List.getElem_toArray, List.getElem_cons_succ, List.getElem_cons_zero, List.setIfInBounds_toArray, List.set_cons_zero, List.set_cons_succ]
  refine wpAnyE_one (i := 2) (listed' := #[true, true, true, false, false]) (by rfl) (by kernel_rfl) (by kernel_rfl) (by rfl) (fun K0 hK => ?_)
  simp only [Act.put, List.getElem_toArray, List.getElem_cons_succ, List.getElem_cons_zero, List.setIfInBounds_toArray, List.set_cons_zero, List.set_cons_succ]
  go_wp2_with fail
  refine Calls.mono (HCUT.out _ K) ?_
  rintro e w14 ⟨sl14, rfl, hm14, hk14⟩
  replace K := K.trans hk14
  replace HB0 := Lib.hid (HB0.out.kept hk14)
  replace HBS := Lib.hid (HBS.out.kept hk14)
  replace HM := Lib.hid (HM.out.kept hk14)
  replace HO := Lib.hid (HO.out.kept hk14)
  replace HX := Lib.hid (HX.out.kept hk14)
  replace HM6 := Lib.hid (HM6.out.kept hk14)
  replace HY := Lib.hid (HY.out.kept hk14)
  replace HM9 := Lib.hid (HM9.out.kept hk14)
  replace HA := Lib.hid (HA.out.kept hk14)
  replace HM11 := Lib.hid (HM11.out.kept hk14)
  replace HBB := Lib.hid (HBB.out.kept hk14)
  have HM14 := Lib.hid hm14; clear hm14
  have hS := (⟨HO.out, HB0.out⟩ : _ ∧ _)
  refine hK _ _ (fun _ => hS) ?_; clear hK K0
  refine wpAnyE_one (i := 3) (listed' := #[true, true, true, true, false]) (by rfl) (by kernel_rfl) (by kernel_rfl) (by rfl) (fun K0 hK => ?_)
  simp only [Act.put, List.getElem_toArray, List.getElem_cons_succ, List.getElem_cons_zero, List.setIfInBounds_toArray, List.set_cons_zero, List.set_cons_succ]
  go_wp2_with fail
  refine Calls.mono (HSm.out _ _ _ HM.out HM14.out) ?_
  rintro e w15 ⟨rfl, hk15⟩
  replace K := K.trans hk15
  replace HB0 := Lib.hid (HB0.out.kept hk15)
  replace HBS := Lib.hid (HBS.out.kept hk15)
  replace HM := Lib.hid (HM.out.kept hk15)
  replace HO := Lib.hid (HO.out.kept hk15)
  replace HX := Lib.hid (HX.out.kept hk15)
  replace HM6 := Lib.hid (HM6.out.kept hk15)
  replace HY := Lib.hid (HY.out.kept hk15)
  replace HM9 := Lib.hid (HM9.out.kept hk15)
  replace HA := Lib.hid (HA.out.kept hk15)
  replace HM11 := Lib.hid (HM11.out.kept hk15)
  replace HBB := Lib.hid (HBB.out.kept hk15)
  replace HM14 := Lib.hid (HM14.out.kept hk15)
  have hS := (⟨HO.out, HB0.out⟩ : _ ∧ _)
  refine hK _ _ (fun _ => hS) ?_; clear hK K0
  refine wpAnyE_one (i := 4) (listed' := #[true, true, true, true, true]) (by rfl) (by kernel_rfl) (by kernel_rfl) (by rfl) (fun K0 hK => ?_)
  simp only [Act.put, List.getElem_toArray, List.getElem_cons_succ, List.getElem_cons_zero, List.setIfInBounds_toArray, List.set_cons_zero, List.set_cons_succ]
  go_wp2
  refine hK _ _ (fun _ => hS) ?_; clear hK K0
  refine wpAnyE_done (by kernel_rfl) ?_ _
  refine calm_normal ?_
  go_upto_region 9 with fail
  replace K := K.trans ((Kept.refl _).drew)
  replace HB0 := Lib.hid (HB0.out.kept ((Kept.refl _).drew))
  replace HBS := Lib.hid (HBS.out.kept ((Kept.refl _).drew))
  replace HM := Lib.hid (HM.out.kept ((Kept.refl _).drew))
  replace HO := Lib.hid (HO.out.kept ((Kept.refl _).drew))
  replace HX := Lib.hid (HX.out.kept ((Kept.refl _).drew))
  replace HM6 := Lib.hid (HM6.out.kept ((Kept.refl _).drew))
  replace HY := Lib.hid (HY.out.kept ((Kept.refl _).drew))
  replace HM9 := Lib.hid (HM9.out.kept ((Kept.refl _).drew))
  replace HA := Lib.hid (HA.out.kept ((Kept.refl _).drew))
  replace HM11 := Lib.hid (HM11.out.kept ((Kept.refl _).drew))
  replace HBB := Lib.hid (HBB.out.kept ((Kept.refl _).drew))
  replace HM14 := Lib.hid (HM14.out.kept ((Kept.refl _).drew))
  have hS := (⟨HX.out, HY.out, HO.out, HB0.out⟩ : _ ∧ _ ∧ _ ∧ _)
  have hq := HQ.out
  have heqg := HEQG.out
  refine wp_region_calm ?_
  refine wp_region_E (fun W => Cells W w4.heap.size 0 (u8s sc) ∧ Cells W w7.heap.size 0 (u8s sc) ∧ Cells W w2.heap.size 0 (Lab.vals lc sl) ∧ Cells W w.heap.size 0 [.int .i64 array, .int .i64 gen, .int .i64 member, .int .i64 blocks, .slice oa0 n0 cap0]) 100 (by kernel_rfl) ?_
  refine wpAnyE_take (i := 0) (v := ?_) (listed' := #[true, false, false, false, false, false, false, false, false, false, false, false, false, false, false, false, false, false, false, false, false, false, false, false, false, false, false, false, false, false, false]) (by rfl) (by kernel_rfl) (by kernel_rfl) calm_put hS (by rfl) ?_ ?_
  rotate_left
  · intro W hW; clear hW; go_simp; try (with_reducible rfl)
  simp only [Act.put, List.getElem_toArray, List.getElem_cons_succ, List.getElem_cons_zero, List.setIfInBounds_toArray, List.set_cons_zero, List.set_cons_succ]
  refine wpAnyE_take (i := 1) (v := ?_) (listed' := #[true, true, false, false, false, false, false, false, false, false, false, false, false, false, false, false, false, false, false, false, false, false, false, false, false, false, false, false, false, false, false]) (by rfl) (by kernel_rfl) (by kernel_rfl) calm_put hS (by rfl) ?_ ?_
  rotate_left
  · intro W hW; clear hW; go_simp; try (with_reducible rfl)
  simp only [Act.put, List.getElem_toArray, List.getElem_cons_succ, List.getElem_cons_zero, List.setIfInBounds_toArray, List.set_cons_zero, List.set_cons_succ]
  refine wpAnyE_take (i := 2) (v := .agg (u8s sc).toArray) (listed' := #[true, true, true, false, false, false, false, false, false, false, false, false, false, false, false, false, false, false, false, false, false, false, false, false, false, false, false, false, false, false, false]) (by rfl) (by kernel_rfl) (by kernel_rfl) calm_put hS (by rfl) ?_ ?_
  · intro W hW; skip; exact run_load_agg (.tmp 7) rfl ty_sec w4.heap.size 0 rfl _ hW.1 (by rw [u8s_length, HSL.out])
  simp only [Act.put, List.getElem_toArray, List.getElem_cons_succ, List.getElem_cons_zero, List.setIfInBounds_toArray, List.set_cons_zero, List.set_cons_succ]
  refine wpAnyE_take (i := 3) (v := .agg (u8s sc).toArray) (listed' := #[true, true, true, true, false, false, false, false, false, false, false, false, false, false, false, false, false, false, false, false, false, false, false, false, false, false, false, false, false, false, false]) (by rfl) (by kernel_rfl) (by kernel_rfl) calm_put hS (by rfl) ?_ ?_
  · intro W hW; skip; exact run_load_agg (.tmp 9) rfl ty_sec w7.heap.size 0 rfl _ hW.2.1 (by rw [u8s_length, HSL.out])
  simp only [Act.put, List.getElem_toArray, List.getElem_cons_succ, List.getElem_cons_zero, List.setIfInBounds_toArray, List.set_cons_zero, List.set_cons_succ]
  refine wpAnyE_take (i := 4) (v := ?_) (listed' := #[true, true, true, true, true, false, false, false, false, false, false, false, false, false, false, false, false, false, false, false, false, false, false, false, false, false, false, false, false, false, false]) (by rfl) (by kernel_rfl) (by kernel_rfl) calm_put hS (by rfl) ?_ ?_
  rotate_left
  · intro W hW; clear hW; go_simp; try (with_reducible rfl)
  simp only [Act.put, List.getElem_toArray, List.getElem_cons_succ, List.getElem_cons_zero, List.setIfInBounds_toArray, List.set_cons_zero, List.set_cons_succ]
  refine wpAnyE_take (i := 5) (v := ?_) (listed' := #[true, true, true, true, true, true, false, false, false, false, false, false, false, false, false, false, false, false, false, false, false, false, false, false, false, false, false, false, false, false, false]) (by rfl) (by kernel_rfl) (by kernel_rfl) calm_put hS (by rfl) ?_ ?_
  rotate_left
  · intro W hW; clear hW; go_simp; try (with_reducible rfl)
  simp only [Act.put, List.getElem_toArray, List.getElem_cons_succ, List.getElem_cons_zero, List.setIfInBounds_toArray, List.set_cons_zero, List.set_cons_succ]
  refine wpAnyE_take (i := 6) (v := ?_) (listed' := #[true, true, true, true, true, true, true, false, false, false, false, false, false, false, false, false, false, false, false, false, false, false, false, false, false, false, false, false, false, false, false]) (by rfl) (by kernel_rfl) (by kernel_rfl) calm_put hS (by rfl) ?_ ?_
  rotate_left
  · intro W hW; clear hW; go_simp; try (with_reducible rfl)
  simp only [Act.put, List.getElem_toArray, List.getElem_cons_succ, List.getElem_cons_zero, List.setIfInBounds_toArray, List.set_cons_zero, List.set_cons_succ]
  refine wpAnyE_take (i := 7) (v := ?_) (listed' := #[true, true, true, true, true, true, true, true, false, false, false, false, false, false, false, false, false, false, false, false, false, false, false, false, false, false, false, false, false, false, false]) (by rfl) (by kernel_rfl) (by kernel_rfl) calm_put hS (by rfl) ?_ ?_
  rotate_left
  · intro W hW; clear hW; go_simp; try (with_reducible rfl)
  simp only [Act.put, List.getElem_toArray, List.getElem_cons_succ, List.getElem_cons_zero, List.setIfInBounds_toArray, List.set_cons_zero, List.set_cons_succ]
  refine wpAnyE_take (i := 8) (v := ?_) (listed' := #[true, true, true, true, true, true, true, true, true, false, false, false, false, false, false, false, false, false, false, false, false, false, false, false, false, false, false, false, false, false, false]) (by rfl) (by kernel_rfl) (by kernel_rfl) calm_put hS (by rfl) ?_ ?_
  rotate_left
  · intro W hW; clear hW; go_simp; try (with_reducible rfl)
  simp only [Act.put, List.getElem_toArray, List.getElem_cons_succ, List.getElem_cons_zero, List.setIfInBounds_toArray, List.set_cons_zero, List.set_cons_succ]
  refine wpAnyE_take (i := 9) (v := ?_) (listed' := #[true, true, true, true, true, true, true, true, true, true, false, false, false, false, false, false, false, false, false, false, false, false, false, false, false, false, false, false, false, false, false]) (by rfl) (by kernel_rfl) (by kernel_rfl) calm_put hS (by rfl) ?_ ?_
  rotate_left
  · intro W hW; clear hW; go_simp; try (with_reducible rfl)
  simp only [Act.put, List.getElem_toArray, List.getElem_cons_succ, List.getElem_cons_zero, List.setIfInBounds_toArray, List.set_cons_zero, List.set_cons_succ]
  refine wpAnyE_take (i := 10) (v := ?_) (listed' := #[true, true, true, true, true, true, true, true, true, true, true, false, false, false, false, false, false, false, false, false, false, false, false, false, false, false, false, false, false, false, false]) (by rfl) (by kernel_rfl) (by kernel_rfl) calm_put hS (by rfl) ?_ ?_
  rotate_left
  · intro W hW; clear hW; go_simp; try (with_reducible rfl)
  simp only [Act.put, List.getElem_toArray, List.getElem_cons_succ, List.getElem_cons_zero, List.setIfInBounds_toArray, List.set_cons_zero, List.set_cons_succ]
  refine wpAnyE_take (i := 11) (v := ?_) (listed' := #[true, true, true, true, true, true, true, true, true, true, true, true, false, false, false, false, false, false, false, false, false, false, false, false, false, false, false, false, false, false, false]) (by rfl) (by kernel_rfl) (by kernel_rfl) calm_put hS (by rfl) ?_ ?_
  rotate_left
  · intro W hW; clear hW; go_simp; try (with_reducible rfl)
  simp only [Act.put, List.getElem_toArray, List.getElem_cons_succ, List.getElem_cons_zero, List.setIfInBounds_toArray, List.set_cons_zero, List.set_cons_succ]
  refine wpAnyE_take (i := 12) (v := ?_) (listed' := #[true, true, true, true, true, true, true, true, true, true, true, true, true, false, false, false, false, false, false, false, false, false, false, false, false, false, false, false, false, false, false]) (by rfl) (by kernel_rfl) (by kernel_rfl) calm_put hS (by rfl) ?_ ?_
  rotate_left
  · intro W hW; clear hW; go_simp; try (with_reducible rfl)
  simp only [Act.put, List.getElem_toArray, List.getElem_cons_succ, List.getElem_cons_zero, List.setIfInBounds_toArray, List.set_cons_zero, List.set_cons_succ]
  refine wpAnyE_take (i := 13) (v := ?_) (listed' := #[true, true, true, true, true, true, true, true, true, true, true, true, true, true, false, false, false, false, false, false, false, false, false, false, false, false, false, false, false, false, false]) (by rfl) (by kernel_rfl) (by kernel_rfl) calm_put hS (by rfl) ?_ ?_
  rotate_left
  · intro W hW; clear hW; go_simp; try (with_reducible rfl)
  simp only [Act.put, List.getElem_toArray, List.getElem_cons_succ, List.getElem_cons_zero, List.setIfInBounds_toArray, List.set_cons_zero, List.set_cons_succ]
  refine wpAnyE_take (i := 14) (v := ?_) (listed' := #[true, true, true, true, true, true, true, true, true, true, true, true, true, true, true, false, false, false, false, false, false, false, false, false, false, false, false, false, false, false, false]) (by rfl) (by kernel_rfl) (by kernel_rfl) calm_put hS (by rfl) ?_ ?_
  rotate_left
  · intro W hW; clear hW; go_simp; try (with_reducible rfl)
  simp only [Act.put, List.getElem_toArray, List.getElem_cons_succ, List.getElem_cons_zero, List.setIfInBounds_toArray, List.set_cons_zero, List.set_cons_succ]
  refine wpAnyE_take (i := 15) (v := ?_) (listed' := #[true, true, true, true, true, true, true, true, true, true, true, true, true, true, true, true, false, false, false, false, false, false, false, false, false, false, false, false, false, false, false]) (by rfl) (by kernel_rfl) (by kernel_rfl) calm_put hS (by rfl) ?_ ?_
  rotate_left
  · intro W hW; clear hW; go_simp; try (with_reducible rfl)
  simp only [Act.put, List.getElem_toArray, List.getElem_cons_succ, List.getElem_cons_zero, List.setIfInBounds_toArray, List.set_cons_zero, List.set_cons_succ]
  refine wpAnyE_take (i := 16) (v := ?_) (listed' := #[true, true, true, true, true, true, true, true, true, true, true, true, true, true, true, true, true, false, false, false, false, false, false, false, false, false, false, false, false, false, false]) (by rfl) (by kernel_rfl) (by kernel_rfl) calm_put hS (by rfl) ?_ ?_
  rotate_left
  · intro W hW; clear hW; go_simp; try (with_reducible rfl)
  simp only [Act.put, List.getElem_toArray, List.getElem_cons_succ, List.getElem_cons_zero, List.setIfInBounds_toArray, List.set_cons_zero, List.set_cons_succ]
  refine wpAnyE_take (i := 17) (v := ?_) (listed' := #[true, true, true, true, true, true, true, true, true, true, true, true, true, true, true, true, true, true, false, false, false, false, false, false, false, false, false, false, false, false, false]) (by rfl) (by kernel_rfl) (by kernel_rfl) calm_put hS (by rfl) ?_ ?_
  rotate_left
  · intro W hW; clear hW; go_simp; try (with_reducible rfl)
  simp only [Act.put, List.getElem_toArray, List.getElem_cons_succ, List.getElem_cons_zero, List.setIfInBounds_toArray, List.set_cons_zero, List.set_cons_succ]
  refine wpAnyE_take (i := 18) (v := ?_) (listed' := #[true, true, true, true, true, true, true, true, true, true, true, true, true, true, true, true, true, true, true, false, false, false, false, false, false, false, false, false, false, false, false]) (by rfl) (by kernel_rfl) (by kernel_rfl) calm_put hS (by rfl) ?_ ?_
  rotate_left
  · intro W hW; clear hW; go_simp; try (with_reducible rfl)
  simp only [Act.put, List.getElem_toArray, List.getElem_cons_succ, List.getElem_cons_zero, List.setIfInBounds_toArray, List.set_cons_zero, List.set_cons_succ]
  refine wpAnyE_take (i := 19) (v := ?_) (listed' := #[true, true, true, true, true, true, true, true, true, true, true, true, true, true, true, true, true, true, true, true, false, false, false, false, false, false, false, false, false, false, false]) (by rfl) (by kernel_rfl) (by kernel_rfl) calm_put hS (by rfl) ?_ ?_
  rotate_left
  · intro W hW; clear hW; go_simp; try (with_reducible rfl)
  simp only [Act.put, List.getElem_toArray, List.getElem_cons_succ, List.getElem_cons_zero, List.setIfInBounds_toArray, List.set_cons_zero, List.set_cons_succ]
  refine wpAnyE_take (i := 20) (v := ?_) (listed' := #[true, true, true, true, true, true, true, true, true, true, true, true, true, true, true, true, true, true, true, true, true, false, false, false, false, false, false, false, false, false, false]) (by rfl) (by kernel_rfl) (by kernel_rfl) calm_put hS (by rfl) ?_ ?_
  rotate_left
  · intro W hW; clear hW; go_simp; try (with_reducible rfl)
  simp only [Act.put, List.getElem_toArray, List.getElem_cons_succ, List.getElem_cons_zero, List.setIfInBounds_toArray, List.set_cons_zero, List.set_cons_succ]
  refine wpAnyE_take (i := 21) (v := ?_) (listed' := #[true, true, true, true, true, true, true, true, true, true, true, true, true, true, true, true, true, true, true, true, true, true, false, false, false, false, false, false, false, false, false]) (by rfl) (by kernel_rfl) (by kernel_rfl) calm_put hS (by rfl) ?_ ?_
  rotate_left
  · intro W hW; clear hW; go_simp; try (with_reducible rfl)
  simp only [Act.put, List.getElem_toArray, List.getElem_cons_succ, List.getElem_cons_zero, List.setIfInBounds_toArray, List.set_cons_zero, List.set_cons_succ]
  refine wpAnyE_take (i := 22) (v := ?_) (listed' := #[true, true, true, true, true, true, true, true, true, true, true, true, true, true, true, true, true, true, true, true, true, true, true, false, false, false, false, false, false, false, false]) (by rfl) (by kernel_rfl) (by kernel_rfl) calm_put hS (by rfl) ?_ ?_
  rotate_left
  · intro W hW; clear hW; go_simp; try (with_reducible rfl)
  simp only [Act.put, List.getElem_toArray, List.getElem_cons_succ, List.getElem_cons_zero, List.setIfInBounds_toArray, List.set_cons_zero, List.set_cons_succ]
  refine wpAnyE_take (i := 23) (v := .agg (Lab.vals lc sl).toArray) (listed' := #[true, true, true, true, true, true, true, true, true, true, true, true, true, true, true, true, true, true, true, true, true, true, true, true, false, false, false, false, false, false, false]) (by rfl) (by kernel_rfl) (by kernel_rfl) calm_put hS (by rfl) ?_ ?_
  · intro W hW; skip; exact run_load_agg (.tmp 6) rfl ty_lab w2.heap.size 0 rfl _ hW.2.2.1 rfl
  simp only [Act.put, List.getElem_toArray, List.getElem_cons_succ, List.getElem_cons_zero, List.setIfInBounds_toArray, List.set_cons_zero, List.set_cons_succ]
  refine wpAnyE_take (i := 25) (v := .agg #[.int .i64 array, .int .i64 gen, .int .i64 member, .int .i64 blocks, .slice oa0 n0 cap0]) (listed' := #[true, true, true, true, true, true, true, true, true, true, true, true, true, true, true, true, true, true, true, true, true, true, true, true, false, true, false, false, false, false, false]) (by rfl) (by kernel_rfl) (by kernel_rfl) calm_put hS (by rfl) ?_ ?_
  · intro W hW; skip; exact run_load_agg (.tmp 2) rfl ty_lab w.heap.size 0 rfl _ hW.2.2.2 rfl
  simp only [Act.put, List.getElem_toArray, List.getElem_cons_succ, List.getElem_cons_zero, List.setIfInBounds_toArray, List.set_cons_zero, List.set_cons_succ]
  refine wpAnyE_one (i := 24) (listed' := #[true, true, true, true, true, true, true, true, true, true, true, true, true, true, true, true, true, true, true, true, true, true, true, true, true, true, false, false, false, false, false]) (by rfl) (by kernel_rfl) (by kernel_rfl) (by rfl) (fun K0 hK => ?_)
  simp only [Act.put, List.getElem_toArray, List.getElem_cons_succ, List.getElem_cons_zero, List.setIfInBounds_toArray, List.set_cons_zero, List.set_cons_succ]
  go_wp2_with fail
  refine Calls.mono (HR.out _ _ HM.out) ?_
  rintro e w16 ⟨rfl, hk16⟩
  replace K := K.trans hk16
  replace HB0 := Lib.hid (HB0.out.kept hk16)
  replace HBS := Lib.hid (HBS.out.kept hk16)
  replace HM := Lib.hid (HM.out.kept hk16)
  replace HO := Lib.hid (HO.out.kept hk16)
  replace HX := Lib.hid (HX.out.kept hk16)
  replace HM6 := Lib.hid (HM6.out.kept hk16)
  replace HY := Lib.hid (HY.out.kept hk16)
  replace HM9 := Lib.hid (HM9.out.kept hk16)
  replace HA := Lib.hid (HA.out.kept hk16)
  replace HM11 := Lib.hid (HM11.out.kept hk16)
  replace HBB := Lib.hid (HBB.out.kept hk16)
  replace HM14 := Lib.hid (HM14.out.kept hk16)
  have hS := (⟨HX.out, HY.out, HO.out, HB0.out⟩ : _ ∧ _ ∧ _ ∧ _)
  refine hK _ _ (fun _ => hS) ?_; clear hK K0
  refine wpAnyE_one (i := 26) (listed' := #[true, true, true, true, true, true, true, true, true, true, true, true, true, true, true, true, true, true, true, true, true, true, true, true, true, true, true, false, false, false, false]) (by rfl) (by kernel_rfl) (by kernel_rfl) (by rfl) (fun K0 hK => ?_)
  simp only [Act.put, List.getElem_toArray, List.getElem_cons_succ, List.getElem_cons_zero, List.setIfInBounds_toArray, List.set_cons_zero, List.set_cons_succ]
  go_wp2_with fail
  refine Calls.mono (HCUT.out _ K) ?_
  rintro e w17 ⟨sl17, rfl, hm17, hk17⟩
  replace K := K.trans hk17
  replace HB0 := Lib.hid (HB0.out.kept hk17)
  replace HBS := Lib.hid (HBS.out.kept hk17)
  replace HM := Lib.hid (HM.out.kept hk17)
  replace HO := Lib.hid (HO.out.kept hk17)
  replace HX := Lib.hid (HX.out.kept hk17)
  replace HM6 := Lib.hid (HM6.out.kept hk17)
  replace HY := Lib.hid (HY.out.kept hk17)
  replace HM9 := Lib.hid (HM9.out.kept hk17)
  replace HA := Lib.hid (HA.out.kept hk17)
  replace HM11 := Lib.hid (HM11.out.kept hk17)
  replace HBB := Lib.hid (HBB.out.kept hk17)
  replace HM14 := Lib.hid (HM14.out.kept hk17)
  have HM17 := Lib.hid hm17; clear hm17
  have hS := (⟨HX.out, HY.out, HO.out, HB0.out⟩ : _ ∧ _ ∧ _ ∧ _)
  refine hK _ _ (fun _ => hS) ?_; clear hK K0
  refine wpAnyE_one (i := 27) (listed' := #[true, true, true, true, true, true, true, true, true, true, true, true, true, true, true, true, true, true, true, true, true, true, true, true, true, true, true, true, false, false, false]) (by rfl) (by kernel_rfl) (by kernel_rfl) (by rfl) (fun K0 hK => ?_)
  simp only [Act.put, List.getElem_toArray, List.getElem_cons_succ, List.getElem_cons_zero, List.setIfInBounds_toArray, List.set_cons_zero, List.set_cons_succ]
  go_wp2_with fail
  refine Calls.mono (HRR.out _ _ HM17.out) ?_
  rintro e w18 ⟨rfl, hk18⟩
  replace K := K.trans hk18
  replace HB0 := Lib.hid (HB0.out.kept hk18)
  replace HBS := Lib.hid (HBS.out.kept hk18)
  replace HM := Lib.hid (HM.out.kept hk18)
  replace HO := Lib.hid (HO.out.kept hk18)
  replace HX := Lib.hid (HX.out.kept hk18)
  replace HM6 := Lib.hid (HM6.out.kept hk18)
  replace HY := Lib.hid (HY.out.kept hk18)
  replace HM9 := Lib.hid (HM9.out.kept hk18)
  replace HA := Lib.hid (HA.out.kept hk18)
  replace HM11 := Lib.hid (HM11.out.kept hk18)
  replace HBB := Lib.hid (HBB.out.kept hk18)
  replace HM14 := Lib.hid (HM14.out.kept hk18)
  have hS := (⟨HX.out, HY.out, HO.out, HB0.out⟩ : _ ∧ _ ∧ _ ∧ _)
  refine hK _ _ (fun _ => hS) ?_; clear hK K0
  refine wpAnyE_take (i := 28) (v := ?_) (listed' := #[true, true, true, true, true, true, true, true, true, true, true, true, true, true, true, true, true, true, true, true, true, true, true, true, true, true, true, true, true, false, false]) (by rfl) (by kernel_rfl) (by kernel_rfl) calm_put hS (by rfl) ?_ ?_
  rotate_left
  · intro W hW; clear hW; go_simp; try (with_reducible rfl)
  simp only [Act.put, List.getElem_toArray, List.getElem_cons_succ, List.getElem_cons_zero, List.setIfInBounds_toArray, List.set_cons_zero, List.set_cons_succ]
  refine wpAnyE_take (i := 29) (v := ?_) (listed' := #[true, true, true, true, true, true, true, true, true, true, true, true, true, true, true, true, true, true, true, true, true, true, true, true, true, true, true, true, true, true, false]) (by rfl) (by kernel_rfl) (by kernel_rfl) calm_put hS (by rfl) ?_ ?_
  rotate_left
  · intro W hW; clear hW; go_simp; try (with_reducible rfl)
  simp only [Act.put, List.getElem_toArray, List.getElem_cons_succ, List.getElem_cons_zero, List.setIfInBounds_toArray, List.set_cons_zero, List.set_cons_succ]
  refine wpAnyE_one (i := 30) (listed' := #[true, true, true, true, true, true, true, true, true, true, true, true, true, true, true, true, true, true, true, true, true, true, true, true, true, true, true, true, true, true, true]) (by rfl) (by kernel_rfl) (by kernel_rfl) (by rfl) (fun K0 hK => ?_)
  simp only [Act.put, List.getElem_toArray, List.getElem_cons_succ, List.getElem_cons_zero, List.setIfInBounds_toArray, List.set_cons_zero, List.set_cons_succ]
  go_wp2
  refine hK _ _ (fun _ => hS) ?_; clear hK K0
  refine wpAnyE_done (by kernel_rfl) ?_ _
  refine calm_normal ?_
  go_wp2
  go_ret
  exact ⟨rfl, K⟩
end Go.Proofs.Ytpnpconphpbcaaa
