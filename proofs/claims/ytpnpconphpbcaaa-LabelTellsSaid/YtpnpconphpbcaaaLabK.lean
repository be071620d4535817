/- LabelBack: the walk. -/
import Derived.Test.YtpnpconphpbcaaaLabG
import Derived.Test.YtpnpconphpbcaaaLabP
import Derived.Test.YtpnpconphpbcaaaFrame
namespace Go.Proofs.Ytpnpconphpbcaaa
open Go.RowKit
set_option linter.unusedVariables false
set_option linter.unusedSimpArgs false

theorem MSrc.kept {w w' : World} {v : Value} {ms : List Mem} (h : MSrc w v ms) (hk : Kept w w') : MSrc w' v ms := by
  rcases h with h | ⟨b, off, cap, h1, h2, h3, h4⟩
  · exact .inl h
  · exact .inr ⟨b, off, cap, h1, h2, h3, h4.kept hk⟩
theorem back_zero {w w1 : World} (h : Hid (w1.heap[w.heap.size]? = some (.cells (Lab.vals Lab.zero (.slice none 0 0)).toArray 24 (0, 0)))) :
    w1.cell? ⟨w.heap.size, 4, none⟩ = some (.slice none 0 0) := by
  have := (Cells.of_block h.out) 4 (by simp [Lab.vals])
  simpa [Lab.vals] using this

attribute [local go_sem ↓] Go.wp_at_zero Go.wp_at_succ
set_option maxHeartbeats 4000000 in
set_option maxRecDepth 100000 in
theorem law_back (l : Lab) (oa0 : Option Addr) (n0 cap0 : Nat) (bs : List Int) (w : World) (hs : MSrc w (.slice oa0 n0 cap0) l.ms) (hb : ∀ x ∈ bs, IsByte x) (hl : bs.length = 64) :
    Calls Try.prog 4 #[l.val (.slice oa0 n0 cap0), secV bs] w fun e w' => e = .returned (.bool true) ∧ Kept w w' := by
  have hcut := fun (W : World) (hk : Kept w W) => law_cut l oa0 n0 cap0 W (hs.kept hk)
  obtain ⟨array, gen, member, blocks, ms0⟩ := l
  generalize hlc : Lab.cut ⟨array, gen, member, blocks, ms0⟩ = lc at hcut
  have hms : lc.ms = ms0.take 20 := by rw [← hlc]; rfl
  simp only [← hms] at hcut
  have hn : lc.ms.length ≤ 20 := by rw [hms]; simp; omega
  simp only [Lab.val, secV] at hcut ⊢
  have HCUT := Lib.hid hcut; clear hcut
  have HBL := Lib.hid hl; clear hl
  have HBB := Lib.hid hb; clear hb
  clear hs hlc hms
  have heqg := eqg_sec
  go_enter Try.func4, Try.ntmps4
  go_upto_region 2 with (go_at_call 10; refine (law_shown _).mono ?_; rintro e w1 ⟨rfl, hk1⟩)
  go_cut [] (fun wc => ∃ sl, Hid (Cells wc w.heap.size 0 (Lab.vals lc sl)) ∧ Hid (Cells wc (w.heap.size + 1) 0 (u8s bs)) ∧ Hid (MSl wc sl lc.ms) ∧ Kept w wc)
  case first =>
    have hb0 : w1.heap[w.heap.size]? = some (.cells #[.int .i64 array, .int .i64 gen, .int .i64 member, .int .i64 blocks, .slice oa0 n0 cap0] 24 (0, 0)) := hk1.block (((Kept.refl _).alloc _).block (heap_alloc_new w _))
    have hb1 : w1.heap[w.heap.size + 1]? = some (.cells (u8s bs).toArray 26 (0, 0)) := by
      have := hk1.block (heap_alloc_new (w.alloc (.cells #[.int .i64 array, .int .i64 gen, .int .i64 member, .int .i64 blocks, .slice oa0 n0 cap0] 24)) (.cells (u8s bs).toArray 26))
      rw [World.size_alloc] at this
      exact this
    have hk01 : Kept w w1 := (((Kept.refl w).alloc _).alloc _).trans hk1
    have hsz := hk1.size
    simp only [World.size_alloc] at hsz
    have H0 := Lib.hid hb0; clear hb0
    have H1 := Lib.hid hb1; clear hb1
    go_wp2_with (first
      | (refine wpList_load_agg rfl _ rfl ty_lab w.heap.size 0 rfl [.int .i64 array, .int .i64 gen, .int .i64 member, .int .i64 blocks, .slice oa0 n0 cap0] (by simpa using Cells.of_block H0.out) rfl ?_)
      | (go_at_call 11; refine (HCUT.out _ hk01).mono ?_; rintro e w2 ⟨sl, rfl, hm2, hk2, hst⟩; have H02 := Lib.hid (hk2.block H0.out); have H12 := Lib.hid (hk2.block H1.out))
      | (refine wpList_store_agg rfl _ _ rfl ty_lab w.heap.size 0 rfl (Lab.vals lc sl) rfl rfl (lab_one lc sl hm2.one) [.int .i64 array, .int .i64 gen, .int .i64 member, .int .i64 blocks, .slice oa0 n0 cap0] 24 H02.out (by simp) ?_; intro w3 hw3))
    go_meet
    case rel =>
      replace hw3 := hw3.all rfl
      refine ⟨sl, Lib.hid hw3.cells, Lib.hid ?_, Lib.hid (hst w3 (fun k hk => hw3.oth k (by omega))), hw3.kept (hk01.trans hk2) (Nat.le_refl _)⟩
      exact Cells.of_block ((hw3.oth (w.heap.size + 1) (by omega)).trans H12.out)
  case rest =>
    obtain ⟨sl, HL, HBS, HM, hkc⟩ := hcut
    have K := Kept.refl wc
    have HN : Hid (lc.ms.length ≤ 9223372036854775807) := Lib.hid (by omega)
    have hsz := hkc.size
    clear HCUT
    have HEQG := Lib.hid heqg; clear heqg
    by_cases hr : rightB lc = true
    · have hput := fun (W : World) (hk : Kept wc W) => label_Put_ok lc sl W (HM.out.kept hk) hr
      have hR := fun (W : World) (hk : Kept wc W) => label_Right_t lc sl W (HM.out.kept hk) hr
      have hof := fun (W : World) => label_Of_yes lc.sec W (sec_bytes lc) (Lab.sec_length lc (by simp only [rightB, headB, inB, Bool.and_eq_true, decide_eq_true_eq] at hr; omega)) (sec_ok lc hr)
      have hx := Lab.sec_length lc (by simp only [rightB, headB, inB, Bool.and_eq_true, decide_eq_true_eq] at hr; omega)
      rw [parse_sec lc hr] at hof
      have HPut := Lib.hid hput; clear hput
      have HR := Lib.hid hR; clear hR
      have HOf1 := Lib.hid hof; clear hof
      have HX := Lib.hid hx; clear hx
      clear hr
      generalize lc.sec = xs at *
      by_cases hok : ofOk bs = true
      · have HOf2 := Lib.hid (fun (W : World) => label_Of_yes bs W HBB.out HBL.out hok)
        have hok2 := hok
        simp only [ofOk, Bool.and_eq_true, beq_iff_eq] at hok2
        have heq := run_equal_secA (parse bs).sec bs (by rw [hok2.2.2]; exact HBL.out) HBL.out
        rw [show ((parse bs).sec == bs) = true from by simp [hok2.2.2]] at heq
        have HEQ := Lib.hid heq; clear heq
        have HPut2 := Lib.hid (fun (sl9 : Value) (W : World) (hm : MSl W sl9 (parse bs).ms) => label_Put_ok (parse bs) sl9 W hm hok2.2.1)
        have HPL : Hid ((parse bs).sec.length = 64) := Lib.hid (by rw [hok2.2.2]; exact HBL.out)
        clear hok hok2
        generalize (parse bs).sec = ps at *
        generalize parse bs = pl at *
        go_wp2_with (refine stop_at (o := ⟨some 19, _, _, _, _, _⟩) ?_)
        refine Stop.mk ?_
        refine wpList_load_agg rfl _ rfl ty_lab w.heap.size 0 rfl (Lab.vals lc sl) (HL.out.kept K) rfl ?_
        go_wp2_with fail
        refine (HPut.out _ K).mono ?_
        rintro e w3 ⟨rfl, hk3⟩
        replace K := K.trans hk3
        go_wp2_with (refine stop_at (o := ⟨some 6, _, _, _, _, _⟩) ?_)
        refine Stop.mk ?_
        refine wpList_new_agg rfl rfl _ _ rfl rfl ty_sec (u8s zeroB) zero_sec (by simp [u8s_length, zeroB_length]) (u8s xs) rfl (by rw [u8s_length, HX.out]) (u8s_one _) rfl ?_
        intro w4 hz4 hs4 hk4
        replace K := K.trans hk4
        have K4 := Kept.refl w4
        go_wp2_with (refine stop_at (o := ⟨some 25, _, _, _, _, _⟩) ?_)
        refine Stop.mk ?_
        refine wpList_load_agg rfl _ rfl ty_lab w.heap.size 0 rfl (Lab.vals lc sl) (HL.out.kept K) rfl ?_
        go_wp2_with fail
        refine (HR.out _ K).mono ?_
        rintro e w5 ⟨rfl, hk5⟩
        replace K := K.trans hk5
        replace K4 := K4.trans hk5
        go_wp2_with (refine stop_at (o := ⟨some 31, _, _, _, _, _⟩) ?_)
        refine Stop.mk ?_
        refine wpList_load_agg rfl _ rfl ty_sec w3.heap.size 0 rfl (u8s xs) ((Cells.of_block hz4.out).kept K4) (by rw [u8s_length, HX.out]) ?_
        go_wp2_with fail
        refine (HOf1.out _).mono ?_
        rintro e w6 ⟨sl6, rfl, hm6, hk6⟩
        replace K := K.trans hk6
        have HM6 := Lib.hid hm6; clear hm6
        go_wp2_with (refine stop_at (o := ⟨some 8, _, _, _, _, _⟩) ?_)
        refine Stop.mk ?_
        refine wpList_new_agg rfl rfl _ _ rfl rfl ty_lab [.int .i64 0, .int .i64 0, .int .i64 0, .int .i64 0, .slice none 0 0] zero_lab rfl (Lab.vals lc sl6) rfl rfl (lab_one lc sl6 HM6.out.one) rfl ?_
        intro w7 hz7 hs7 hk7
        replace K := K.trans hk7
        go_wp2_with (refine stop_at (o := ⟨some 35, _, _, _, _, _⟩) ?_)
        refine Stop.mk ?_
        refine wpList_load_agg rfl _ rfl ty_lab w6.heap.size 0 rfl (Lab.vals lc sl6) (Cells.of_block hz7.out) rfl ?_
        go_wp2_with (refine stop_at (o := ⟨some 36, _, _, _, _, _⟩) ?_)
        refine Stop.mk ?_
        refine wpList_load_agg rfl _ rfl ty_lab w.heap.size 0 rfl (Lab.vals lc sl) (HL.out.kept K) rfl ?_
        go_wp2_with fail
        refine (same_labels lc sl6 sl _ HN.out (HM6.out.kept hk7) (HM.out.kept K)).mono ?_
        rintro e w8 ⟨rfl, hk8⟩
        replace K := K.trans hk8
        go_wp2_with (refine stop_at (o := ⟨some 45, _, _, _, _, _⟩) ?_)
        refine Stop.mk ?_
        refine wpList_load_agg rfl _ rfl ty_sec (w.heap.size + 1) 0 rfl (u8s bs) (HBS.out.kept K) (by rw [u8s_length, HBL.out]) ?_
        go_wp2_with fail
        refine (HOf2.out _).mono ?_
        rintro e w9 ⟨sl9, rfl, hm9, hk9⟩
        replace K := K.trans hk9
        have HM9 := Lib.hid hm9; clear hm9
        go_wp2_with (refine stop_at (o := ⟨some 11, _, _, _, _, _⟩) ?_)
        refine Stop.mk ?_
        refine wpList_new_agg rfl rfl _ _ rfl rfl ty_lab [.int .i64 0, .int .i64 0, .int .i64 0, .int .i64 0, .slice none 0 0] zero_lab rfl (Lab.vals pl sl9) rfl rfl (lab_one pl sl9 HM9.out.one) rfl ?_
        intro w10 hz10 hs10 hk10
        replace K := K.trans hk10
        go_wp2_with (refine stop_at (o := ⟨some 63, _, _, _, _, _⟩) ?_)
        refine Stop.mk ?_
        refine wpList_load_agg rfl _ rfl ty_lab w9.heap.size 0 rfl (Lab.vals pl sl9) (Cells.of_block hz10.out) rfl ?_
        go_wp2_with fail
        refine (HPut2.out sl9 _ (HM9.out.kept hk10)).mono ?_
        rintro e w11 ⟨rfl, hk11⟩
        replace K := K.trans hk11
        go_wp2_with (refine stop_at (o := ⟨some 13, _, _, _, _, _⟩) ?_)
        refine Stop.mk ?_
        refine wpList_new_agg rfl rfl _ _ rfl rfl ty_sec (u8s zeroB) zero_sec (by simp [u8s_length, zeroB_length]) (u8s ps) rfl (by rw [u8s_length, HPL.out]) (u8s_one _) rfl ?_
        intro w12 hz12 hs12 hk12
        replace K := K.trans hk12
        go_wp2_with (refine stop_at (o := ⟨some 73, _, _, _, _, _⟩) ?_)
        refine Stop.mk ?_
        refine wpList_load_aggW _ rfl ty_sec w11.heap.size 0 rfl (u8s ps) (Cells.of_block hz12.out) (by rw [u8s_length, HPL.out]) rfl ?_
        go_wp2_with (refine stop_at (o := ⟨some 74, _, _, _, _, _⟩) ?_)
        refine Stop.mk ?_
        refine wpList_load_aggW _ rfl ty_sec (w.heap.size + 1) 0 rfl (u8s bs) (HBS.out.kept K) (by rw [u8s_length, HBL.out]) rfl ?_
        have heq := HEQ.out
        have heqg := HEQG.out
        go_wp2
        go_ret
        exact ⟨rfl, hkc.trans K⟩
      · have HOf2 := Lib.hid (fun (W : World) => label_Of_bad bs W HBB.out HBL.out (by simpa using hok))
        clear hok
        go_wp2_with (refine stop_at (o := ⟨some 19, _, _, _, _, _⟩) ?_)
        refine Stop.mk ?_
        refine wpList_load_agg rfl _ rfl ty_lab w.heap.size 0 rfl (Lab.vals lc sl) (HL.out.kept K) rfl ?_
        go_wp2_with fail
        refine (HPut.out _ K).mono ?_
        rintro e w3 ⟨rfl, hk3⟩
        replace K := K.trans hk3
        go_wp2_with (refine stop_at (o := ⟨some 6, _, _, _, _, _⟩) ?_)
        refine Stop.mk ?_
        refine wpList_new_agg rfl rfl _ _ rfl rfl ty_sec (u8s zeroB) zero_sec (by simp [u8s_length, zeroB_length]) (u8s xs) rfl (by rw [u8s_length, HX.out]) (u8s_one _) rfl ?_
        intro w4 hz4 hs4 hk4
        replace K := K.trans hk4
        have K4 := Kept.refl w4
        go_wp2_with (refine stop_at (o := ⟨some 25, _, _, _, _, _⟩) ?_)
        refine Stop.mk ?_
        refine wpList_load_agg rfl _ rfl ty_lab w.heap.size 0 rfl (Lab.vals lc sl) (HL.out.kept K) rfl ?_
        go_wp2_with fail
        refine (HR.out _ K).mono ?_
        rintro e w5 ⟨rfl, hk5⟩
        replace K := K.trans hk5
        replace K4 := K4.trans hk5
        go_wp2_with (refine stop_at (o := ⟨some 31, _, _, _, _, _⟩) ?_)
        refine Stop.mk ?_
        refine wpList_load_agg rfl _ rfl ty_sec w3.heap.size 0 rfl (u8s xs) ((Cells.of_block hz4.out).kept K4) (by rw [u8s_length, HX.out]) ?_
        go_wp2_with fail
        refine (HOf1.out _).mono ?_
        rintro e w6 ⟨sl6, rfl, hm6, hk6⟩
        replace K := K.trans hk6
        have HM6 := Lib.hid hm6; clear hm6
        go_wp2_with (refine stop_at (o := ⟨some 8, _, _, _, _, _⟩) ?_)
        refine Stop.mk ?_
        refine wpList_new_agg rfl rfl _ _ rfl rfl ty_lab [.int .i64 0, .int .i64 0, .int .i64 0, .int .i64 0, .slice none 0 0] zero_lab rfl (Lab.vals lc sl6) rfl rfl (lab_one lc sl6 HM6.out.one) rfl ?_
        intro w7 hz7 hs7 hk7
        replace K := K.trans hk7
        go_wp2_with (refine stop_at (o := ⟨some 35, _, _, _, _, _⟩) ?_)
        refine Stop.mk ?_
        refine wpList_load_agg rfl _ rfl ty_lab w6.heap.size 0 rfl (Lab.vals lc sl6) (Cells.of_block hz7.out) rfl ?_
        go_wp2_with (refine stop_at (o := ⟨some 36, _, _, _, _, _⟩) ?_)
        refine Stop.mk ?_
        refine wpList_load_agg rfl _ rfl ty_lab w.heap.size 0 rfl (Lab.vals lc sl) (HL.out.kept K) rfl ?_
        go_wp2_with fail
        refine (same_labels lc sl6 sl _ HN.out (HM6.out.kept hk7) (HM.out.kept K)).mono ?_
        rintro e w8 ⟨rfl, hk8⟩
        replace K := K.trans hk8
        go_wp2_with (refine stop_at (o := ⟨some 45, _, _, _, _, _⟩) ?_)
        refine Stop.mk ?_
        refine wpList_load_agg rfl _ rfl ty_sec (w.heap.size + 1) 0 rfl (u8s bs) (HBS.out.kept K) (by rw [u8s_length, HBL.out]) ?_
        go_wp2_with fail
        refine (HOf2.out _).mono ?_
        rintro e w9 ⟨rfl, hk9⟩
        replace K := K.trans hk9
        go_wp2_with (refine stop_at (o := ⟨some 11, _, _, _, _, _⟩) ?_)
        refine Stop.mk ?_
        refine wpList_new_agg rfl rfl _ _ rfl rfl ty_lab [.int .i64 0, .int .i64 0, .int .i64 0, .int .i64 0, .slice none 0 0] zero_lab rfl (Lab.vals Lab.zero (.slice none 0 0)) rfl rfl (lab_one Lab.zero (.slice none 0 0) rfl) rfl ?_
        intro w10 hz10 hs10 hk10
        replace K := K.trans hk10
        have c4 := back_zero hz10
        go_wp2
        go_ret
        exact ⟨rfl, hkc.trans K⟩
    · have hr' : rightB lc = false := by simpa using hr
      have hput := fun (W : World) (hk : Kept wc W) => label_Put_no lc sl W (by omega) (HM.out.kept hk) hr'
      have hR := fun (W : World) (hk : Kept wc W) => label_Right_f lc sl W (by omega) (HM.out.kept hk) hr'
      have HPut := Lib.hid hput; clear hput
      have HR := Lib.hid hR; clear hR
      have HX : Hid (zeroB.length = 64) := Lib.hid zeroB_length
      clear hr hr'
      by_cases hok : ofOk bs = true
      · have HOf2 := Lib.hid (fun (W : World) => label_Of_yes bs W HBB.out HBL.out hok)
        have hok2 := hok
        simp only [ofOk, Bool.and_eq_true, beq_iff_eq] at hok2
        have heq := run_equal_secA (parse bs).sec bs (by rw [hok2.2.2]; exact HBL.out) HBL.out
        rw [show ((parse bs).sec == bs) = true from by simp [hok2.2.2]] at heq
        have HEQ := Lib.hid heq; clear heq
        have HPut2 := Lib.hid (fun (sl9 : Value) (W : World) (hm : MSl W sl9 (parse bs).ms) => label_Put_ok (parse bs) sl9 W hm hok2.2.1)
        have HPL : Hid ((parse bs).sec.length = 64) := Lib.hid (by rw [hok2.2.2]; exact HBL.out)
        clear hok hok2
        generalize (parse bs).sec = ps at *
        generalize parse bs = pl at *
        go_wp2_with (refine stop_at (o := ⟨some 19, _, _, _, _, _⟩) ?_)
        refine Stop.mk ?_
        refine wpList_load_agg rfl _ rfl ty_lab w.heap.size 0 rfl (Lab.vals lc sl) (HL.out.kept K) rfl ?_
        go_wp2_with fail
        refine (HPut.out _ K).mono ?_
        rintro e w3 ⟨rfl, hk3⟩
        replace K := K.trans hk3
        go_wp2_with (refine stop_at (o := ⟨some 6, _, _, _, _, _⟩) ?_)
        refine Stop.mk ?_
        refine wpList_new_agg rfl rfl _ _ rfl rfl ty_sec (u8s zeroB) zero_sec (by simp [u8s_length, zeroB_length]) (u8s zeroB) rfl (by rw [u8s_length, HX.out]) (u8s_one _) rfl ?_
        intro w4 hz4 hs4 hk4
        replace K := K.trans hk4
        have K4 := Kept.refl w4
        go_wp2_with (refine stop_at (o := ⟨some 25, _, _, _, _, _⟩) ?_)
        refine Stop.mk ?_
        refine wpList_load_agg rfl _ rfl ty_lab w.heap.size 0 rfl (Lab.vals lc sl) (HL.out.kept K) rfl ?_
        go_wp2_with fail
        refine (HR.out _ K).mono ?_
        rintro e w5 ⟨rfl, hk5⟩
        replace K := K.trans hk5
        replace K4 := K4.trans hk5
        go_wp2_with (refine stop_at (o := ⟨some 45, _, _, _, _, _⟩) ?_)
        refine Stop.mk ?_
        refine wpList_load_agg rfl _ rfl ty_sec (w.heap.size + 1) 0 rfl (u8s bs) (HBS.out.kept K) (by rw [u8s_length, HBL.out]) ?_
        go_wp2_with fail
        refine (HOf2.out _).mono ?_
        rintro e w9 ⟨sl9, rfl, hm9, hk9⟩
        replace K := K.trans hk9
        have HM9 := Lib.hid hm9; clear hm9
        go_wp2_with (refine stop_at (o := ⟨some 11, _, _, _, _, _⟩) ?_)
        refine Stop.mk ?_
        refine wpList_new_agg rfl rfl _ _ rfl rfl ty_lab [.int .i64 0, .int .i64 0, .int .i64 0, .int .i64 0, .slice none 0 0] zero_lab rfl (Lab.vals pl sl9) rfl rfl (lab_one pl sl9 HM9.out.one) rfl ?_
        intro w10 hz10 hs10 hk10
        replace K := K.trans hk10
        go_wp2_with (refine stop_at (o := ⟨some 63, _, _, _, _, _⟩) ?_)
        refine Stop.mk ?_
        refine wpList_load_agg rfl _ rfl ty_lab w9.heap.size 0 rfl (Lab.vals pl sl9) (Cells.of_block hz10.out) rfl ?_
        go_wp2_with fail
        refine (HPut2.out sl9 _ (HM9.out.kept hk10)).mono ?_
        rintro e w11 ⟨rfl, hk11⟩
        replace K := K.trans hk11
        go_wp2_with (refine stop_at (o := ⟨some 13, _, _, _, _, _⟩) ?_)
        refine Stop.mk ?_
        refine wpList_new_agg rfl rfl _ _ rfl rfl ty_sec (u8s zeroB) zero_sec (by simp [u8s_length, zeroB_length]) (u8s ps) rfl (by rw [u8s_length, HPL.out]) (u8s_one _) rfl ?_
        intro w12 hz12 hs12 hk12
        replace K := K.trans hk12
        go_wp2_with (refine stop_at (o := ⟨some 73, _, _, _, _, _⟩) ?_)
        refine Stop.mk ?_
        refine wpList_load_aggW _ rfl ty_sec w11.heap.size 0 rfl (u8s ps) (Cells.of_block hz12.out) (by rw [u8s_length, HPL.out]) rfl ?_
        go_wp2_with (refine stop_at (o := ⟨some 74, _, _, _, _, _⟩) ?_)
        refine Stop.mk ?_
        refine wpList_load_aggW _ rfl ty_sec (w.heap.size + 1) 0 rfl (u8s bs) (HBS.out.kept K) (by rw [u8s_length, HBL.out]) rfl ?_
        have heq := HEQ.out
        have heqg := HEQG.out
        go_wp2
        go_ret
        exact ⟨rfl, hkc.trans K⟩
      · have HOf2 := Lib.hid (fun (W : World) => label_Of_bad bs W HBB.out HBL.out (by simpa using hok))
        clear hok
        go_wp2_with (refine stop_at (o := ⟨some 19, _, _, _, _, _⟩) ?_)
        refine Stop.mk ?_
        refine wpList_load_agg rfl _ rfl ty_lab w.heap.size 0 rfl (Lab.vals lc sl) (HL.out.kept K) rfl ?_
        go_wp2_with fail
        refine (HPut.out _ K).mono ?_
        rintro e w3 ⟨rfl, hk3⟩
        replace K := K.trans hk3
        go_wp2_with (refine stop_at (o := ⟨some 6, _, _, _, _, _⟩) ?_)
        refine Stop.mk ?_
        refine wpList_new_agg rfl rfl _ _ rfl rfl ty_sec (u8s zeroB) zero_sec (by simp [u8s_length, zeroB_length]) (u8s zeroB) rfl (by rw [u8s_length, HX.out]) (u8s_one _) rfl ?_
        intro w4 hz4 hs4 hk4
        replace K := K.trans hk4
        have K4 := Kept.refl w4
        go_wp2_with (refine stop_at (o := ⟨some 25, _, _, _, _, _⟩) ?_)
        refine Stop.mk ?_
        refine wpList_load_agg rfl _ rfl ty_lab w.heap.size 0 rfl (Lab.vals lc sl) (HL.out.kept K) rfl ?_
        go_wp2_with fail
        refine (HR.out _ K).mono ?_
        rintro e w5 ⟨rfl, hk5⟩
        replace K := K.trans hk5
        replace K4 := K4.trans hk5
        go_wp2_with (refine stop_at (o := ⟨some 45, _, _, _, _, _⟩) ?_)
        refine Stop.mk ?_
        refine wpList_load_agg rfl _ rfl ty_sec (w.heap.size + 1) 0 rfl (u8s bs) (HBS.out.kept K) (by rw [u8s_length, HBL.out]) ?_
        go_wp2_with fail
        refine (HOf2.out _).mono ?_
        rintro e w9 ⟨rfl, hk9⟩
        replace K := K.trans hk9
        go_wp2_with (refine stop_at (o := ⟨some 11, _, _, _, _, _⟩) ?_)
        refine Stop.mk ?_
        refine wpList_new_agg rfl rfl _ _ rfl rfl ty_lab [.int .i64 0, .int .i64 0, .int .i64 0, .int .i64 0, .slice none 0 0] zero_lab rfl (Lab.vals Lab.zero (.slice none 0 0)) rfl rfl (lab_one Lab.zero (.slice none 0 0) rfl) rfl ?_
        intro w10 hz10 hs10 hk10
        replace K := K.trans hk10
        have c4 := back_zero hz10
        go_wp2
        go_ret
        exact ⟨rfl, hkc.trans K⟩

end Go.Proofs.Ytpnpconphpbcaaa
