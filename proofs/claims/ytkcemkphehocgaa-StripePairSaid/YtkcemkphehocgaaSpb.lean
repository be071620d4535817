/- StripePair's walk. -/
import Derived.Test.YtkcemkphehocgaaSpa
import Derived.Test.YtkcemkphehocgaaIsr
namespace Go.Proofs.Ytkcemkphehocgaa
open Go.RowKit
set_option linter.unusedVariables false
set_option linter.unusedSimpArgs false

section
variable {w : World}
set_option maxHeartbeats 4000000
set_option maxRecDepth 100000
theorem near2 : Near (rowL 2) := ⟨by decide, by decide⟩
theorem law_spair (v : Value) (l : List Int) (a1 : Int) (w : World) (hs : ISrc w v l) : Calls Try.prog 10 #[v, .int .i64 a1] w fun e w' => e = .returned (.bool true) ∧ Kept w w' := by
  have HSL := Lib.hid hs
  obtain ⟨oa, cap, rfl, _⟩ := hs
  obtain ⟨y, hy, hyl⟩ := and_low a1 3 (by decide) (m := 7) (by decide)
  have hyl' : y < 8 := hyl
  have hsl := fun W => st_Slots 2 (by decide) (by decide) W
  simp only [show (if (2 : Int) < 2 then (0 : Int) else 8 * (2 - 1)) = 8 from rfl] at hsl
  have HSLOTS := Lib.hid hsl
  have hrw := fun W => s_row 2 (by decide) W
  simp only [show ((2 : Nat) : Int) = 2 from rfl] at hrw
  have HROW := Lib.hid hrw
  clear hsl hrw hyl
  go_enter Try.func10, Try.ntmps10
  go_wp2_with fail
  refine Calls.mono (law_shown13 _) ?_
  rintro e w1 ⟨rfl, hk1⟩
  have hlaid := s_laid 2 (by decide) w w1 (fun k => k ∈ ([] : List Nat)) hk1 (fun _ h => by cases h)
  rw [show ((2 : Nat) : Int) = 2 from rfl] at hlaid
  go_wp2_with fail
  refine Calls.mono hlaid ?_
  rintro e w2 ⟨q, rfl, hb, _⟩
  have HB2 := Lib.hid hb
  clear hb hlaid hk1
  go_wp2_with fail
  refine Calls.mono (HSLOTS.out _) ?_
  rintro e w' ⟨rfl, rfl⟩
  clear HSLOTS
  go_wp2_with fail
  refine Calls.mono (HROW.out _) ?_
  rintro e w3 ⟨v, rfl, hrow, hk⟩
  obtain ⟨g, c, rfl⟩ := ownsRow_succ hrow
  have hgl : w2.heap.size ≤ g ∧ g < w3.heap.size := ⟨row_ge hrow rfl, by
    obtain ⟨_, _, _, e2, _, hh, _⟩ := hrow.2.resolve_left (fun h => by cases h.1)
    cases e2; exact (Array.getElem?_eq_some_iff.1 hh).1⟩
  have hC : Cells w3 g 0 (evals (rowL 2)) := by
    rcases owns_form hrow with ⟨e, _⟩ | ⟨g', cap, e, _, _, _, hc⟩
    · cases e
    · cases e; exact hc
  have HB3 := Lib.hid (BK.push HB2.out hk g hgl.1 hgl.2)
  have HC3 := Lib.hid hC; have HGL3 := Lib.hid hgl.2
  have HES : Hid (∀ W : World, Cells W g 0 (evals (rowL 2)) → g < W.heap.size → ESl W (.slice (some ⟨g, 0, none⟩) 2 c) (rowL 2)) := Lib.hid fun W h1 h2 => ESl.of_cells (L := rowL 2) h2 h1
  clear hrow hk hgl hC HB2 HROW
  go_wp2
  go_loopw [8] (fun i wr => ∃ (t : Nat) (T : BankT), t ≤ 8 ∧ i = .int .i64 t ∧ Hid (PairI T t) ∧ Hid (BK w (fun k => k ∈ ([g] : List Nat)) wr q T) ∧ Hid (Cells wr g 0 (evals (rowL 2))) ∧ Hid (g < wr.heap.size)) (fun i _ => 8 - (intOf i).toNat)
  case atStart => exact ⟨0, _, by decide, rfl, Lib.hid PairI.start, HB3, HC3, HGL3⟩
  case round =>
    clear HB3 HC3 HGL3
    obtain ⟨t, T, ht, rfl, HP, HB4, HC4, HGL4⟩ := hrel
    obtain ⟨w4, hw4⟩ : ∃ w4, w4 = wr := ⟨_, rfl⟩
    subst hw4
    by_cases hlt : t < 8
    · skip
      have h77 := two_k t hlt
      by_cases hin : t < l.length
      · obtain ⟨b, off, e, hcell⟩ := HSL.out.at t hin
        subst e
        have hcell4 := HB4.out.keeps.cell' hcell
        clear hcell
        obtain ⟨x, hx⟩ : ∃ x, l[t] = x := ⟨_, rfl⟩
        rw [hx] at hcell4
        clear hx
        obtain ⟨T2, e2, i2, r0, r1, rl⟩ := HP.out.step hlt (x)
        have HU := Lib.hid (HP.out.use (by omega)); have HU2 := Lib.hid (i2.use (by omega)); have HI := Lib.hid HP.out.still.inv; have HT := Lib.hid (And.intro (show T.l.length ≠ 0 by rw [HP.out.still.len]; decide) (And.intro (show T.clock < 900000000 by have := HP.out.clk; omega) (show T.writes < 900000000 by have := HP.out.wri; omega)))
        have HE := Lib.hid e2; have HP2 := Lib.hid i2; have HR0 := Lib.hid r0; have HR1 := Lib.hid r1; have HRL := Lib.hid rl; have H77 := Lib.hid h77
        clear e2 i2 r0 r1 rl h77 HP
        go_wp2_with fail
        refine Calls.mono (s_sector (x) _) ?_
        rintro e w5 ⟨rfl, hk⟩
        have HB5 := Lib.hid ((HB4.out.kept hk).1)
        have HC5 := Lib.hid (Cells.kept HC4.out hk)
        have HGL5 := Lib.hid (Nat.lt_of_lt_of_le HGL4.out hk.size)
        clear HB4 HC4 HGL4 hk 
        go_wp2_with (refine stop_at (o := ⟨some 45, _, _, _, _, _⟩) ?_)
        refine Stop.mk ?_
        refine wpList_secs rfl 1 _ rfl [secN (x)] rfl (by decide) (by decide) (fun s hs => by simp at hs; rcases hs with rfl; exact secN_len _) (by simp [Act.eval, List.zipIdx, secV]) ?_
        intro w6 hz hs hk
        have HSS6 := hz
        have HB6 := Lib.hid (BK.push HB5.out hk _ (Nat.le_refl _) hs)
        have HC6 := Lib.hid (Cells.kept HC5.out hk)
        have HGL6 := Lib.hid (Nat.lt_of_lt_of_le HGL5.out hk.size)
        have GE_Sb := Lib.hid (HB5.out.keeps.size)
        generalize w5.heap.size = Sb at *
        clear HB5 HC5 HGL5 hz hs hk 
        go_wp2_with fail
        have hc := st_WriteFull HB6.out HI.out HT.out.1 HT.out.2.1 HT.out.2.2 (HES.out _ HC6.out HGL6.out) near2 (by decide) t (by decide) hlt (sv := .slice (some ⟨Sb, 0, none⟩) 1 1) (S := [secN (x)]) (.inr ⟨Sb, 0, 1, rfl, Nat.le_refl 1, (Array.getElem?_eq_some_iff.1 HSS6.out).1, by simpa using Cells.of_block HSS6.out⟩) (fun s hs => by simp at hs; rcases hs with rfl; exact secN_sec _) rfl
        rw [HE.out] at hc
        refine Calls.mono (hc) ?_
        rintro e w7 ⟨rfl, hb, hr⟩
        have HB7 : Hid (BK w (fun k => k ∈ ([Sb, g] : List Nat)) w7 q T2) := Lib.hid hb
        have HC7 := Lib.hid (hr.cells (B := g) (by simp) HC6.out)
        have HGL7 := Lib.hid ((BK.lt_of hb (B := g) (by simp)))
        have HSS7 := Lib.hid ((hr Sb (by simp)).trans HSS6.out)
        clear HB6 HC6 HGL6 HSS6 hb hr hc HE HU HI HT
        clear HSS7
        go_wp2_with fail
        refine Calls.mono (st_read HB7.out HU2.out 0 (t : Int) HR0.out) ?_
        rintro e w8 ⟨rfl, _, hk⟩
        have HB8 := Lib.hid ((HB7.out.kept hk).1)
        have HC8 := Lib.hid (Cells.kept HC7.out hk)
        have HGL8 := Lib.hid (Nat.lt_of_lt_of_le HGL7.out hk.size)
        clear HB7 HC7 HGL7 hk 
        go_wp2_with (refine stop_at (o := ⟨some 10, _, _, _, _, _⟩) ?_)
        refine Stop.mk ?_
        refine wpList_new_row rfl rfl _ _ rfl rfl ty_sec (u8s zeroB) zero_sec (by rw [u8s_length, zeroB_length]) (u8s (secN (x))) rfl (by rw [u8s_length, secN_len]) (u8s_one _) rfl ?_
        intro w9 hz hs hk
        have HX9 := hz
        have HB9 := Lib.hid (BK.push HB8.out hk _ (Nat.le_refl _) hs)
        have HC9 := Lib.hid (Cells.kept HC8.out hk)
        have HGL9 := Lib.hid (Nat.lt_of_lt_of_le HGL8.out hk.size)
        have GE_Sx := Lib.hid (HB8.out.keeps.size)
        generalize w8.heap.size = Sx at *
        clear HB8 HC8 HGL8 hz hs hk 
        go_wp2_with fail
        refine Calls.mono (st_read HB9.out HU2.out 1 (1 + (t : Int)) HR1.out) ?_
        rintro e w10 ⟨rfl, _, hk⟩
        have HB10 := Lib.hid ((HB9.out.kept hk).1)
        have HC10 := Lib.hid (Cells.kept HC9.out hk)
        have HGL10 := Lib.hid (Nat.lt_of_lt_of_le HGL9.out hk.size)
        have HX10 := Lib.hid (hk.block HX9.out)
        clear HB9 HC9 HGL9 HX9 hk 
        go_wp2_with (refine stop_at (o := ⟨some 12, _, _, _, _, _⟩) ?_)
        refine Stop.mk ?_
        refine wpList_new_row rfl rfl _ _ rfl rfl ty_sec (u8s zeroB) zero_sec (by rw [u8s_length, zeroB_length]) (u8s (secN (x))) rfl (by rw [u8s_length, secN_len]) (u8s_one _) rfl ?_
        intro w11 hz hs hk
        have HY11 := hz
        have HB11 := Lib.hid (BK.push HB10.out hk _ (Nat.le_refl _) hs)
        have HC11 := Lib.hid (Cells.kept HC10.out hk)
        have HGL11 := Lib.hid (Nat.lt_of_lt_of_le HGL10.out hk.size)
        have HX11 := Lib.hid (hk.block HX10.out)
        have GE_Sy := Lib.hid (HB10.out.keeps.size)
        generalize w10.heap.size = Sy at *
        clear HB10 HC10 HGL10 HX10 hz hs hk 
        go_wp2_with fail
        have hc := st_Read HB11.out HU2.out (HES.out _ HC11.out HGL11.out) near2 (by decide) (t : Int) t (t % 2) (by decide) hlt (by show t % 2 < 2; omega) H77.out
        rw [HRL.out] at hc
        refine Calls.mono (hc) ?_
        rintro e w12 ⟨rfl, hk⟩
        have HB12 := Lib.hid ((HB11.out.kept hk).1)
        have HC12 := Lib.hid (Cells.kept HC11.out hk)
        have HGL12 := Lib.hid (Nat.lt_of_lt_of_le HGL11.out hk.size)
        have HX12 := Lib.hid (hk.block HX11.out)
        have HY12 := Lib.hid (hk.block HY11.out)
        clear HB11 HC11 HGL11 HX11 HY11 hk hc HRL H77
        go_wp2_with (refine stop_at (o := ⟨some 14, _, _, _, _, _⟩) ?_)
        refine Stop.mk ?_
        refine wpList_new_row rfl rfl _ _ rfl rfl ty_sec (u8s zeroB) zero_sec (by rw [u8s_length, zeroB_length]) (u8s (secN (x))) rfl (by rw [u8s_length, secN_len]) (u8s_one _) rfl ?_
        intro w13 hz hs hk
        have HZ13 := hz
        have HB13 := Lib.hid (BK.push HB12.out hk _ (Nat.le_refl _) hs)
        have HC13 := Lib.hid (Cells.kept HC12.out hk)
        have HGL13 := Lib.hid (Nat.lt_of_lt_of_le HGL12.out hk.size)
        have HX13 := Lib.hid (hk.block HX12.out)
        have HY13 := Lib.hid (hk.block HY12.out)
        have GE_Ss := Lib.hid (HB12.out.keeps.size)
        generalize w12.heap.size = Ss at *
        clear HB12 HC12 HGL12 HX12 HY12 hz hs hk 
        go_upto_region 17 with fail
        have hS : Kept w13 w13.drew ∧ w13.drew.heap[Sx]? = some (.cells (u8s (secN (x))).toArray 34 (0, 0)) ∧ w13.drew.heap[Sy]? = some (.cells (u8s (secN (x))).toArray 34 (0, 0)) ∧ w13.drew.heap[Ss]? = some (.cells (u8s (secN (x))).toArray 34 (0, 0)) := ⟨(Kept.refl _).drew, HX13.out, HY13.out, HZ13.out⟩
        refine wp_region_calm ?_
        refine wp_region_E (fun W => Kept w13 W ∧ W.heap[Sx]? = some (.cells (u8s (secN (x))).toArray 34 (0, 0)) ∧ W.heap[Sy]? = some (.cells (u8s (secN (x))).toArray 34 (0, 0)) ∧ W.heap[Ss]? = some (.cells (u8s (secN (x))).toArray 34 (0, 0))) 100 (by kernel_rfl) ?_
        refine wpAnyE_take (i := 0) (v := .agg (u8s (secN (x))).toArray) (listed' := #[true, false, false, false, false, false, false, false, false, false, false, false, false, false, false, false, false, false, false, false, false, false, false, false, false, false]) (by rfl) (by kernel_rfl) (by kernel_rfl) calm_put hS (by rfl) ?_ ?_
        · intro W hW; skip; exact exec_load_sec _ rfl Sx rfl (secN (x)) (secN_len _) (by simpa using Cells.of_block hW.2.1)
        simp only [Act.put, List.getElem_toArray, List.getElem_cons_succ, List.getElem_cons_zero, List.setIfInBounds_toArray, List.set_cons_zero, List.set_cons_succ]
        refine wpAnyE_take (i := 1) (v := ?_) (listed' := #[true, true, false, false, false, false, false, false, false, false, false, false, false, false, false, false, false, false, false, false, false, false, false, false, false, false]) (by rfl) (by kernel_rfl) (by kernel_rfl) calm_put hS (by rfl) ?_ ?_
        rotate_left
        · intro W hW; clear hW; go_simp; try (with_reducible rfl)
        simp only [Act.put, List.getElem_toArray, List.getElem_cons_succ, List.getElem_cons_zero, List.setIfInBounds_toArray, List.set_cons_zero, List.set_cons_succ]
        refine wpAnyE_one (i := 2) (listed' := #[true, true, true, false, false, false, false, false, false, false, false, false, false, false, false, false, false, false, false, false, false, false, false, false, false, false]) (by rfl) (by kernel_rfl) (by kernel_rfl) (by rfl) (fun K hK => ?_)
        simp only [Act.put, List.getElem_toArray, List.getElem_cons_succ, List.getElem_cons_zero, List.setIfInBounds_toArray, List.set_cons_zero, List.set_cons_succ]
        go_wp2_with fail
        refine Calls.mono (s_sector (x) _) ?_
        rintro e wsec ⟨rfl, hks⟩
        have hS := (⟨hS.1.trans hks, hks.block hS.2.1, hks.block hS.2.2.1, hks.block hS.2.2.2⟩ : _ ∧ _ ∧ _ ∧ _)
        clear hks
        refine hK _ _ (fun _ => hS) ?_; clear hK K
        refine wpAnyE_take (i := 3) (v := .bool false) (listed' := #[true, true, true, true, false, false, false, false, false, false, false, false, false, false, false, false, false, false, false, false, false, false, false, false, false, false]) (by rfl) (by kernel_rfl) (by kernel_rfl) calm_put hS (by rfl) ?_ ?_
        · intro W hW; clear hW; exact exec_cmp_secN _ _ rfl (secN (x)) (secN_len _) rfl rfl
        simp only [Act.put, List.getElem_toArray, List.getElem_cons_succ, List.getElem_cons_zero, List.setIfInBounds_toArray, List.set_cons_zero, List.set_cons_succ]
        refine wpAnyE_take (i := 4) (v := ?_) (listed' := #[true, true, true, true, true, false, false, false, false, false, false, false, false, false, false, false, false, false, false, false, false, false, false, false, false, false]) (by rfl) (by kernel_rfl) (by kernel_rfl) calm_put hS (by rfl) ?_ ?_
        rotate_left
        · intro W hW; clear hW; go_simp; try (with_reducible rfl)
        simp only [Act.put, List.getElem_toArray, List.getElem_cons_succ, List.getElem_cons_zero, List.setIfInBounds_toArray, List.set_cons_zero, List.set_cons_succ]
        refine wpAnyE_take (i := 5) (v := .agg (u8s (secN (x))).toArray) (listed' := #[true, true, true, true, true, true, false, false, false, false, false, false, false, false, false, false, false, false, false, false, false, false, false, false, false, false]) (by rfl) (by kernel_rfl) (by kernel_rfl) calm_put hS (by rfl) ?_ ?_
        · intro W hW; skip; exact exec_load_sec _ rfl Sy rfl (secN (x)) (secN_len _) (by simpa using Cells.of_block hW.2.2.1)
        simp only [Act.put, List.getElem_toArray, List.getElem_cons_succ, List.getElem_cons_zero, List.setIfInBounds_toArray, List.set_cons_zero, List.set_cons_succ]
        refine wpAnyE_take (i := 6) (v := .agg (u8s (secN (x))).toArray) (listed' := #[true, true, true, true, true, true, true, false, false, false, false, false, false, false, false, false, false, false, false, false, false, false, false, false, false, false]) (by rfl) (by kernel_rfl) (by kernel_rfl) calm_put hS (by rfl) ?_ ?_
        · intro W hW; skip; exact exec_load_sec _ rfl Sx rfl (secN (x)) (secN_len _) (by simpa using Cells.of_block hW.2.1)
        simp only [Act.put, List.getElem_toArray, List.getElem_cons_succ, List.getElem_cons_zero, List.setIfInBounds_toArray, List.set_cons_zero, List.set_cons_succ]
        refine wpAnyE_take (i := 7) (v := .bool false) (listed' := #[true, true, true, true, true, true, true, true, false, false, false, false, false, false, false, false, false, false, false, false, false, false, false, false, false, false]) (by rfl) (by kernel_rfl) (by kernel_rfl) calm_put hS (by rfl) ?_ ?_
        · intro W hW; clear hW; exact exec_cmp_secN _ _ rfl (secN (x)) (secN_len _) rfl rfl
        simp only [Act.put, List.getElem_toArray, List.getElem_cons_succ, List.getElem_cons_zero, List.setIfInBounds_toArray, List.set_cons_zero, List.set_cons_succ]
        refine wpAnyE_take (i := 8) (v := ?_) (listed' := #[true, true, true, true, true, true, true, true, true, false, false, false, false, false, false, false, false, false, false, false, false, false, false, false, false, false]) (by rfl) (by kernel_rfl) (by kernel_rfl) calm_put hS (by rfl) ?_ ?_
        rotate_left
        · intro W hW; clear hW; go_simp; try (with_reducible rfl)
        simp only [Act.put, List.getElem_toArray, List.getElem_cons_succ, List.getElem_cons_zero, List.setIfInBounds_toArray, List.set_cons_zero, List.set_cons_succ]
        refine wpAnyE_take (i := 9) (v := ?_) (listed' := #[true, true, true, true, true, true, true, true, true, true, false, false, false, false, false, false, false, false, false, false, false, false, false, false, false, false]) (by rfl) (by kernel_rfl) (by kernel_rfl) calm_put hS (by rfl) ?_ ?_
        rotate_left
        · intro W hW; clear hW; go_simp; try (with_reducible rfl)
        simp only [Act.put, List.getElem_toArray, List.getElem_cons_succ, List.getElem_cons_zero, List.setIfInBounds_toArray, List.set_cons_zero, List.set_cons_succ]
        refine wpAnyE_take (i := 10) (v := .agg (u8s (secN (x))).toArray) (listed' := #[true, true, true, true, true, true, true, true, true, true, true, false, false, false, false, false, false, false, false, false, false, false, false, false, false, false]) (by rfl) (by kernel_rfl) (by kernel_rfl) calm_put hS (by rfl) ?_ ?_
        · intro W hW; skip; exact exec_load_sec _ rfl Ss rfl (secN (x)) (secN_len _) (by simpa using Cells.of_block hW.2.2.2)
        simp only [Act.put, List.getElem_toArray, List.getElem_cons_succ, List.getElem_cons_zero, List.setIfInBounds_toArray, List.set_cons_zero, List.set_cons_succ]
        refine wpAnyE_take (i := 11) (v := .agg (u8s (secN (x))).toArray) (listed' := #[true, true, true, true, true, true, true, true, true, true, true, true, false, false, false, false, false, false, false, false, false, false, false, false, false, false]) (by rfl) (by kernel_rfl) (by kernel_rfl) calm_put hS (by rfl) ?_ ?_
        · intro W hW; skip; exact exec_load_sec _ rfl Sx rfl (secN (x)) (secN_len _) (by simpa using Cells.of_block hW.2.1)
        simp only [Act.put, List.getElem_toArray, List.getElem_cons_succ, List.getElem_cons_zero, List.setIfInBounds_toArray, List.set_cons_zero, List.set_cons_succ]
        refine wpAnyE_take (i := 12) (v := .bool false) (listed' := #[true, true, true, true, true, true, true, true, true, true, true, true, true, false, false, false, false, false, false, false, false, false, false, false, false, false]) (by rfl) (by kernel_rfl) (by kernel_rfl) calm_put hS (by rfl) ?_ ?_
        · intro W hW; clear hW; exact exec_cmp_secN _ _ rfl (secN (x)) (secN_len _) rfl rfl
        simp only [Act.put, List.getElem_toArray, List.getElem_cons_succ, List.getElem_cons_zero, List.setIfInBounds_toArray, List.set_cons_zero, List.set_cons_succ]
        refine wpAnyE_take (i := 13) (v := ?_) (listed' := #[true, true, true, true, true, true, true, true, true, true, true, true, true, true, false, false, false, false, false, false, false, false, false, false, false, false]) (by rfl) (by kernel_rfl) (by kernel_rfl) calm_put hS (by rfl) ?_ ?_
        rotate_left
        · intro W hW; clear hW; go_simp; try (with_reducible rfl)
        simp only [Act.put, List.getElem_toArray, List.getElem_cons_succ, List.getElem_cons_zero, List.setIfInBounds_toArray, List.set_cons_zero, List.set_cons_succ]
        refine wpAnyE_take (i := 14) (v := ?_) (listed' := #[true, true, true, true, true, true, true, true, true, true, true, true, true, true, true, false, false, false, false, false, false, false, false, false, false, false]) (by rfl) (by kernel_rfl) (by kernel_rfl) calm_put hS (by rfl) ?_ ?_
        rotate_left
        · intro W hW; clear hW; go_simp; try (with_reducible rfl)
        simp only [Act.put, List.getElem_toArray, List.getElem_cons_succ, List.getElem_cons_zero, List.setIfInBounds_toArray, List.set_cons_zero, List.set_cons_succ]
        refine wpAnyE_take (i := 15) (v := ?_) (listed' := #[true, true, true, true, true, true, true, true, true, true, true, true, true, true, true, true, false, false, false, false, false, false, false, false, false, false]) (by rfl) (by kernel_rfl) (by kernel_rfl) calm_put hS (by rfl) ?_ ?_
        rotate_left
        · intro W hW; clear hW; go_simp; try (with_reducible rfl)
        simp only [Act.put, List.getElem_toArray, List.getElem_cons_succ, List.getElem_cons_zero, List.setIfInBounds_toArray, List.set_cons_zero, List.set_cons_succ]
        refine wpAnyE_take (i := 16) (v := ?_) (listed' := #[true, true, true, true, true, true, true, true, true, true, true, true, true, true, true, true, true, false, false, false, false, false, false, false, false, false]) (by rfl) (by kernel_rfl) (by kernel_rfl) calm_put hS (by rfl) ?_ ?_
        rotate_left
        · intro W hW; clear hW; go_simp; try (with_reducible rfl)
        simp only [Act.put, List.getElem_toArray, List.getElem_cons_succ, List.getElem_cons_zero, List.setIfInBounds_toArray, List.set_cons_zero, List.set_cons_succ]
        refine wpAnyE_take (i := 17) (v := ?_) (listed' := #[true, true, true, true, true, true, true, true, true, true, true, true, true, true, true, true, true, true, false, false, false, false, false, false, false, false]) (by rfl) (by kernel_rfl) (by kernel_rfl) calm_put hS (by rfl) ?_ ?_
        rotate_left
        · intro W hW; clear hW; go_simp; try (with_reducible rfl)
        simp only [Act.put, List.getElem_toArray, List.getElem_cons_succ, List.getElem_cons_zero, List.setIfInBounds_toArray, List.set_cons_zero, List.set_cons_succ]
        refine wpAnyE_take (i := 18) (v := ?_) (listed' := #[true, true, true, true, true, true, true, true, true, true, true, true, true, true, true, true, true, true, true, false, false, false, false, false, false, false]) (by rfl) (by kernel_rfl) (by kernel_rfl) calm_put hS (by rfl) ?_ ?_
        rotate_left
        · intro W hW; clear hW; go_simp; try (with_reducible rfl)
        simp only [Act.put, List.getElem_toArray, List.getElem_cons_succ, List.getElem_cons_zero, List.setIfInBounds_toArray, List.set_cons_zero, List.set_cons_succ]
        refine wpAnyE_take (i := 19) (v := ?_) (listed' := #[true, true, true, true, true, true, true, true, true, true, true, true, true, true, true, true, true, true, true, true, false, false, false, false, false, false]) (by rfl) (by kernel_rfl) (by kernel_rfl) calm_put hS (by rfl) ?_ ?_
        rotate_left
        · intro W hW; clear hW; go_simp; try (with_reducible rfl)
        simp only [Act.put, List.getElem_toArray, List.getElem_cons_succ, List.getElem_cons_zero, List.setIfInBounds_toArray, List.set_cons_zero, List.set_cons_succ]
        refine wpAnyE_take (i := 20) (v := ?_) (listed' := #[true, true, true, true, true, true, true, true, true, true, true, true, true, true, true, true, true, true, true, true, true, false, false, false, false, false]) (by rfl) (by kernel_rfl) (by kernel_rfl) calm_put hS (by rfl) ?_ ?_
        rotate_left
        · intro W hW; clear hW; go_simp; try (with_reducible rfl)
        simp only [Act.put, List.getElem_toArray, List.getElem_cons_succ, List.getElem_cons_zero, List.setIfInBounds_toArray, List.set_cons_zero, List.set_cons_succ]
        refine wpAnyE_take (i := 21) (v := ?_) (listed' := #[true, true, true, true, true, true, true, true, true, true, true, true, true, true, true, true, true, true, true, true, true, true, false, false, false, false]) (by rfl) (by kernel_rfl) (by kernel_rfl) calm_put hS (by rfl) ?_ ?_
        rotate_left
        · intro W hW; clear hW; go_simp; try (with_reducible rfl)
        simp only [Act.put, List.getElem_toArray, List.getElem_cons_succ, List.getElem_cons_zero, List.setIfInBounds_toArray, List.set_cons_zero, List.set_cons_succ]
        refine wpAnyE_take (i := 22) (v := ?_) (listed' := #[true, true, true, true, true, true, true, true, true, true, true, true, true, true, true, true, true, true, true, true, true, true, true, false, false, false]) (by rfl) (by kernel_rfl) (by kernel_rfl) calm_put hS (by rfl) ?_ ?_
        rotate_left
        · intro W hW; clear hW; go_simp; try (with_reducible rfl)
        simp only [Act.put, List.getElem_toArray, List.getElem_cons_succ, List.getElem_cons_zero, List.setIfInBounds_toArray, List.set_cons_zero, List.set_cons_succ]
        refine wpAnyE_take (i := 23) (v := ?_) (listed' := #[true, true, true, true, true, true, true, true, true, true, true, true, true, true, true, true, true, true, true, true, true, true, true, true, false, false]) (by rfl) (by kernel_rfl) (by kernel_rfl) calm_put hS (by rfl) ?_ ?_
        rotate_left
        · intro W hW; clear hW; go_simp; try (with_reducible rfl)
        simp only [Act.put, List.getElem_toArray, List.getElem_cons_succ, List.getElem_cons_zero, List.setIfInBounds_toArray, List.set_cons_zero, List.set_cons_succ]
        refine wpAnyE_take (i := 24) (v := ?_) (listed' := #[true, true, true, true, true, true, true, true, true, true, true, true, true, true, true, true, true, true, true, true, true, true, true, true, true, false]) (by rfl) (by kernel_rfl) (by kernel_rfl) calm_put hS (by rfl) ?_ ?_
        rotate_left
        · intro W hW; clear hW; go_simp; try (with_reducible rfl)
        simp only [Act.put, List.getElem_toArray, List.getElem_cons_succ, List.getElem_cons_zero, List.setIfInBounds_toArray, List.set_cons_zero, List.set_cons_succ]
        refine wpAnyE_take (i := 25) (v := ?_) (listed' := #[true, true, true, true, true, true, true, true, true, true, true, true, true, true, true, true, true, true, true, true, true, true, true, true, true, true]) (by rfl) (by kernel_rfl) (by kernel_rfl) calm_put hS (by rfl) ?_ ?_
        rotate_left
        · intro W hW; clear hW; go_simp; try (with_reducible rfl)
        simp only [Act.put, List.getElem_toArray, List.getElem_cons_succ, List.getElem_cons_zero, List.setIfInBounds_toArray, List.set_cons_zero, List.set_cons_succ]
        refine wpAnyE_done (by kernel_rfl) ?_ _
        refine calm_normal ?_
        have hk := hS.1
        have HB14 := Lib.hid ((HB13.out.kept hk).1)
        have HC14 := Lib.hid (Cells.kept HC13.out hk)
        have HGL14 := Lib.hid (Nat.lt_of_lt_of_le HGL13.out hk.size)
        have HX14 := Lib.hid (hk.block HX13.out)
        have HY14 := Lib.hid (hk.block HY13.out)
        have HZ14 := Lib.hid (hk.block HZ13.out)
        clear hS
        clear HB13 HC13 HGL13 HX13 HY13 HZ13 hk
        generalize wsec = w14 at *
        go_wp2
        go_roundw
        case rel => exact ⟨t + 1, T2, hlt, by go_num, HP2, Lib.hid (HB14.out.less (fun k hk => by simp at hk ⊢; exact .inr (.inr (.inr (.inr hk))))), HC14, HGL14⟩
        case measure => simp [intOf]; omega
      · skip
        obtain ⟨T2, e2, i2, r0, r1, rl⟩ := HP.out.step hlt ((t : Int))
        have HU := Lib.hid (HP.out.use (by omega)); have HU2 := Lib.hid (i2.use (by omega)); have HI := Lib.hid HP.out.still.inv; have HT := Lib.hid (And.intro (show T.l.length ≠ 0 by rw [HP.out.still.len]; decide) (And.intro (show T.clock < 900000000 by have := HP.out.clk; omega) (show T.writes < 900000000 by have := HP.out.wri; omega)))
        have HE := Lib.hid e2; have HP2 := Lib.hid i2; have HR0 := Lib.hid r0; have HR1 := Lib.hid r1; have HRL := Lib.hid rl; have H77 := Lib.hid h77
        clear e2 i2 r0 r1 rl h77 HP
        go_wp2_with fail
        refine Calls.mono (s_sector ((t : Int)) _) ?_
        rintro e w5 ⟨rfl, hk⟩
        have HB5 := Lib.hid ((HB4.out.kept hk).1)
        have HC5 := Lib.hid (Cells.kept HC4.out hk)
        have HGL5 := Lib.hid (Nat.lt_of_lt_of_le HGL4.out hk.size)
        clear HB4 HC4 HGL4 hk 
        go_wp2_with (refine stop_at (o := ⟨some 45, _, _, _, _, _⟩) ?_)
        refine Stop.mk ?_
        refine wpList_secs rfl 1 _ rfl [secN ((t : Int))] rfl (by decide) (by decide) (fun s hs => by simp at hs; rcases hs with rfl; exact secN_len _) (by simp [Act.eval, List.zipIdx, secV]) ?_
        intro w6 hz hs hk
        have HSS6 := hz
        have HB6 := Lib.hid (BK.push HB5.out hk _ (Nat.le_refl _) hs)
        have HC6 := Lib.hid (Cells.kept HC5.out hk)
        have HGL6 := Lib.hid (Nat.lt_of_lt_of_le HGL5.out hk.size)
        have GE_Sb := Lib.hid (HB5.out.keeps.size)
        generalize w5.heap.size = Sb at *
        clear HB5 HC5 HGL5 hz hs hk 
        go_wp2_with fail
        have hc := st_WriteFull HB6.out HI.out HT.out.1 HT.out.2.1 HT.out.2.2 (HES.out _ HC6.out HGL6.out) near2 (by decide) t (by decide) hlt (sv := .slice (some ⟨Sb, 0, none⟩) 1 1) (S := [secN ((t : Int))]) (.inr ⟨Sb, 0, 1, rfl, Nat.le_refl 1, (Array.getElem?_eq_some_iff.1 HSS6.out).1, by simpa using Cells.of_block HSS6.out⟩) (fun s hs => by simp at hs; rcases hs with rfl; exact secN_sec _) rfl
        rw [HE.out] at hc
        refine Calls.mono (hc) ?_
        rintro e w7 ⟨rfl, hb, hr⟩
        have HB7 : Hid (BK w (fun k => k ∈ ([Sb, g] : List Nat)) w7 q T2) := Lib.hid hb
        have HC7 := Lib.hid (hr.cells (B := g) (by simp) HC6.out)
        have HGL7 := Lib.hid ((BK.lt_of hb (B := g) (by simp)))
        have HSS7 := Lib.hid ((hr Sb (by simp)).trans HSS6.out)
        clear HB6 HC6 HGL6 HSS6 hb hr hc HE HU HI HT
        clear HSS7
        go_wp2_with fail
        refine Calls.mono (st_read HB7.out HU2.out 0 (t : Int) HR0.out) ?_
        rintro e w8 ⟨rfl, _, hk⟩
        have HB8 := Lib.hid ((HB7.out.kept hk).1)
        have HC8 := Lib.hid (Cells.kept HC7.out hk)
        have HGL8 := Lib.hid (Nat.lt_of_lt_of_le HGL7.out hk.size)
        clear HB7 HC7 HGL7 hk 
        go_wp2_with (refine stop_at (o := ⟨some 10, _, _, _, _, _⟩) ?_)
        refine Stop.mk ?_
        refine wpList_new_row rfl rfl _ _ rfl rfl ty_sec (u8s zeroB) zero_sec (by rw [u8s_length, zeroB_length]) (u8s (secN ((t : Int)))) rfl (by rw [u8s_length, secN_len]) (u8s_one _) rfl ?_
        intro w9 hz hs hk
        have HX9 := hz
        have HB9 := Lib.hid (BK.push HB8.out hk _ (Nat.le_refl _) hs)
        have HC9 := Lib.hid (Cells.kept HC8.out hk)
        have HGL9 := Lib.hid (Nat.lt_of_lt_of_le HGL8.out hk.size)
        have GE_Sx := Lib.hid (HB8.out.keeps.size)
        generalize w8.heap.size = Sx at *
        clear HB8 HC8 HGL8 hz hs hk 
        go_wp2_with fail
        refine Calls.mono (st_read HB9.out HU2.out 1 (1 + (t : Int)) HR1.out) ?_
        rintro e w10 ⟨rfl, _, hk⟩
        have HB10 := Lib.hid ((HB9.out.kept hk).1)
        have HC10 := Lib.hid (Cells.kept HC9.out hk)
        have HGL10 := Lib.hid (Nat.lt_of_lt_of_le HGL9.out hk.size)
        have HX10 := Lib.hid (hk.block HX9.out)
        clear HB9 HC9 HGL9 HX9 hk 
        go_wp2_with (refine stop_at (o := ⟨some 12, _, _, _, _, _⟩) ?_)
        refine Stop.mk ?_
        refine wpList_new_row rfl rfl _ _ rfl rfl ty_sec (u8s zeroB) zero_sec (by rw [u8s_length, zeroB_length]) (u8s (secN ((t : Int)))) rfl (by rw [u8s_length, secN_len]) (u8s_one _) rfl ?_
        intro w11 hz hs hk
        have HY11 := hz
        have HB11 := Lib.hid (BK.push HB10.out hk _ (Nat.le_refl _) hs)
        have HC11 := Lib.hid (Cells.kept HC10.out hk)
        have HGL11 := Lib.hid (Nat.lt_of_lt_of_le HGL10.out hk.size)
        have HX11 := Lib.hid (hk.block HX10.out)
        have GE_Sy := Lib.hid (HB10.out.keeps.size)
        generalize w10.heap.size = Sy at *
        clear HB10 HC10 HGL10 HX10 hz hs hk 
        go_wp2_with fail
        have hc := st_Read HB11.out HU2.out (HES.out _ HC11.out HGL11.out) near2 (by decide) (t : Int) t (t % 2) (by decide) hlt (by show t % 2 < 2; omega) H77.out
        rw [HRL.out] at hc
        refine Calls.mono (hc) ?_
        rintro e w12 ⟨rfl, hk⟩
        have HB12 := Lib.hid ((HB11.out.kept hk).1)
        have HC12 := Lib.hid (Cells.kept HC11.out hk)
        have HGL12 := Lib.hid (Nat.lt_of_lt_of_le HGL11.out hk.size)
        have HX12 := Lib.hid (hk.block HX11.out)
        have HY12 := Lib.hid (hk.block HY11.out)
        clear HB11 HC11 HGL11 HX11 HY11 hk hc HRL H77
        go_wp2_with (refine stop_at (o := ⟨some 14, _, _, _, _, _⟩) ?_)
        refine Stop.mk ?_
        refine wpList_new_row rfl rfl _ _ rfl rfl ty_sec (u8s zeroB) zero_sec (by rw [u8s_length, zeroB_length]) (u8s (secN ((t : Int)))) rfl (by rw [u8s_length, secN_len]) (u8s_one _) rfl ?_
        intro w13 hz hs hk
        have HZ13 := hz
        have HB13 := Lib.hid (BK.push HB12.out hk _ (Nat.le_refl _) hs)
        have HC13 := Lib.hid (Cells.kept HC12.out hk)
        have HGL13 := Lib.hid (Nat.lt_of_lt_of_le HGL12.out hk.size)
        have HX13 := Lib.hid (hk.block HX12.out)
        have HY13 := Lib.hid (hk.block HY12.out)
        have GE_Ss := Lib.hid (HB12.out.keeps.size)
        generalize w12.heap.size = Ss at *
        clear HB12 HC12 HGL12 HX12 HY12 hz hs hk 
        go_upto_region 17 with fail
        have hS : Kept w13 w13.drew ∧ w13.drew.heap[Sx]? = some (.cells (u8s (secN ((t : Int)))).toArray 34 (0, 0)) ∧ w13.drew.heap[Sy]? = some (.cells (u8s (secN ((t : Int)))).toArray 34 (0, 0)) ∧ w13.drew.heap[Ss]? = some (.cells (u8s (secN ((t : Int)))).toArray 34 (0, 0)) := ⟨(Kept.refl _).drew, HX13.out, HY13.out, HZ13.out⟩
        refine wp_region_calm ?_
        refine wp_region_E (fun W => Kept w13 W ∧ W.heap[Sx]? = some (.cells (u8s (secN ((t : Int)))).toArray 34 (0, 0)) ∧ W.heap[Sy]? = some (.cells (u8s (secN ((t : Int)))).toArray 34 (0, 0)) ∧ W.heap[Ss]? = some (.cells (u8s (secN ((t : Int)))).toArray 34 (0, 0))) 100 (by kernel_rfl) ?_
        refine wpAnyE_take (i := 0) (v := .agg (u8s (secN ((t : Int)))).toArray) (listed' := #[true, false, false, false, false, false, false, false, false, false, false, false, false, false, false, false, false, false, false, false, false, false, false, false, false, false]) (by rfl) (by kernel_rfl) (by kernel_rfl) calm_put hS (by rfl) ?_ ?_
        · intro W hW; skip; exact exec_load_sec _ rfl Sx rfl (secN ((t : Int))) (secN_len _) (by simpa using Cells.of_block hW.2.1)
        simp only [Act.put, List.getElem_toArray, List.getElem_cons_succ, List.getElem_cons_zero, List.setIfInBounds_toArray, List.set_cons_zero, List.set_cons_succ]
        refine wpAnyE_take (i := 1) (v := ?_) (listed' := #[true, true, false, false, false, false, false, false, false, false, false, false, false, false, false, false, false, false, false, false, false, false, false, false, false, false]) (by rfl) (by kernel_rfl) (by kernel_rfl) calm_put hS (by rfl) ?_ ?_
        rotate_left
        · intro W hW; clear hW; go_simp; try (with_reducible rfl)
        simp only [Act.put, List.getElem_toArray, List.getElem_cons_succ, List.getElem_cons_zero, List.setIfInBounds_toArray, List.set_cons_zero, List.set_cons_succ]
        refine wpAnyE_one (i := 2) (listed' := #[true, true, true, false, false, false, false, false, false, false, false, false, false, false, false, false, false, false, false, false, false, false, false, false, false, false]) (by rfl) (by kernel_rfl) (by kernel_rfl) (by rfl) (fun K hK => ?_)
        simp only [Act.put, List.getElem_toArray, List.getElem_cons_succ, List.getElem_cons_zero, List.setIfInBounds_toArray, List.set_cons_zero, List.set_cons_succ]
        go_wp2_with fail
        refine Calls.mono (s_sector ((t : Int)) _) ?_
        rintro e wsec ⟨rfl, hks⟩
        have hS := (⟨hS.1.trans hks, hks.block hS.2.1, hks.block hS.2.2.1, hks.block hS.2.2.2⟩ : _ ∧ _ ∧ _ ∧ _)
        clear hks
        refine hK _ _ (fun _ => hS) ?_; clear hK K
        refine wpAnyE_take (i := 3) (v := .bool false) (listed' := #[true, true, true, true, false, false, false, false, false, false, false, false, false, false, false, false, false, false, false, false, false, false, false, false, false, false]) (by rfl) (by kernel_rfl) (by kernel_rfl) calm_put hS (by rfl) ?_ ?_
        · intro W hW; clear hW; exact exec_cmp_secN _ _ rfl (secN ((t : Int))) (secN_len _) rfl rfl
        simp only [Act.put, List.getElem_toArray, List.getElem_cons_succ, List.getElem_cons_zero, List.setIfInBounds_toArray, List.set_cons_zero, List.set_cons_succ]
        refine wpAnyE_take (i := 4) (v := ?_) (listed' := #[true, true, true, true, true, false, false, false, false, false, false, false, false, false, false, false, false, false, false, false, false, false, false, false, false, false]) (by rfl) (by kernel_rfl) (by kernel_rfl) calm_put hS (by rfl) ?_ ?_
        rotate_left
        · intro W hW; clear hW; go_simp; try (with_reducible rfl)
        simp only [Act.put, List.getElem_toArray, List.getElem_cons_succ, List.getElem_cons_zero, List.setIfInBounds_toArray, List.set_cons_zero, List.set_cons_succ]
        refine wpAnyE_take (i := 5) (v := .agg (u8s (secN ((t : Int)))).toArray) (listed' := #[true, true, true, true, true, true, false, false, false, false, false, false, false, false, false, false, false, false, false, false, false, false, false, false, false, false]) (by rfl) (by kernel_rfl) (by kernel_rfl) calm_put hS (by rfl) ?_ ?_
        · intro W hW; skip; exact exec_load_sec _ rfl Sy rfl (secN ((t : Int))) (secN_len _) (by simpa using Cells.of_block hW.2.2.1)
        simp only [Act.put, List.getElem_toArray, List.getElem_cons_succ, List.getElem_cons_zero, List.setIfInBounds_toArray, List.set_cons_zero, List.set_cons_succ]
        refine wpAnyE_take (i := 6) (v := .agg (u8s (secN ((t : Int)))).toArray) (listed' := #[true, true, true, true, true, true, true, false, false, false, false, false, false, false, false, false, false, false, false, false, false, false, false, false, false, false]) (by rfl) (by kernel_rfl) (by kernel_rfl) calm_put hS (by rfl) ?_ ?_
        · intro W hW; skip; exact exec_load_sec _ rfl Sx rfl (secN ((t : Int))) (secN_len _) (by simpa using Cells.of_block hW.2.1)
        simp only [Act.put, List.getElem_toArray, List.getElem_cons_succ, List.getElem_cons_zero, List.setIfInBounds_toArray, List.set_cons_zero, List.set_cons_succ]
        refine wpAnyE_take (i := 7) (v := .bool false) (listed' := #[true, true, true, true, true, true, true, true, false, false, false, false, false, false, false, false, false, false, false, false, false, false, false, false, false, false]) (by rfl) (by kernel_rfl) (by kernel_rfl) calm_put hS (by rfl) ?_ ?_
        · intro W hW; clear hW; exact exec_cmp_secN _ _ rfl (secN ((t : Int))) (secN_len _) rfl rfl
        simp only [Act.put, List.getElem_toArray, List.getElem_cons_succ, List.getElem_cons_zero, List.setIfInBounds_toArray, List.set_cons_zero, List.set_cons_succ]
        refine wpAnyE_take (i := 8) (v := ?_) (listed' := #[true, true, true, true, true, true, true, true, true, false, false, false, false, false, false, false, false, false, false, false, false, false, false, false, false, false]) (by rfl) (by kernel_rfl) (by kernel_rfl) calm_put hS (by rfl) ?_ ?_
        rotate_left
        · intro W hW; clear hW; go_simp; try (with_reducible rfl)
        simp only [Act.put, List.getElem_toArray, List.getElem_cons_succ, List.getElem_cons_zero, List.setIfInBounds_toArray, List.set_cons_zero, List.set_cons_succ]
        refine wpAnyE_take (i := 9) (v := ?_) (listed' := #[true, true, true, true, true, true, true, true, true, true, false, false, false, false, false, false, false, false, false, false, false, false, false, false, false, false]) (by rfl) (by kernel_rfl) (by kernel_rfl) calm_put hS (by rfl) ?_ ?_
        rotate_left
        · intro W hW; clear hW; go_simp; try (with_reducible rfl)
        simp only [Act.put, List.getElem_toArray, List.getElem_cons_succ, List.getElem_cons_zero, List.setIfInBounds_toArray, List.set_cons_zero, List.set_cons_succ]
        refine wpAnyE_take (i := 10) (v := .agg (u8s (secN ((t : Int)))).toArray) (listed' := #[true, true, true, true, true, true, true, true, true, true, true, false, false, false, false, false, false, false, false, false, false, false, false, false, false, false]) (by rfl) (by kernel_rfl) (by kernel_rfl) calm_put hS (by rfl) ?_ ?_
        · intro W hW; skip; exact exec_load_sec _ rfl Ss rfl (secN ((t : Int))) (secN_len _) (by simpa using Cells.of_block hW.2.2.2)
        simp only [Act.put, List.getElem_toArray, List.getElem_cons_succ, List.getElem_cons_zero, List.setIfInBounds_toArray, List.set_cons_zero, List.set_cons_succ]
        refine wpAnyE_take (i := 11) (v := .agg (u8s (secN ((t : Int)))).toArray) (listed' := #[true, true, true, true, true, true, true, true, true, true, true, true, false, false, false, false, false, false, false, false, false, false, false, false, false, false]) (by rfl) (by kernel_rfl) (by kernel_rfl) calm_put hS (by rfl) ?_ ?_
        · intro W hW; skip; exact exec_load_sec _ rfl Sx rfl (secN ((t : Int))) (secN_len _) (by simpa using Cells.of_block hW.2.1)
        simp only [Act.put, List.getElem_toArray, List.getElem_cons_succ, List.getElem_cons_zero, List.setIfInBounds_toArray, List.set_cons_zero, List.set_cons_succ]
        refine wpAnyE_take (i := 12) (v := .bool false) (listed' := #[true, true, true, true, true, true, true, true, true, true, true, true, true, false, false, false, false, false, false, false, false, false, false, false, false, false]) (by rfl) (by kernel_rfl) (by kernel_rfl) calm_put hS (by rfl) ?_ ?_
        · intro W hW; clear hW; exact exec_cmp_secN _ _ rfl (secN ((t : Int))) (secN_len _) rfl rfl
        simp only [Act.put, List.getElem_toArray, List.getElem_cons_succ, List.getElem_cons_zero, List.setIfInBounds_toArray, List.set_cons_zero, List.set_cons_succ]
        refine wpAnyE_take (i := 13) (v := ?_) (listed' := #[true, true, true, true, true, true, true, true, true, true, true, true, true, true, false, false, false, false, false, false, false, false, false, false, false, false]) (by rfl) (by kernel_rfl) (by kernel_rfl) calm_put hS (by rfl) ?_ ?_
        rotate_left
        · intro W hW; clear hW; go_simp; try (with_reducible rfl)
        simp only [Act.put, List.getElem_toArray, List.getElem_cons_succ, List.getElem_cons_zero, List.setIfInBounds_toArray, List.set_cons_zero, List.set_cons_succ]
        refine wpAnyE_take (i := 14) (v := ?_) (listed' := #[true, true, true, true, true, true, true, true, true, true, true, true, true, true, true, false, false, false, false, false, false, false, false, false, false, false]) (by rfl) (by kernel_rfl) (by kernel_rfl) calm_put hS (by rfl) ?_ ?_
        rotate_left
        · intro W hW; clear hW; go_simp; try (with_reducible rfl)
        simp only [Act.put, List.getElem_toArray, List.getElem_cons_succ, List.getElem_cons_zero, List.setIfInBounds_toArray, List.set_cons_zero, List.set_cons_succ]
        refine wpAnyE_take (i := 15) (v := ?_) (listed' := #[true, true, true, true, true, true, true, true, true, true, true, true, true, true, true, true, false, false, false, false, false, false, false, false, false, false]) (by rfl) (by kernel_rfl) (by kernel_rfl) calm_put hS (by rfl) ?_ ?_
        rotate_left
        · intro W hW; clear hW; go_simp; try (with_reducible rfl)
        simp only [Act.put, List.getElem_toArray, List.getElem_cons_succ, List.getElem_cons_zero, List.setIfInBounds_toArray, List.set_cons_zero, List.set_cons_succ]
        refine wpAnyE_take (i := 16) (v := ?_) (listed' := #[true, true, true, true, true, true, true, true, true, true, true, true, true, true, true, true, true, false, false, false, false, false, false, false, false, false]) (by rfl) (by kernel_rfl) (by kernel_rfl) calm_put hS (by rfl) ?_ ?_
        rotate_left
        · intro W hW; clear hW; go_simp; try (with_reducible rfl)
        simp only [Act.put, List.getElem_toArray, List.getElem_cons_succ, List.getElem_cons_zero, List.setIfInBounds_toArray, List.set_cons_zero, List.set_cons_succ]
        refine wpAnyE_take (i := 17) (v := ?_) (listed' := #[true, true, true, true, true, true, true, true, true, true, true, true, true, true, true, true, true, true, false, false, false, false, false, false, false, false]) (by rfl) (by kernel_rfl) (by kernel_rfl) calm_put hS (by rfl) ?_ ?_
        rotate_left
        · intro W hW; clear hW; go_simp; try (with_reducible rfl)
        simp only [Act.put, List.getElem_toArray, List.getElem_cons_succ, List.getElem_cons_zero, List.setIfInBounds_toArray, List.set_cons_zero, List.set_cons_succ]
        refine wpAnyE_take (i := 18) (v := ?_) (listed' := #[true, true, true, true, true, true, true, true, true, true, true, true, true, true, true, true, true, true, true, false, false, false, false, false, false, false]) (by rfl) (by kernel_rfl) (by kernel_rfl) calm_put hS (by rfl) ?_ ?_
        rotate_left
        · intro W hW; clear hW; go_simp; try (with_reducible rfl)
        simp only [Act.put, List.getElem_toArray, List.getElem_cons_succ, List.getElem_cons_zero, List.setIfInBounds_toArray, List.set_cons_zero, List.set_cons_succ]
        refine wpAnyE_take (i := 19) (v := ?_) (listed' := #[true, true, true, true, true, true, true, true, true, true, true, true, true, true, true, true, true, true, true, true, false, false, false, false, false, false]) (by rfl) (by kernel_rfl) (by kernel_rfl) calm_put hS (by rfl) ?_ ?_
        rotate_left
        · intro W hW; clear hW; go_simp; try (with_reducible rfl)
        simp only [Act.put, List.getElem_toArray, List.getElem_cons_succ, List.getElem_cons_zero, List.setIfInBounds_toArray, List.set_cons_zero, List.set_cons_succ]
        refine wpAnyE_take (i := 20) (v := ?_) (listed' := #[true, true, true, true, true, true, true, true, true, true, true, true, true, true, true, true, true, true, true, true, true, false, false, false, false, false]) (by rfl) (by kernel_rfl) (by kernel_rfl) calm_put hS (by rfl) ?_ ?_
        rotate_left
        · intro W hW; clear hW; go_simp; try (with_reducible rfl)
        simp only [Act.put, List.getElem_toArray, List.getElem_cons_succ, List.getElem_cons_zero, List.setIfInBounds_toArray, List.set_cons_zero, List.set_cons_succ]
        refine wpAnyE_take (i := 21) (v := ?_) (listed' := #[true, true, true, true, true, true, true, true, true, true, true, true, true, true, true, true, true, true, true, true, true, true, false, false, false, false]) (by rfl) (by kernel_rfl) (by kernel_rfl) calm_put hS (by rfl) ?_ ?_
        rotate_left
        · intro W hW; clear hW; go_simp; try (with_reducible rfl)
        simp only [Act.put, List.getElem_toArray, List.getElem_cons_succ, List.getElem_cons_zero, List.setIfInBounds_toArray, List.set_cons_zero, List.set_cons_succ]
        refine wpAnyE_take (i := 22) (v := ?_) (listed' := #[true, true, true, true, true, true, true, true, true, true, true, true, true, true, true, true, true, true, true, true, true, true, true, false, false, false]) (by rfl) (by kernel_rfl) (by kernel_rfl) calm_put hS (by rfl) ?_ ?_
        rotate_left
        · intro W hW; clear hW; go_simp; try (with_reducible rfl)
        simp only [Act.put, List.getElem_toArray, List.getElem_cons_succ, List.getElem_cons_zero, List.setIfInBounds_toArray, List.set_cons_zero, List.set_cons_succ]
        refine wpAnyE_take (i := 23) (v := ?_) (listed' := #[true, true, true, true, true, true, true, true, true, true, true, true, true, true, true, true, true, true, true, true, true, true, true, true, false, false]) (by rfl) (by kernel_rfl) (by kernel_rfl) calm_put hS (by rfl) ?_ ?_
        rotate_left
        · intro W hW; clear hW; go_simp; try (with_reducible rfl)
        simp only [Act.put, List.getElem_toArray, List.getElem_cons_succ, List.getElem_cons_zero, List.setIfInBounds_toArray, List.set_cons_zero, List.set_cons_succ]
        refine wpAnyE_take (i := 24) (v := ?_) (listed' := #[true, true, true, true, true, true, true, true, true, true, true, true, true, true, true, true, true, true, true, true, true, true, true, true, true, false]) (by rfl) (by kernel_rfl) (by kernel_rfl) calm_put hS (by rfl) ?_ ?_
        rotate_left
        · intro W hW; clear hW; go_simp; try (with_reducible rfl)
        simp only [Act.put, List.getElem_toArray, List.getElem_cons_succ, List.getElem_cons_zero, List.setIfInBounds_toArray, List.set_cons_zero, List.set_cons_succ]
        refine wpAnyE_take (i := 25) (v := ?_) (listed' := #[true, true, true, true, true, true, true, true, true, true, true, true, true, true, true, true, true, true, true, true, true, true, true, true, true, true]) (by rfl) (by kernel_rfl) (by kernel_rfl) calm_put hS (by rfl) ?_ ?_
        rotate_left
        · intro W hW; clear hW; go_simp; try (with_reducible rfl)
        simp only [Act.put, List.getElem_toArray, List.getElem_cons_succ, List.getElem_cons_zero, List.setIfInBounds_toArray, List.set_cons_zero, List.set_cons_succ]
        refine wpAnyE_done (by kernel_rfl) ?_ _
        refine calm_normal ?_
        have hk := hS.1
        have HB14 := Lib.hid ((HB13.out.kept hk).1)
        have HC14 := Lib.hid (Cells.kept HC13.out hk)
        have HGL14 := Lib.hid (Nat.lt_of_lt_of_le HGL13.out hk.size)
        have HX14 := Lib.hid (hk.block HX13.out)
        have HY14 := Lib.hid (hk.block HY13.out)
        have HZ14 := Lib.hid (hk.block HZ13.out)
        clear hS
        clear HB13 HC13 HGL13 HX13 HY13 HZ13 hk
        generalize wsec = w14 at *
        go_wp2
        go_roundw
        case rel => exact ⟨t + 1, T2, hlt, by go_num, HP2, Lib.hid (HB14.out.less (fun k hk => by simp at hk ⊢; exact .inr (.inr (.inr (.inr hk))))), HC14, HGL14⟩
        case measure => simp [intOf]; omega
    · have ht8 : t = 8 := by omega
      subst ht8
      have H8 := Lib.hid (two_k y hyl')
      obtain ⟨g1, g2, g3⟩ := HP.out.plug hyl' (secN_sec a1)
      have HG := Lib.hid (And.intro g1 g2); have HPG := Lib.hid g3; have HU := Lib.hid (HP.out.use (by omega))
      clear g1 g2 g3 HP ht hlt
      go_wp2_with fail
      refine Calls.mono (s_sector a1 _) ?_
      rintro e w5 ⟨rfl, hk⟩
      have HB5 := Lib.hid ((HB4.out.kept hk).1)
      have HC5 := Lib.hid (Cells.kept HC4.out hk)
      have HGL5 := Lib.hid (Nat.lt_of_lt_of_le HGL4.out hk.size)
      clear HB4 HC4 HGL4 hk 
      try simp only [hy]
      go_wp2_with fail
      have hc := st_Plug HB5.out HU.out (HES.out _ HC5.out HGL5.out) near2 (by decide) (y : Int) y (y % 2) (by decide) hyl' (by show y % 2 < 2; omega) H8.out (secN_sec a1)
      rw [HPG.out] at hc
      refine Calls.mono (hc) ?_
      rintro e w6 ⟨rfl, hk⟩
      have HB6 := Lib.hid ((HB5.out.kept hk).1)
      have HC6 := Lib.hid (Cells.kept HC5.out hk)
      have HGL6 := Lib.hid (Nat.lt_of_lt_of_le HGL5.out hk.size)
      clear HB5 HC5 HGL5 hk hc HPG HG H8
      go_wp2_with (refine stop_at (o := ⟨some 16, _, _, _, _, _⟩) ?_)
      refine Stop.mk ?_
      refine wpList_new_row rfl rfl _ _ rfl rfl ty_sec (u8s zeroB) zero_sec (by rw [u8s_length, zeroB_length]) (u8s (secN a1)) rfl (by rw [u8s_length, secN_len]) (u8s_one _) rfl ?_
      intro w7 hz hs hk
      have HX7 := hz
      have HB7 := Lib.hid (BK.push HB6.out hk _ (Nat.le_refl _) hs)
      have HC7 := Lib.hid (Cells.kept HC6.out hk)
      have HGL7 := Lib.hid (Nat.lt_of_lt_of_le HGL6.out hk.size)
      have GE_Sx := Lib.hid (HB6.out.keeps.size)
      generalize w6.heap.size = Sx at *
      clear HB6 HC6 HGL6 hz hs hk 
      go_upto_region 20 with fail
      have hS : Kept w w7.drew ∧ w7.drew.heap[Sx]? = some (.cells (u8s (secN a1)).toArray 34 (0, 0)) := ⟨HB7.out.keeps.trans (Kept.refl _).drew, HX7.out⟩
      refine wp_region_calm ?_
      refine wp_region_E (fun W => Kept w W ∧ W.heap[Sx]? = some (.cells (u8s (secN a1)).toArray 34 (0, 0))) 100 (by kernel_rfl) ?_
      refine wpAnyE_take (i := 0) (v := ?_) (listed' := #[true, false, false, false, false, false, false, false, false, false, false, false]) (by rfl) (by kernel_rfl) (by kernel_rfl) calm_put hS (by rfl) ?_ ?_
      rotate_left
      · intro W hW; clear hW; go_simp; try (with_reducible rfl)
      simp only [Act.put, List.getElem_toArray, List.getElem_cons_succ, List.getElem_cons_zero, List.setIfInBounds_toArray, List.set_cons_zero, List.set_cons_succ]
      refine wpAnyE_take (i := 1) (v := ?_) (listed' := #[true, true, false, false, false, false, false, false, false, false, false, false]) (by rfl) (by kernel_rfl) (by kernel_rfl) calm_put hS (by rfl) ?_ ?_
      rotate_left
      · intro W hW; clear hW; go_simp; try (with_reducible rfl)
      simp only [Act.put, List.getElem_toArray, List.getElem_cons_succ, List.getElem_cons_zero, List.setIfInBounds_toArray, List.set_cons_zero, List.set_cons_succ]
      refine wpAnyE_take (i := 2) (v := .agg (u8s (secN a1)).toArray) (listed' := #[true, true, true, false, false, false, false, false, false, false, false, false]) (by rfl) (by kernel_rfl) (by kernel_rfl) calm_put hS (by rfl) ?_ ?_
      · intro W hW; skip; exact exec_load_sec _ rfl Sx rfl (secN a1) (secN_len _) (by simpa using Cells.of_block hW.2)
      simp only [Act.put, List.getElem_toArray, List.getElem_cons_succ, List.getElem_cons_zero, List.setIfInBounds_toArray, List.set_cons_zero, List.set_cons_succ]
      refine wpAnyE_take (i := 3) (v := ?_) (listed' := #[true, true, true, true, false, false, false, false, false, false, false, false]) (by rfl) (by kernel_rfl) (by kernel_rfl) calm_put hS (by rfl) ?_ ?_
      rotate_left
      · intro W hW; clear hW; go_simp; try (with_reducible rfl)
      simp only [Act.put, List.getElem_toArray, List.getElem_cons_succ, List.getElem_cons_zero, List.setIfInBounds_toArray, List.set_cons_zero, List.set_cons_succ]
      refine wpAnyE_one (i := 4) (listed' := #[true, true, true, true, true, false, false, false, false, false, false, false]) (by rfl) (by kernel_rfl) (by kernel_rfl) (by rfl) (fun K hK => ?_)
      simp only [Act.put, List.getElem_toArray, List.getElem_cons_succ, List.getElem_cons_zero, List.setIfInBounds_toArray, List.set_cons_zero, List.set_cons_succ]
      go_wp2_with fail
      refine Calls.mono (s_sector a1 _) ?_
      rintro e wsec ⟨rfl, hks⟩
      have hS := (⟨hS.1.trans hks, hks.block hS.2⟩ : _ ∧ _)
      clear hks
      refine hK _ _ (fun _ => hS) ?_; clear hK K
      refine wpAnyE_take (i := 5) (v := .bool true) (listed' := #[true, true, true, true, true, true, false, false, false, false, false, false]) (by rfl) (by kernel_rfl) (by kernel_rfl) calm_put hS (by rfl) ?_ ?_
      · intro W hW; clear hW; exact exec_cmp_secE _ _ rfl (secN a1) (secN_len _) rfl rfl
      simp only [Act.put, List.getElem_toArray, List.getElem_cons_succ, List.getElem_cons_zero, List.setIfInBounds_toArray, List.set_cons_zero, List.set_cons_succ]
      refine wpAnyE_take (i := 6) (v := ?_) (listed' := #[true, true, true, true, true, true, true, false, false, false, false, false]) (by rfl) (by kernel_rfl) (by kernel_rfl) calm_put hS (by rfl) ?_ ?_
      rotate_left
      · intro W hW; clear hW; go_simp; try (with_reducible rfl)
      simp only [Act.put, List.getElem_toArray, List.getElem_cons_succ, List.getElem_cons_zero, List.setIfInBounds_toArray, List.set_cons_zero, List.set_cons_succ]
      refine wpAnyE_take (i := 7) (v := ?_) (listed' := #[true, true, true, true, true, true, true, true, false, false, false, false]) (by rfl) (by kernel_rfl) (by kernel_rfl) calm_put hS (by rfl) ?_ ?_
      rotate_left
      · intro W hW; clear hW; go_simp; try (with_reducible rfl)
      simp only [Act.put, List.getElem_toArray, List.getElem_cons_succ, List.getElem_cons_zero, List.setIfInBounds_toArray, List.set_cons_zero, List.set_cons_succ]
      refine wpAnyE_take (i := 8) (v := ?_) (listed' := #[true, true, true, true, true, true, true, true, true, false, false, false]) (by rfl) (by kernel_rfl) (by kernel_rfl) calm_put hS (by rfl) ?_ ?_
      rotate_left
      · intro W hW; clear hW; go_simp; try (with_reducible rfl)
      simp only [Act.put, List.getElem_toArray, List.getElem_cons_succ, List.getElem_cons_zero, List.setIfInBounds_toArray, List.set_cons_zero, List.set_cons_succ]
      refine wpAnyE_take (i := 9) (v := ?_) (listed' := #[true, true, true, true, true, true, true, true, true, true, false, false]) (by rfl) (by kernel_rfl) (by kernel_rfl) calm_put hS (by rfl) ?_ ?_
      rotate_left
      · intro W hW; clear hW; go_simp; try (with_reducible rfl)
      simp only [Act.put, List.getElem_toArray, List.getElem_cons_succ, List.getElem_cons_zero, List.setIfInBounds_toArray, List.set_cons_zero, List.set_cons_succ]
      refine wpAnyE_take (i := 10) (v := ?_) (listed' := #[true, true, true, true, true, true, true, true, true, true, true, false]) (by rfl) (by kernel_rfl) (by kernel_rfl) calm_put hS (by rfl) ?_ ?_
      rotate_left
      · intro W hW; clear hW; go_simp; try (with_reducible rfl)
      simp only [Act.put, List.getElem_toArray, List.getElem_cons_succ, List.getElem_cons_zero, List.setIfInBounds_toArray, List.set_cons_zero, List.set_cons_succ]
      refine wpAnyE_one (i := 11) (listed' := #[true, true, true, true, true, true, true, true, true, true, true, true]) (by rfl) (by kernel_rfl) (by kernel_rfl) (by rfl) (fun K hK => ?_)
      simp only [Act.put, List.getElem_toArray, List.getElem_cons_succ, List.getElem_cons_zero, List.setIfInBounds_toArray, List.set_cons_zero, List.set_cons_succ]
      go_wp2
      refine hK _ _ (fun _ => hS) ?_; clear hK K
      refine wpAnyE_done (by kernel_rfl) ?_ _
      refine calm_normal ?_
      go_wp2
      go_ret
      exact ⟨rfl, hS.1⟩
end
end Go.Proofs.Ytkcemkphehocgaa
