/- CheckNewest's walk. -/
import Derived.Test.YtpeclkhppgabfaaDoorNwp
import Derived.Test.YtpeclkhppgabfaaDoorIby
import Derived.Test.YtpeclkhppgabfaaDoorSzp
namespace Go.Proofs.YtpeclkhppgabfaaDoor
open Go.RowKit
set_option linter.unusedVariables false
set_option linter.unusedSimpArgs false
section
set_option maxHeartbeats 4000000
set_option maxRecDepth 100000
theorem newest_plain {x0 x1 : List Int} {g0 g1 : Nat} (h0 : x0.length ≤ 1696) (h1 : x1.length ≤ 1696) (b0 : ∀ y ∈ x0, IsByte y) (b1 : ∀ y ∈ x1, IsByte y) (hg0 : g0 < 4294967296) (hg1 : g1 < 4294967296) :
    ∃ T1 T2, (addZ 200 2).saveC [0, 1] 0 (g0 : Int) x0 = (T1, 0) ∧ T1.UseN 100 ∧ T1.saveC [0, 1] 1 (g1 : Int) x1 = (T2, 0) ∧ T2.Use ∧
      (g0 < g1 → loadC T2.read [0, 1] = (⟨1, (g1 : Int), x1, max (g0 : Int) (g1 : Int), true⟩, 0)) ∧ (¬ g0 < g1 → loadC T2.read [0, 1] = (⟨0, (g0 : Int), x0, max (g0 : Int) (g1 : Int), true⟩, 0)) := by
  obtain ⟨T1, T2, N, hs1, hq1, hs2, hq2, hN⟩ := two_laid (g0 := (g0 : Int)) (g1 := (g1 : Int)) quiet2 (by decide) [0, 1] (by intro d hd; simp at hd; omega) (by simp) h0 h1 b0 b1
  obtain ⟨a0, a1, m0, m1⟩ := two_mix h0 h1 hN
  obtain ⟨s, hs, hl1, hl0⟩ := load_pair hq2 (by decide) [0, 1] (by intro d hd; simp at hd; omega) (al := [0, 1]) rfl (by simp) (g0 := (g0 : Int)) (g1 := (g1 : Int)) ⟨by omega, by omega⟩ ⟨by omega, by omega⟩ h0 h1 m0 m1 (fun i hi => ⟨0, by simp, a0 0 (by simp) i hi⟩)
  have hp1 := (partsN_pos (show x1.length ≤ 2120 by omega)).1
  have e := hs 0 (by simp) 0 (by omega) (a1 0 (by simp) 0 (by omega))
  subst e
  refine ⟨T1, T2, hs1, hq1.useN (by decide) 100 (by decide), hs2, hq2.use (by decide) (by decide), fun h => ?_, fun h => ?_⟩
  · exact hl1 (by omega) (fun i hi => ⟨0, by simp, a1 0 (by simp) i hi⟩)
  · exact hl0 (.inl (by omega))
theorem law_newest (va : Value) (la : List Int) (vc : Value) (lc : List Int) (a2 a3 : Int) (w : World) (hA : BSrc w va la) (hC : BSrc w vc lc) : Calls Tryd.prog 4 #[va, vc, .int .i64 a2, .int .i64 a3] w fun e w' => e = .returned (.bool true) ∧ Kept w w' := by
  obtain ⟨g, hg, hgl⟩ := and_low a2 32 (by decide) (m := 4294967295) (by decide)
  obtain ⟨h, hh, hhl⟩ := and_low a3 32 (by decide) (m := 4294967295) (by decide)
  have hgl' : g < 4294967296 := hgl
  have hhl' : h < 4294967296 := hhl
  clear hgl hhl
  obtain ⟨_, ax, ca, rfl, _⟩ := id hA.1
  obtain ⟨_, ay, cc, rfl, _⟩ := id hC.1
  obtain ⟨ka, hka⟩ : ∃ k, k = min la.length 300 := ⟨_, rfl⟩
  obtain ⟨kc, hkc⟩ : ∃ k, k = min lc.length 300 := ⟨_, rfl⟩
  obtain ⟨hca, hA1, hla⟩ := hA.cut ka (.inl hka)
  obtain ⟨hcc, hC1, hlc⟩ := hC.cut kc (.inl hkc)
  generalize la.take ka = xa at *
  generalize lc.take kc = xc at *
  have hma : min (la.length : Int) 300 = (ka : Int) := by omega
  have hmc : min (lc.length : Int) 300 = (kc : Int) := by omega
  have hka3 : ka ≤ 300 := by omega
  have hkc3 : kc ≤ 300 := by omega
  obtain ⟨T1, T2, hs1, hu1, hs2, hu2, hlt, hge⟩ := newest_plain (x0 := xa) (x1 := xc) (by omega) (by omega) hA1.2 hC1.2 hgl' hhl'
  have HS1 := Lib.hid hs1
  have HU1 := Lib.hid hu1
  have HS2 := Lib.hid hs2
  have HU2 := Lib.hid hu2
  have HLT := Lib.hid hlt
  have HGE := Lib.hid hge
  have HA := Lib.hid hA1
  have HC := Lib.hid hC1
  have HLA := Lib.hid hla
  have HLC := Lib.hid hlc
  clear hs1 hu1 hs2 hu2 hlt hge hA hC hA1 hC1 hka hkc hla hlc
  generalize la.length = na at *
  generalize lc.length = nc at *
  have HU0 := Lib.hid (quiet2.useN (by decide) 100 (by decide))
  go_enter Tryd.func4, Tryd.ntmps4
  go_wp2_with fail
  refine Calls.mono (law_shown10 _) ?_
  rintro e w1 ⟨rfl, hk1⟩
  have HK1 := Lib.hid hk1
  clear hk1
  go_wp2_with fail
  refine Calls.mono (bank10 2 (by decide) w w1 (fun k => k ∈ ([] : List Nat)) HK1.out (fun k h => by cases h)) ?_
  rintro e w2 ⟨q, rfl, hb2, _⟩
  have HB2 := Lib.hid hb2
  clear hb2 HK1
  go_wp2_with (refine stop_at (o := ⟨some 28, _, _, _, _, _⟩) ?_)
  refine Stop.mk ?_
  try simp only [hma]
  refine wpList_slice_to rfl _ _ rfl ax na ca rfl ka rfl hca ?_
  go_wp2_with (refine stop_at (o := ⟨some 33, _, _, _, _, _⟩) ?_)
  refine Stop.mk ?_
  try simp only [hmc]
  refine wpList_slice_to rfl _ _ rfl ay nc cc rfl kc rfl hcc ?_
  go_wp2_with (refine stop_at (o := ⟨some 38, _, _, _, _, _⟩) ?_)
  refine Stop.mk ?_
  try simp only [hg, hh]
  refine wpList_lit_ints rfl 2 (by decide) _ rfl [0, 1] (by kernel_rfl) ?_
  intro w5 hz5 hs5 hk5
  have HC5 := Lib.hid (by simpa using Cells.of_block hz5.out : Cells w5 w2.heap.size 0 (ints [0, 1]))
  have HB5 := Lib.hid (HB2.out.pushR hk5 w2.heap.size (Nat.le_refl _) hs5)
  generalize w2.heap.size = B at *
  clear hz5 hs5 hk5 HB2 hma hmc hg hh hca hcc
  have hc := check_Save HB5.out B 2 [0, 1] (by simp) HC5.out (by decide) 0 (by decide) (g : Int) ⟨by omega, by omega⟩ (.slice ax ka ca) xa (HA.out.1.kept HB5.out.keeps) (by rw [HLA.out]; omega) HA.out.2 (HU0.out.less (by have := (partsN_pos (show xa.length ≤ 2120 by rw [HLA.out]; omega)).2.1; show 2 * partsN xa.length ≤ 100; have := parts_le (show xa.length ≤ 1696 by rw [HLA.out]; omega); omega))
  rw [HS1.out] at hc
  have HCA := Lib.hid hc
  clear hc
  go_wp2_with fail
  refine Calls.mono HCA.out ?_
  rintro e w6 ⟨rfl, hb6, hs6⟩
  have HB6 : Hid (BK w (fun k => k ∈ [B]) w6 q T1) := Lib.hid hb6
  have HC6 := Lib.hid (hs6.cells (B := B) (by simp) HC5.out)
  clear hb6 hs6 HCA HB5 HC5
  have hc := check_Save HB6.out B 2 [0, 1] (by simp) HC6.out (by decide) 1 (by decide) (h : Int) ⟨by omega, by omega⟩ (.slice ay kc cc) xc (HC.out.1.kept HB6.out.keeps) (by rw [HLC.out]; omega) HC.out.2 (HU1.out.less (by show 2 * partsN xc.length ≤ 100; have := parts_le (show xc.length ≤ 1696 by rw [HLC.out]; omega); omega))
  rw [HS2.out] at hc
  have HCA := Lib.hid hc
  clear hc
  go_wp2_with fail
  refine Calls.mono HCA.out ?_
  rintro e w7 ⟨rfl, hb7, hs7⟩
  have HB7 : Hid (BK w (fun k => k ∈ [B]) w7 q T2) := Lib.hid hb7
  have HC7 := Lib.hid (hs7.cells (B := B) (by simp) HC6.out)
  clear hb7 hs7 HCA HB6 HC6
  have hc := check_Load HB7.out HU2.out B 2 [0, 1] HC7.out (by decide)
  by_cases hgt : g < h
  · rw [HLT.out hgt] at hc
    have HCA := Lib.hid hc
    clear hc
    go_wp2_with fail
    refine Calls.mono HCA.out ?_
    rintro e w8 ⟨bv, rfl, hown, hk8⟩
    have HB8 := Lib.hid (HB7.out.kept hk8).1
    clear hk8 HCA HC7 HB7
    go_wp2_with (refine stop_at (o := ⟨some 14, _, _, _, _, _⟩) ?_)
    refine Stop.mk ?_
    refine wpList_new_row rfl rfl _ _ rfl rfl ty_found zeroF zero_found rfl (bestVals ⟨1, (h : Int), xc, max (g : Int) (h : Int), true⟩ bv) rfl rfl (best_one hown) rfl ?_
    intro w9 hz9 hs9 hk9
    have HK9 := Lib.hid (HB8.out.kept hk9).1.keeps
    have HO9 := Lib.hid (own_src (ownsRow_kept hown hk9))
    have f0 : w9.cell? ⟨w8.heap.size, 0, none⟩ = some (.int .i64 1) := cell_of_row _ _ 0 _ _ _ hz9.out
    have f1 : w9.cell? ⟨w8.heap.size, 1, none⟩ = some (.int .i64 (h : Int)) := cell_of_row _ _ 1 _ _ _ hz9.out
    have f2 : w9.cell? ⟨w8.heap.size, 2, none⟩ = some bv := cell_of_row _ _ 2 _ _ _ hz9.out
    have f3 : w9.cell? ⟨w8.heap.size, 3, none⟩ = some (.int .i64 (max (g : Int) (h : Int))) := cell_of_row _ _ 3 _ _ _ hz9.out
    generalize w8.heap.size = B3 at *
    clear hz9 hs9 hk9 HB8 hown
    have HSX := Lib.hid (HC.out.1.kept HK9.out)
    have hgt' : (g : Int) < (h : Int) := by omega
    go_wp2_with (refine stop_at (o := ⟨some 88, _, _, _, _, _⟩) ?_)
    refine Stop.mk ?_
    refine wpList_conv_str rfl _ rfl bv rfl xc HO9.out HC.out.2 ?_
    go_wp2_with (refine stop_at (o := ⟨some 90, _, _, _, _, _⟩) ?_)
    refine Stop.mk ?_
    refine wpList_conv_str rfl _ rfl (.slice ay kc cc) rfl xc HSX.out HC.out.2 ?_
    go_wp2
    go_ret
    exact ⟨rfl, HK9.out⟩
  · rw [HGE.out hgt] at hc
    have HCA := Lib.hid hc
    clear hc
    go_wp2_with fail
    refine Calls.mono HCA.out ?_
    rintro e w8 ⟨bv, rfl, hown, hk8⟩
    have HB8 := Lib.hid (HB7.out.kept hk8).1
    clear hk8 HCA HC7 HB7
    go_wp2_with (refine stop_at (o := ⟨some 14, _, _, _, _, _⟩) ?_)
    refine Stop.mk ?_
    refine wpList_new_row rfl rfl _ _ rfl rfl ty_found zeroF zero_found rfl (bestVals ⟨0, (g : Int), xa, max (g : Int) (h : Int), true⟩ bv) rfl rfl (best_one hown) rfl ?_
    intro w9 hz9 hs9 hk9
    have HK9 := Lib.hid (HB8.out.kept hk9).1.keeps
    have HO9 := Lib.hid (own_src (ownsRow_kept hown hk9))
    have f0 : w9.cell? ⟨w8.heap.size, 0, none⟩ = some (.int .i64 0) := cell_of_row _ _ 0 _ _ _ hz9.out
    have f1 : w9.cell? ⟨w8.heap.size, 1, none⟩ = some (.int .i64 (g : Int)) := cell_of_row _ _ 1 _ _ _ hz9.out
    have f2 : w9.cell? ⟨w8.heap.size, 2, none⟩ = some bv := cell_of_row _ _ 2 _ _ _ hz9.out
    have f3 : w9.cell? ⟨w8.heap.size, 3, none⟩ = some (.int .i64 (max (g : Int) (h : Int))) := cell_of_row _ _ 3 _ _ _ hz9.out
    generalize w8.heap.size = B3 at *
    clear hz9 hs9 hk9 HB8 hown
    have HSX := Lib.hid (HA.out.1.kept HK9.out)
    have hgt' : ¬ ((g : Int) < (h : Int)) := by omega
    go_wp2_with (refine stop_at (o := ⟨some 105, _, _, _, _, _⟩) ?_)
    refine Stop.mk ?_
    refine wpList_conv_str rfl _ rfl bv rfl xa HO9.out HA.out.2 ?_
    go_wp2_with (refine stop_at (o := ⟨some 107, _, _, _, _, _⟩) ?_)
    refine Stop.mk ?_
    refine wpList_conv_str rfl _ rfl (.slice ax ka ca) rfl xa HSX.out HA.out.2 ?_
    go_wp2
    go_ret
    exact ⟨rfl, HK9.out⟩
end
end Go.Proofs.YtpeclkhppgabfaaDoor
