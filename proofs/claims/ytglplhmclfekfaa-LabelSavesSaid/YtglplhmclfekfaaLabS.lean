/- label.Load's newest: slices.MaxFunc over one or two labels (gen_load.py). -/
import Derived.Test.YtglplhmclfekfaaFdA
import Derived.Test.YtglplhmclfekfaaFaA
import Derived.Test.YtglplhmclfekfaaFbA
import Derived.Great.BuildSlice
namespace Go.Proofs.Ytglplhmclfekfaa
open Go.RowKit
set_option linter.unusedVariables false
set_option linter.unusedSimpArgs false

theorem exec_load_labO {W : World} {a : Act} {o : Oper} (x : Operand) (ho : o.op = .load 80 x) (b off : Nat) (hx : a.eval x = .pointer (some ⟨b, off, none⟩)) (l : Lab) (sl : Value) (hc : Cells W b off (Lab.vals l sl)) :
    (execOp a.eval o).run Try.prog W = .ok (.value (.agg (Lab.vals l sl).toArray)) W := by
  obtain ⟨⟨d, hd1, hd2⟩, hs⟩ := ty_lab
  unfold execOp
  simp only [ho, hx, Instr.loadAt, Instr.sureAddr, Sem.run_bind, Sem.run_pure, Result.andThen_ok, run_loadVar_mid W b off 80 (Lab.vals l sl) d (rangeAt_of_cells hc) hd1 hd2 (by rw [hs]; rfl)]
section
set_option maxHeartbeats 2000000
set_option maxRecDepth 100000
theorem label_less (l k : Lab) (s t : Value) (hs : s.oneCell' = true) (ht : t.oneCell' = true) (w : World) (hl : 0 ≤ l.gen ∧ l.gen < 4294967296) (hk : 0 ≤ k.gen ∧ k.gen < 4294967296) :
    Calls Try.prog 119 #[l.val s, k.val t] w fun e w' => e = .returned (.int .i64 (l.gen - k.gen)) ∧ Kept w w' := by
  obtain ⟨a1, g1, m1, b1, ms1⟩ := l
  obtain ⟨a2, g2, m2, b2, ms2⟩ := k
  obtain ⟨hl1, hl2⟩ := hl
  obtain ⟨hk1, hk2⟩ := hk
  simp only [Lab.val] at *
  go_enter Try.func119, Try.ntmps119
  go_wp2_with (refine stop_at (o := ⟨some 2, _, _, _, _, _⟩) ?_)
  refine Stop.mk ?_
  refine wpList_box_row rfl _ _ rfl [.int .i64 a1, .int .i64 g1, .int .i64 m1, .int .i64 b1, s] rfl ?_
  intro w1 hz1 hs1 hk1'
  have p1 : w1.cell? ⟨w.heap.size, 1, none⟩ = some (.int .i64 g1) := cell_of_row _ _ 1 _ _ _ hz1.out
  generalize w.heap.size = X at *
  clear hz1 hs1
  go_wp2_with (refine stop_at (o := ⟨some 3, _, _, _, _, _⟩) ?_)
  refine Stop.mk ?_
  refine wpList_box_row rfl _ _ rfl [.int .i64 a2, .int .i64 g2, .int .i64 m2, .int .i64 b2, t] rfl ?_
  intro w2 hz2 hs2 hk2'
  have q1 : w2.cell? ⟨w1.heap.size, 1, none⟩ = some (.int .i64 g2) := cell_of_row _ _ 1 _ _ _ hz2.out
  replace p1 := hk2'.cell' p1
  have HK := Lib.hid (hk1'.trans hk2')
  generalize w1.heap.size = Y at *
  clear hz2 hs2 hk1' hk2'
  go_wp2
  go_ret
  exact ⟨rfl, HK.out⟩
theorem max_one (l : Lab) (sl : Value) (hs : sl.oneCell' = true) (b off cap : Nat) (w : World) (hc : Cells w b off (Lab.vals l sl)) :
    Calls Try.prog 118 #[.slice (some ⟨b, off, none⟩) 1 cap, .func (.func 119) #[] #[]] w fun e w' => e = .returned (l.val sl) ∧ Kept w w' := by
  have HC := Lib.hid hc
  have HO := Lib.hid hs
  clear hc hs
  go_enter Try.func118, Try.ntmps118
  go_wp2_with (refine stop_at (o := ⟨some 4, _, _, _, _, _⟩) ?_)
  refine Stop.mk ?_
  refine wpList_alloc_abs rfl 80 rfl [.int .i64 0, .int .i64 0, .int .i64 0, .int .i64 0, .slice none 0 0] zero_lab ?_
  intro w1 hz1 hs1 hn1 hk1
  have HR1 := hz1
  have HK1 := Lib.hid hk1
  have HLT : Hid (w.heap.size ≤ w.heap.size) := Lib.hid (Nat.le_refl _)
  generalize hR : w.heap.size = Rb at *
  clear hz1 hs1 hn1 hk1
  go_wp2_with (refine stop_at (o := ⟨some 13, _, _, _, _, _⟩) ?_)
  refine Stop.mk ?_
  refine wpList_load_agg rfl _ rfl ty_lab b off (by first | rfl | simp) (Lab.vals l sl) (Cells.kept HC.out HK1.out) rfl ?_
  go_wp2_with (refine stop_at (o := ⟨some 5, _, _, _, _, _⟩) ?_)
  refine Stop.mk ?_
  refine wpList_new_row rfl rfl _ _ rfl rfl ty_lab [.int .i64 0, .int .i64 0, .int .i64 0, .int .i64 0, .slice none 0 0] zero_lab rfl (Lab.vals l sl) rfl rfl (lab_one _ _ HO.out) rfl ?_
  intro w2 hz2 hs2 hk2
  have HM2 := hz2
  have HR2 := Lib.hid (hk2.block HR1.out)
  have HK2 := Lib.hid (HK1.out.trans hk2)
  generalize w1.heap.size = M at *
  clear hz2 hs2 hk2 HR1 HK1
  go_wp2
  refine wp_loop_rounds 1 ?_
  rw [rounds_succ]
  go_wp2_with (refine stop_at (o := ⟨some 32, _, _, _, _, _⟩) ?_)
  refine Stop.mk ?_
  refine wpList_load_agg rfl _ rfl ty_lab M 0 rfl (Lab.vals l sl) (by simpa using Cells.of_block HM2.out) rfl ?_
  go_wp2_with (refine stop_at (o := ⟨none, .store _ _ _, _, _, _, _⟩) ?_)
  refine Stop.mk ?_
  refine wpList_store_agg rfl _ _ rfl ty_lab Rb 0 rfl (Lab.vals l sl) rfl rfl (lab_one _ _ HO.out) _ _ HR2.out (by decide) ?_
  intro w3 hw3
  replace hw3 := hw3.all rfl
  go_wp2
  refine bodyPost_ret (results_lab1 rfl _ _ Rb l sl rfl hw3.cells) rfl ?_
  exact ⟨rfl, hw3.kept HK2.out (by omega)⟩
theorem max_two (l k : Lab) (sl sk : Value) (hs : sl.oneCell' = true) (hs2 : sk.oneCell' = true) (hl : 0 ≤ l.gen ∧ l.gen < 4294967296) (hk : 0 ≤ k.gen ∧ k.gen < 4294967296) (b off cap : Nat) (w : World) (hc : Cells w b off (Lab.vals l sl)) (hc2 : Cells w b (off + 1 * 5) (Lab.vals k sk)) :
    Calls Try.prog 118 #[.slice (some ⟨b, off, none⟩) 2 cap, .func (.func 119) #[] #[]] w fun e w' => e = .returned (if l.gen < k.gen then k.val sk else l.val sl) ∧ Kept w w' := by
  have HC := Lib.hid hc
  have HO := Lib.hid hs
  have HC2 := Lib.hid hc2
  have HO2 := Lib.hid hs2
  have HG := Lib.hid hl
  have HG2 := Lib.hid hk
  have HLS := Lib.hid (fun W => label_less k l sk sl hs2 hs W hk hl)
  clear hc hs hc2 hs2 hl hk
  go_enter Try.func118, Try.ntmps118
  go_wp2_with (refine stop_at (o := ⟨some 4, _, _, _, _, _⟩) ?_)
  refine Stop.mk ?_
  refine wpList_alloc_abs rfl 80 rfl [.int .i64 0, .int .i64 0, .int .i64 0, .int .i64 0, .slice none 0 0] zero_lab ?_
  intro w1 hz1 hs1 hn1 hk1
  have HR1 := hz1
  have HK1 := Lib.hid hk1
  have HLT : Hid (w.heap.size ≤ w.heap.size) := Lib.hid (Nat.le_refl _)
  have HS1 := Lib.hid hs1
  generalize hR : w.heap.size = Rb at *
  clear hz1 hs1 hn1 hk1
  go_wp2_with (refine stop_at (o := ⟨some 13, _, _, _, _, _⟩) ?_)
  refine Stop.mk ?_
  refine wpList_load_agg rfl _ rfl ty_lab b off (by first | rfl | simp) (Lab.vals l sl) (Cells.kept HC.out HK1.out) rfl ?_
  go_wp2_with (refine stop_at (o := ⟨some 5, _, _, _, _, _⟩) ?_)
  refine Stop.mk ?_
  refine wpList_new_row rfl rfl _ _ rfl rfl ty_lab [.int .i64 0, .int .i64 0, .int .i64 0, .int .i64 0, .slice none 0 0] zero_lab rfl (Lab.vals l sl) rfl rfl (lab_one _ _ HO.out) rfl ?_
  intro w2 hz2 hs2 hk2
  have HM2 := hz2
  have HR2 := Lib.hid (hk2.block HR1.out)
  have HK2 := Lib.hid (HK1.out.trans hk2)
  have HNE : Hid (Rb ≠ w1.heap.size) := Lib.hid (by have := HS1.out; omega)
  have HMW : Hid (w.heap.size ≤ w1.heap.size) := Lib.hid HK1.out.size
  generalize w1.heap.size = M at *
  clear hz2 hs2 hk2 HR1 HK1
  go_wp2
  refine wp_loop_rounds 2 ?_
  rw [rounds_succ]
  go_upto_region 7 with fail
  have hS : Cells w2.drew b (off + 1 * 5) (Lab.vals k sk) ∧ Cells w2.drew M 0 (Lab.vals l sl) ∧ Hid (Kept w2 w2.drew) := ⟨Cells.kept HC2.out (HK2.out.trans (Kept.refl _).drew), by simpa using Cells.of_block ((Kept.refl _).drew.block HM2.out), Lib.hid (Kept.refl _).drew⟩
  refine wp_region_calm ?_
  refine wp_region_E (fun W => Cells W b (off + 1 * 5) (Lab.vals k sk) ∧ Cells W M 0 (Lab.vals l sl) ∧ Hid (Kept w2 W)) 100 (by kernel_rfl) ?_
  refine wpAnyE_take (i := 0) (v := ?_) (listed' := #[true, false, false, false, false, false, false, false]) (by rfl) (by kernel_rfl) (by kernel_rfl) calm_put hS (by rfl) ?_ ?_
  rotate_left
  · intro W hW; clear hW; go_simp; try (with_reducible rfl)
  simp only [Act.put, List.getElem_toArray, List.getElem_cons_succ, List.getElem_cons_zero, List.setIfInBounds_toArray, List.set_cons_zero, List.set_cons_succ]
  refine wpAnyE_take (i := 1) (v := ?_) (listed' := #[true, true, false, false, false, false, false, false]) (by rfl) (by kernel_rfl) (by kernel_rfl) calm_put hS (by rfl) ?_ ?_
  rotate_left
  · intro W hW; clear hW; go_simp; try (with_reducible rfl)
  simp only [Act.put, List.getElem_toArray, List.getElem_cons_succ, List.getElem_cons_zero, List.setIfInBounds_toArray, List.set_cons_zero, List.set_cons_succ]
  refine wpAnyE_take (i := 2) (v := ?_) (listed' := #[true, true, true, false, false, false, false, false]) (by rfl) (by kernel_rfl) (by kernel_rfl) calm_put hS (by rfl) ?_ ?_
  rotate_left
  · intro W hW; clear hW; go_simp; try (with_reducible rfl)
  simp only [Act.put, List.getElem_toArray, List.getElem_cons_succ, List.getElem_cons_zero, List.setIfInBounds_toArray, List.set_cons_zero, List.set_cons_succ]
  refine wpAnyE_take (i := 3) (v := ?_) (listed' := #[true, true, true, true, false, false, false, false]) (by rfl) (by kernel_rfl) (by kernel_rfl) calm_put hS (by rfl) ?_ ?_
  rotate_left
  · intro W hW; clear hW; go_simp; try (with_reducible rfl)
  simp only [Act.put, List.getElem_toArray, List.getElem_cons_succ, List.getElem_cons_zero, List.setIfInBounds_toArray, List.set_cons_zero, List.set_cons_succ]
  refine wpAnyE_take (i := 4) (v := .agg (Lab.vals k sk).toArray) (listed' := #[true, true, true, true, true, false, false, false]) (by rfl) (by kernel_rfl) (by kernel_rfl) calm_put hS (by rfl) ?_ ?_
  · intro W hW; skip; exact exec_load_labO _ rfl b (off + 1 * 5) rfl k sk hW.1
  simp only [Act.put, List.getElem_toArray, List.getElem_cons_succ, List.getElem_cons_zero, List.setIfInBounds_toArray, List.set_cons_zero, List.set_cons_succ]
  refine wpAnyE_take (i := 5) (v := .agg (Lab.vals l sl).toArray) (listed' := #[true, true, true, true, true, true, false, false]) (by rfl) (by kernel_rfl) (by kernel_rfl) calm_put hS (by rfl) ?_ ?_
  · intro W hW; skip; exact exec_load_labO _ rfl M 0 rfl l sl hW.2.1
  simp only [Act.put, List.getElem_toArray, List.getElem_cons_succ, List.getElem_cons_zero, List.setIfInBounds_toArray, List.set_cons_zero, List.set_cons_succ]
  refine wpAnyE_one (i := 6) (listed' := #[true, true, true, true, true, true, true, false]) (by rfl) (by kernel_rfl) (by kernel_rfl) (by rfl) (fun K hK => ?_)
  simp only [Act.put, List.getElem_toArray, List.getElem_cons_succ, List.getElem_cons_zero, List.setIfInBounds_toArray, List.set_cons_zero, List.set_cons_succ]
  go_wp2_with fail
  refine Calls.mono (HLS.out _) ?_
  rintro e w3 ⟨rfl, hk3⟩
  have hS3 := (⟨Cells.kept hS.1 hk3, Cells.kept hS.2.1 hk3, Lib.hid (hS.2.2.out.trans hk3)⟩ : _ ∧ _ ∧ _)
  clear hS hk3
  have hS := hS3
  clear hS3
  refine hK _ _ (fun _ => hS) ?_; clear hK K
  refine wpAnyE_take (i := 7) (v := ?_) (listed' := #[true, true, true, true, true, true, true, true]) (by rfl) (by kernel_rfl) (by kernel_rfl) calm_put hS (by rfl) ?_ ?_
  rotate_left
  · intro W hW; clear hW; go_simp; try (with_reducible rfl)
  simp only [Act.put, List.getElem_toArray, List.getElem_cons_succ, List.getElem_cons_zero, List.setIfInBounds_toArray, List.set_cons_zero, List.set_cons_succ]
  refine wpAnyE_done (by kernel_rfl) ?_ _
  refine calm_normal ?_
  have HM3 := Lib.hid (hS.2.2.out.block HM2.out)
  have HR3 := Lib.hid (hS.2.2.out.block HR2.out)
  have HK3 := Lib.hid (HK2.out.trans hS.2.2.out)
  have HC3 := Lib.hid hS.1
  clear hS HM2 HR2 HK2 HLS
  by_cases hlt : l.gen < k.gen
  · have hd : 0 < k.gen - l.gen := by omega
    go_wp2_with (refine stop_at (o := ⟨some 31, _, _, _, _, _⟩) ?_)
    refine Stop.mk ?_
    refine wpList_load_agg rfl _ rfl ty_lab b (off + 1 * 5) (by first | rfl | simp) (Lab.vals k sk) HC3.out rfl ?_
    go_wp2_with (refine stop_at (o := ⟨none, .store _ _ _, _, _, _, _⟩) ?_)
    refine Stop.mk ?_
    refine wpList_store_agg rfl _ _ rfl ty_lab M 0 rfl (Lab.vals k sk) rfl rfl (lab_one _ _ HO2.out) _ _ HM3.out (by show 0 + 5 ≤ 5; decide) ?_
    intro w4 hw4
    replace hw4 := hw4.all rfl
    have HM4 := Lib.hid hw4.blk
    have HR4 := Lib.hid ((hw4.oth Rb HNE.out).trans HR3.out)
    have HK4 := Lib.hid (hw4.kept HK3.out HMW.out)
    clear hw4 HM3 HR3 HK3 HC3
    go_wp2
    rw [rounds_succ]
    go_wp2_with (refine stop_at (o := ⟨some 32, _, _, _, _, _⟩) ?_)
    refine Stop.mk ?_
    refine wpList_load_agg rfl _ rfl ty_lab M 0 rfl (Lab.vals k sk) (by simpa using Cells.of_block HM4.out) rfl ?_
    go_wp2_with (refine stop_at (o := ⟨none, .store _ _ _, _, _, _, _⟩) ?_)
    refine Stop.mk ?_
    refine wpList_store_agg rfl _ _ rfl ty_lab Rb 0 rfl (Lab.vals k sk) rfl rfl (lab_one _ _ HO2.out) _ _ HR4.out (by decide) ?_
    intro w3 hw3
    replace hw3 := hw3.all rfl
    go_wp2
    refine bodyPost_ret (results_lab1 rfl _ _ Rb k sk rfl hw3.cells) rfl ?_
    exact ⟨rfl, hw3.kept HK4.out (by omega)⟩
  · have hd : ¬ 0 < k.gen - l.gen := by omega
    go_wp2
    rw [rounds_succ]
    go_wp2_with (refine stop_at (o := ⟨some 32, _, _, _, _, _⟩) ?_)
    refine Stop.mk ?_
    refine wpList_load_agg rfl _ rfl ty_lab M 0 rfl (Lab.vals l sl) (by simpa using Cells.of_block HM3.out) rfl ?_
    go_wp2_with (refine stop_at (o := ⟨none, .store _ _ _, _, _, _, _⟩) ?_)
    refine Stop.mk ?_
    refine wpList_store_agg rfl _ _ rfl ty_lab Rb 0 rfl (Lab.vals l sl) rfl rfl (lab_one _ _ HO.out) _ _ HR3.out (by decide) ?_
    intro w3 hw3
    replace hw3 := hw3.all rfl
    go_wp2
    refine bodyPost_ret (results_lab1 rfl _ _ Rb l sl rfl hw3.cells) rfl ?_
    exact ⟨rfl, hw3.kept HK3.out (by omega)⟩
end
end Go.Proofs.Ytglplhmclfekfaa
