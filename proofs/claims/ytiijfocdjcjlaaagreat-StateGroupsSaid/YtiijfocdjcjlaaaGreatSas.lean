/- The document's Same at one state (gen_sas.py, XSas.head). -/
import Derived.Test.YtiijfocdjcjlaaaGreatSag
namespace Go.Proofs.YtiijfocdjcjlaaaGreat
open Go.RowKit Go.ChangeMaps Go.MapKept
set_option linter.unusedVariables false
set_option linter.unusedSimpArgs false
set_option maxRecDepth 100000
set_option maxHeartbeats 1000000
theorem wpList_neq_plg {ops : Array Oper} {rest : List Oper} {o : Oper} {a : Act} {w : World} {Q : Exit → Act → World → Prop} (hgd : Region.wanted o (yielded ops a.tmps) = true) (x y : Operand) {t' : TypeId} (ho : o.op = .binOp .neq 29 x y t') (p : Plg) (hp : PlgOk p) (hx : a.eval x = .agg (plv p).toArray) (hy : a.eval y = .agg (plv p).toArray)
    (h : wpList Tryz.prog ops Q rest (a.put o.dst (.bool false)) w) : wpList Tryz.prog ops Q (o :: rest) a w := by
  refine BigFrame.wpList_want hgd fun K hK => ?_
  have heq := run_equal_plg w p p hp hp
  have ht : (p.is == p.is && (p.group == p.group && (p.slot == p.slot && (p.data == p.data && p.par == p.par)))) = true := by simp
  rw [ht] at heq
  unfold Oper.wp execOp
  simp only [ho, hx, hy, Sem.run_bind]
  rw [run_eqGuard_agg _ _ _ _ _ _ _ eqg_plg]
  simp only [Result.andThen_ok]
  rw [run_neq_struct, heq]
  simp only [Result.andThen_ok, Sem.run_pure]
  exact hK _ _ h
theorem stC_plug {W : World} {b : Nat} {s : St} {sm sg sp sd : Value} (h : Cells W b 0 (stC s sm sg sp sd)) (hp : PlgOk s.plug) : Cells W b 5 (plv s.plug) := by
  intro j hj
  have hl := stC_len hp sm sg sp sd
  have h1 := h (j + 5) (by rw [hl]; have := plv_len hp; omega)
  rw [show 5 + j = 0 + (j + 5) by omega, h1]
  rfl
theorem same_state (s : St) (sm sg sp sd sm2 sg2 sp2 sd2 : Value) (raw raw2 : List Gw) (w : World) (h1 : StM w s sm sg sp sd raw) (h2 : StM w s sm2 sg2 sp2 sd2 raw2) :
    Calls Tryz.prog 15 #[.agg (stC s sm sg sp sd).toArray, .agg (stC s sm2 sg2 sp2 sd2).toArray] w fun e w' => e = .returned (.bool true) ∧ Kept w w' := by
  obtain ⟨og, cg, rfl, _⟩ := h1.gs.form
  obtain ⟨og2, cg2, rfl, _⟩ := h2.gs.form
  have HP := Lib.hid h1.plug
  have HL1 := Lib.hid (st_len h1); have HL2 := Lib.hid (st_len h2)
  have hlr : raw.length ≤ 4096 := by rw [h1.rel.len]; exact h1.lgs
  have hne : ((raw.length : Int) != (raw2.length : Int)) = false := by rw [h1.rel.len, h2.rel.len]; simp
  have hle : raw.length ≤ raw2.length := by rw [h1.rel.len, h2.rel.len]; exact Nat.le_refl _
  have H1 := Lib.hid h1; have H2 := Lib.hid h2
  clear h1 h2
  go_enter Tryz.func15, Tryz.ntmps15
  go_wp2_with (refine stop_at (o := ⟨some 2, _, _, _, _, _⟩) ?_)
  refine Stop.mk ?_
  refine wpList_box_rowS rfl _ _ rfl (stC s sm (.slice og raw.length cg) sp sd) rfl ?_
  intro w1 hz1 hs1 hk1
  obtain ⟨X, hX⟩ : ∃ X, X = w.heap.size := ⟨_, rfl⟩
  rw [← hX] at hz1 ⊢
  refine wpList_box_rowS rfl _ _ rfl (stC s sm2 (.slice og2 raw2.length cg2) sp2 sd2) rfl ?_
  intro w2 hz2 hs2 hk2
  obtain ⟨Y, hY⟩ : ∃ Y, Y = w1.heap.size := ⟨_, rfl⟩
  rw [← hY] at hz2 ⊢
  have hcx := Cells.of_block (hk2.block hz1.out)
  have hcy := Cells.of_block hz2.out
  have HCX := Lib.hid (show Cells w2 X 0 (stC s sm (.slice og raw.length cg) sp sd) from hcx)
  have HCY := Lib.hid (show Cells w2 Y 0 (stC s sm2 (.slice og2 raw2.length cg2) sp2 sd2) from hcy)
  have HK2 := Lib.hid (hk1.trans hk2)
  have a0 := (stv_cells HCX.out).1
  have b0 := (stv_cells HCY.out).1
  have a2 := (stv_cells HCX.out).2.2.1
  have b2 := (stv_cells HCY.out).2.2.1
  have hbl : (s.blocks != s.blocks) = false := by simp
  clear hz1 hz2 hs1 hs2 hk1 hk2 hcx hcy hX hY
  go_wp2_with (refine stop_at (o := ⟨some 23, _, _, _, _, _⟩) ?_)
  refine Stop.mk ?_
  refine wpList_load_aggW _ rfl ty_plg X 5 rfl _ (stC_plug HCX.out HP.out) (plv_len HP.out) rfl ?_
  go_wp2_with (refine stop_at (o := ⟨some 25, _, _, _, _, _⟩) ?_)
  refine Stop.mk ?_
  refine wpList_load_aggW _ rfl ty_plg Y 5 rfl _ (stC_plug HCY.out HP.out) (plv_len HP.out) rfl ?_
  refine wpList_neq_plg rfl _ _ rfl s.plug HP.out rfl rfl ?_
  go_wp2
  clear a0 b0 a2 b2 hbl hne
  go_loopw [5] (fun iv wr => ∃ i : Nat, i ≤ raw.length ∧ iv = .int .i64 (i : Int) ∧ Hid (Kept w2 wr)) (fun iv _ => raw.length - (intOf iv).toNat)
  case atStart => exact ⟨0, Nat.zero_le _, rfl, Lib.hid (Kept.refl _)⟩
  case round =>
    obtain ⟨i, hi, rfl, HK⟩ := hrel
    have a2 := HK.out.cell' (stv_cells HCX.out).2.2.1
    have b2 := HK.out.cell' (stv_cells HCY.out).2.2.1
    by_cases hlt : i < raw.length
    · have hlt2 : i < raw2.length := by omega
      obtain ⟨ba, offa, rfl, _, ha⟩ := (H1.out.gs.kept (HK2.out.trans HK.out)).at hlt
      obtain ⟨bb, offb, rfl, _, hb⟩ := (H2.out.gs.kept (HK2.out.trans HK.out)).at hlt2
      have hg1 : i < s.gs.length := by rw [← H1.out.rel.len]; exact hlt
      obtain ⟨x1, hx1⟩ : ∃ x, x = raw[i]'hlt := ⟨_, rfl⟩
      obtain ⟨x2, hx2⟩ : ∃ x, x = raw2[i]'hlt2 := ⟨_, rfl⟩
      have hr1 := H1.out.rel.at_ i hlt hg1
      have hr2 := H2.out.rel.at_ i hlt2 hg1
      rw [← hx1] at ha hr1
      rw [← hx2] at hb hr2
      have p0 := ha 0 (by simp [grw])
      have p1 := ha 1 (by simp [grw])
      have p2 := ha 2 (by simp [grw])
      have q0 := hb 0 (by simp [grw])
      have q1 := hb 1 (by simp [grw])
      have q2 := hb 2 (by simp [grw])
      simp only [grw, List.getElem_cons_zero, List.getElem_cons_succ, Nat.add_zero] at p0 p1 p2 q0 q1 q2
      have HSG := Lib.hid (fun (W : World) (hk : Kept w W) => same_group x1 x2 _ _ W (hr1.kept hk) (hr2.kept hk))
      have HKD := Lib.hid (show Kept w wr.drew from (HK2.out.trans HK.out).drew)
      have HKQ := Lib.hid (show Kept w2 wr.drew from HK.out.drew)
      clear ha hb hr1 hr2 hx1 hx2
      have hS : (fun (W : World) => W.cell? ⟨X, 2, none⟩ = some (.slice (some ⟨ba, offa, none⟩) raw.length cg) ∧ W.cell? ⟨Y, 2, none⟩ = some (.slice (some ⟨bb, offb, none⟩) raw2.length cg2) ∧ W.cell? ⟨ba, offa + i * 3, none⟩ = some (.int .i64 x1.1) ∧ W.cell? ⟨ba, offa + i * 3 + 1, none⟩ = some (.int .i64 x1.2.1) ∧ W.cell? ⟨ba, offa + i * 3 + 2, none⟩ = some x1.2.2 ∧ W.cell? ⟨bb, offb + i * 3, none⟩ = some (.int .i64 x2.1) ∧ W.cell? ⟨bb, offb + i * 3 + 1, none⟩ = some (.int .i64 x2.2.1) ∧ W.cell? ⟨bb, offb + i * 3 + 2, none⟩ = some x2.2.2) wr.drew := ⟨a2, b2, p0, p1, p2, q0, q1, q2⟩
      go_upto_region 6 with fail
      clear a2 b2 p0 p1 p2 q0 q1 q2
      refine wp_region_calm ?_
      refine wp_region_E (fun (W : World) => W.cell? ⟨X, 2, none⟩ = some (.slice (some ⟨ba, offa, none⟩) raw.length cg) ∧ W.cell? ⟨Y, 2, none⟩ = some (.slice (some ⟨bb, offb, none⟩) raw2.length cg2) ∧ W.cell? ⟨ba, offa + i * 3, none⟩ = some (.int .i64 x1.1) ∧ W.cell? ⟨ba, offa + i * 3 + 1, none⟩ = some (.int .i64 x1.2.1) ∧ W.cell? ⟨ba, offa + i * 3 + 2, none⟩ = some x1.2.2 ∧ W.cell? ⟨bb, offb + i * 3, none⟩ = some (.int .i64 x2.1) ∧ W.cell? ⟨bb, offb + i * 3 + 1, none⟩ = some (.int .i64 x2.2.1) ∧ W.cell? ⟨bb, offb + i * 3 + 2, none⟩ = some x2.2.2) 100 (by kernel_rfl) ?_
      refine wpAnyE_take (i := 0) (v := .pointer (some ⟨X, 2, none⟩)) (listed' := #[true, false, false, false, false, false, false, false, false, false, false, false]) (by rfl) (by kernel_rfl) (by kernel_rfl) calm_put hS (by rfl) ?_ ?_
      · intro W hW; clear hW; go_simp; try (with_reducible rfl)
      simp only [Act.put, List.getElem_toArray, List.getElem_cons_succ, List.getElem_cons_zero, List.setIfInBounds_toArray, List.set_cons_zero, List.set_cons_succ]
      refine wpAnyE_take (i := 1) (v := .slice (some ⟨ba, offa, none⟩) raw.length cg) (listed' := #[true, true, false, false, false, false, false, false, false, false, false, false]) (by rfl) (by kernel_rfl) (by kernel_rfl) calm_put hS (by rfl) ?_ ?_
      · intro W hW; obtain ⟨x2c, y2c, p0, p1, p2, q0, q1, q2⟩ := hW; go_simp; try (with_reducible rfl)
      simp only [Act.put, List.getElem_toArray, List.getElem_cons_succ, List.getElem_cons_zero, List.setIfInBounds_toArray, List.set_cons_zero, List.set_cons_succ]
      refine wpAnyE_take (i := 2) (v := .int .i64 (i : Int)) (listed' := #[true, true, true, false, false, false, false, false, false, false, false, false]) (by rfl) (by kernel_rfl) (by kernel_rfl) calm_put hS (by rfl) ?_ ?_
      · intro W hW; clear hW; go_simp; try (with_reducible rfl)
      simp only [Act.put, List.getElem_toArray, List.getElem_cons_succ, List.getElem_cons_zero, List.setIfInBounds_toArray, List.set_cons_zero, List.set_cons_succ]
      refine wpAnyE_take (i := 3) (v := .pointer (some ⟨ba, offa + i * 3, none⟩)) (listed' := #[true, true, true, true, false, false, false, false, false, false, false, false]) (by rfl) (by kernel_rfl) (by kernel_rfl) calm_put hS (by rfl) ?_ ?_
      · intro W hW; clear hW; go_simp; try (with_reducible rfl)
      simp only [Act.put, List.getElem_toArray, List.getElem_cons_succ, List.getElem_cons_zero, List.setIfInBounds_toArray, List.set_cons_zero, List.set_cons_succ]
      refine wpAnyE_take (i := 4) (v := .agg #[.int .i64 x1.1, .int .i64 x1.2.1, x1.2.2]) (listed' := #[true, true, true, true, true, false, false, false, false, false, false, false]) (by rfl) (by kernel_rfl) (by kernel_rfl) calm_put hS (by rfl) ?_ ?_
      · intro W hW; obtain ⟨x2c, y2c, p0, p1, p2, q0, q1, q2⟩ := hW; go_simp; try (with_reducible rfl)
      simp only [Act.put, List.getElem_toArray, List.getElem_cons_succ, List.getElem_cons_zero, List.setIfInBounds_toArray, List.set_cons_zero, List.set_cons_succ]
      refine wpAnyE_take (i := 5) (v := .pointer (some ⟨Y, 2, none⟩)) (listed' := #[true, true, true, true, true, true, false, false, false, false, false, false]) (by rfl) (by kernel_rfl) (by kernel_rfl) calm_put hS (by rfl) ?_ ?_
      · intro W hW; clear hW; go_simp; try (with_reducible rfl)
      simp only [Act.put, List.getElem_toArray, List.getElem_cons_succ, List.getElem_cons_zero, List.setIfInBounds_toArray, List.set_cons_zero, List.set_cons_succ]
      refine wpAnyE_take (i := 6) (v := .slice (some ⟨bb, offb, none⟩) raw2.length cg2) (listed' := #[true, true, true, true, true, true, true, false, false, false, false, false]) (by rfl) (by kernel_rfl) (by kernel_rfl) calm_put hS (by rfl) ?_ ?_
      · intro W hW; obtain ⟨x2c, y2c, p0, p1, p2, q0, q1, q2⟩ := hW; go_simp; try (with_reducible rfl)
      simp only [Act.put, List.getElem_toArray, List.getElem_cons_succ, List.getElem_cons_zero, List.setIfInBounds_toArray, List.set_cons_zero, List.set_cons_succ]
      refine wpAnyE_take (i := 7) (v := .int .i64 (i : Int)) (listed' := #[true, true, true, true, true, true, true, true, false, false, false, false]) (by rfl) (by kernel_rfl) (by kernel_rfl) calm_put hS (by rfl) ?_ ?_
      · intro W hW; clear hW; go_simp; try (with_reducible rfl)
      simp only [Act.put, List.getElem_toArray, List.getElem_cons_succ, List.getElem_cons_zero, List.setIfInBounds_toArray, List.set_cons_zero, List.set_cons_succ]
      refine wpAnyE_take (i := 8) (v := .pointer (some ⟨bb, offb + i * 3, none⟩)) (listed' := #[true, true, true, true, true, true, true, true, true, false, false, false]) (by rfl) (by kernel_rfl) (by kernel_rfl) calm_put hS (by rfl) ?_ ?_
      · intro W hW; clear hW; go_simp; try (with_reducible rfl)
      simp only [Act.put, List.getElem_toArray, List.getElem_cons_succ, List.getElem_cons_zero, List.setIfInBounds_toArray, List.set_cons_zero, List.set_cons_succ]
      refine wpAnyE_take (i := 9) (v := .agg #[.int .i64 x2.1, .int .i64 x2.2.1, x2.2.2]) (listed' := #[true, true, true, true, true, true, true, true, true, true, false, false]) (by rfl) (by kernel_rfl) (by kernel_rfl) calm_put hS (by rfl) ?_ ?_
      · intro W hW; obtain ⟨x2c, y2c, p0, p1, p2, q0, q1, q2⟩ := hW; go_simp; try (with_reducible rfl)
      simp only [Act.put, List.getElem_toArray, List.getElem_cons_succ, List.getElem_cons_zero, List.setIfInBounds_toArray, List.set_cons_zero, List.set_cons_succ]
      refine wpAnyE_one (i := 10) (listed' := #[true, true, true, true, true, true, true, true, true, true, true, false]) (by rfl) (by kernel_rfl) (by kernel_rfl) (by rfl) (fun K hK => ?_)
      simp only [Act.put, List.getElem_toArray, List.getElem_cons_succ, List.getElem_cons_zero, List.setIfInBounds_toArray, List.set_cons_zero, List.set_cons_succ]
      go_wp2_with fail
      refine Calls.mono (HSG.out _ HKD.out) ?_
      rintro e w3 ⟨b, rfl, hbt, hk3⟩
      have hbb : b = true := hbt trivial
      subst hbb
      have hS : (fun (W : World) => W.cell? ⟨X, 2, none⟩ = some (.slice (some ⟨ba, offa, none⟩) raw.length cg) ∧ W.cell? ⟨Y, 2, none⟩ = some (.slice (some ⟨bb, offb, none⟩) raw2.length cg2) ∧ W.cell? ⟨ba, offa + i * 3, none⟩ = some (.int .i64 x1.1) ∧ W.cell? ⟨ba, offa + i * 3 + 1, none⟩ = some (.int .i64 x1.2.1) ∧ W.cell? ⟨ba, offa + i * 3 + 2, none⟩ = some x1.2.2 ∧ W.cell? ⟨bb, offb + i * 3, none⟩ = some (.int .i64 x2.1) ∧ W.cell? ⟨bb, offb + i * 3 + 1, none⟩ = some (.int .i64 x2.2.1) ∧ W.cell? ⟨bb, offb + i * 3 + 2, none⟩ = some x2.2.2) w3 := ⟨hk3.cell' hS.1, hk3.cell' hS.2.1, hk3.cell' hS.2.2.1, hk3.cell' hS.2.2.2.1, hk3.cell' hS.2.2.2.2.1, hk3.cell' hS.2.2.2.2.2.1, hk3.cell' hS.2.2.2.2.2.2.1, hk3.cell' hS.2.2.2.2.2.2.2⟩
      refine hK _ _ (fun _ => hS) ?_; clear hK K
      refine wpAnyE_one (i := 11) (listed' := #[true, true, true, true, true, true, true, true, true, true, true, true]) (by rfl) (by kernel_rfl) (by kernel_rfl) (by rfl) (fun K hK => ?_)
      simp only [Act.put, List.getElem_toArray, List.getElem_cons_succ, List.getElem_cons_zero, List.setIfInBounds_toArray, List.set_cons_zero, List.set_cons_succ]
      go_wp2
      refine hK _ _ (fun _ => hS) ?_; clear hK K
      refine wpAnyE_done (by kernel_rfl) ?_ _
      refine calm_normal ?_
      have HKW := Lib.hid (HKQ.out.trans hk3)
      clear hS hk3 hbt
      go_wp2
      go_roundw
      case rel => exact ⟨i + 1, by omega, by go_num, HKW⟩
      case measure => simp [intOf]; omega
    · have a1 := HK.out.cell' (stv_cells HCX.out).2.1
      have b1 := HK.out.cell' (stv_cells HCY.out).2.1
      have HKr := Lib.hid (HK2.out.trans HK.out)
      go_wp2_with fail
      refine Calls.mono (same_members s.ms sm sm2 wr H1.out.lms (H1.out.ms.kept HKr.out) (H2.out.ms.kept HKr.out)) ?_
      rintro e w3 ⟨rfl, hk3⟩
      have HK3 := Lib.hid (HK.out.trans hk3)
      have HKr3 := Lib.hid (HKr.out.trans hk3)
      clear hk3 a1 b1 a2 b2
      have a3 := HK3.out.cell' (stv_cells HCX.out).2.2.2.1
      have b3 := HK3.out.cell' (stv_cells HCY.out).2.2.2.1
      go_wp2_with fail
      refine Calls.mono (same_wheres s.mp sp sp2 w3 H1.out.lmp (H1.out.mp.kept HKr3.out) (H2.out.mp.kept HKr3.out)) ?_
      rintro e w4 ⟨rfl, hk4⟩
      have HK4 := Lib.hid (HK3.out.trans hk4)
      have HKr4 := Lib.hid (HKr3.out.trans hk4)
      clear hk4 a3 b3
      have a4 := HK4.out.cell' (stv_cells HCX.out).2.2.2.2
      have b4 := HK4.out.cell' (stv_cells HCY.out).2.2.2.2
      go_wp2_with fail
      refine Calls.mono (same_ints s.dirty sd sd2 w4 H1.out.ldi (H1.out.dirty.kept HKr4.out) (H2.out.dirty.kept HKr4.out)) ?_
      rintro e w5 ⟨rfl, hk5⟩
      have HKr5 := Lib.hid (HKr4.out.trans hk5)
      clear hk5 a4 b4
      go_wp2
      go_ret
      exact ⟨rfl, HKr5.out⟩
end Go.Proofs.YtiijfocdjcjlaaaGreat
