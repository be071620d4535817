/- StateHeld: the walk. -/
import Derived.Test.YtiijfocdjcjlaaaGreatHla
import Derived.Test.YtiijfocdjcjlaaaGreatPsA
namespace Go.Proofs.YtiijfocdjcjlaaaGreat
open Go.RowKit Go.ChangeMaps Go.MapKept
set_option linter.unusedVariables false
set_option linter.unusedSimpArgs false
set_option maxRecDepth 100000
set_option maxHeartbeats 1000000
theorem law_held (s : St) (sm sg sp sd : Value) (raw : List Gw) (x : Int) (w : World) (h : StI w s sm sg sp sd raw) :
    Calls Tryz.prog 6 #[.agg (stC s sm sg sp sd).toArray, .int .i64 x] w fun e w' => e = .returned (.bool true) ∧ Kept w w' := by
  have HH := Lib.hid h
  have HL := Lib.hid (stC_len h.plug sm sg sp sd)
  clear h
  go_enter Tryz.func6, Tryz.ntmps6
  go_wp2_with (refine stop_at (o := ⟨some 2, _, _, _, _, _⟩) ?_)
  refine Stop.mk ?_
  refine wpList_box_rowS rfl _ _ rfl (stC s sm sg sp sd) rfl ?_
  intro w1 hz1 hs1 hk1
  obtain ⟨X, hX⟩ : ∃ X, X = w.heap.size := ⟨_, rfl⟩
  rw [← hX] at hz1 ⊢
  have HX := Lib.hid (show w.heap.size = X from hX.symm)
  have HSH := Lib.hid (law_shown w1)
  have HZ1 := Lib.hid hz1.out
  have HK1 := Lib.hid hk1
  clear hz1 hs1 hk1 hX
  go_wp2_with fail
  refine Calls.mono HSH.out ?_
  rintro e w2 ⟨rfl, hk2⟩
  have HZ2 := Lib.hid (hk2.block HZ1.out)
  have HK2 := Lib.hid (HK1.out.trans hk2)
  clear hk2 HZ1 HK1 HSH
  go_wp2_with (refine stop_at (o := ⟨some 12, _, _, _, _, _⟩) ?_)
  refine Stop.mk ?_
  refine wpList_load_agg rfl _ rfl agT_state X 0 rfl _ (Cells.of_block HZ2.out) HL.out ?_
  have HCU := Lib.hid (law_cut s sm sg sp sd raw w2 (HH.out.kept HK2.out))
  go_wp2_with fail
  refine Calls.mono HCU.out ?_
  rintro e w3 ⟨sm3, sg3, sp3, sd3, raw3, rfl, hst, hk3⟩
  have HSTA := Lib.hid hst
  have HST := Lib.hid (hst w3 (But.refl _ _))
  have HZ3 := Lib.hid (hk3.block HZ2.out)
  have HK3 := Lib.hid (HK2.out.trans hk3)
  have hsz2 := HK2.out.size
  have HX2 := Lib.hid (show X < w2.heap.size from (Array.getElem?_eq_some_iff.1 HZ2.out).1)
  clear hst hk3 HZ2 HK2 HCU hsz2
  obtain ⟨t, ht⟩ : ∃ t, t = cutS s := ⟨_, rfl⟩
  rw [← ht] at HSTA HST ⊢
  clear ht
  have HL3 := Lib.hid (stC_len HST.out.plug sm3 sg3 sp3 sd3)
  have HO3 := Lib.hid (st_one HST.out)
  go_wp2_with (refine stop_at (o := ⟨none, .store _ _ _, _, _, _, _⟩) ?_)
  refine Stop.mk ?_
  refine wpList_store_agg rfl _ _ rfl agT_state X 0 rfl (stC t sm3 sg3 sp3 sd3) rfl HL3.out HO3.out _ _ HZ3.out (by rw [HL.out]; decide) ?_
  intro w4 hw4
  replace hw4 := hw4.all (by rw [HL3.out, HL.out])
  have hb4 : But (fun i => i = X) w3 w4 := But.wrote hw4 rfl
  have HZ4 := Lib.hid hw4.blk
  have HK4 := Lib.hid (But.to_kept HK3.out hb4 (fun i hi => by have := HX.out; omega))
  have HST4 := Lib.hid (HSTA.out w4 (hb4.mono (fun i hi => by have := HX2.out; omega)))
  clear hw4 hb4 HST HSTA HZ3 HK3 HX2
  go_wp2_with (refine stop_at (o := ⟨some 14, _, _, _, _, _⟩) ?_)
  refine Stop.mk ?_
  refine wpList_load_agg rfl _ rfl agT_state X 0 rfl _ (Cells.of_block HZ4.out) HL3.out ?_
  have HRI := Lib.hid (st_Right t sm3 sg3 sp3 sd3 raw3 w4 HST4.out)
  go_wp2_with fail
  refine Calls.mono HRI.out ?_
  rintro e w5 ⟨rfl, hk5⟩
  have HZ5 := Lib.hid (hk5.block HZ4.out)
  have HK5 := Lib.hid (HK4.out.trans hk5)
  have HST5 := Lib.hid (HST4.out.kept hk5)
  clear hk5 HZ4 HK4 HST4 HRI
  cases hri : rightS t with
  | false =>
    go_wp2
    go_ret
    exact ⟨rfl, HK5.out⟩
  | true =>
    have HRT := Lib.hid hri
    clear hri
    obtain ⟨om, cm, rfl, _⟩ := HST5.out.ms.form
    obtain ⟨og, cg, rfl, _⟩ := HST5.out.gs.form
    obtain ⟨op, cp, rfl, hcp⟩ := HST5.out.mp.form
    obtain ⟨od, cd, rfl, _⟩ := HST5.out.dirty.form
    have hpos : 0 < t.mp.length := by
      have h1 := ((rightS_iff t).1 HRT.out).blocks
      have h2 := ((rightS_iff t).1 HRT.out).mplen
      unfold inN at h1
      simp only [Bool.and_eq_true, decide_eq_true_eq] at h1
      omega
    have x3 : w5.cell? ⟨X, 3, none⟩ = some (.slice op t.mp.length cp) := (stv_cells (Cells.of_block HZ5.out)).2.2.2.1
    obtain ⟨y, hy⟩ : ∃ y : Nat, bits BinOp.and IntKind.i64 x 255 = (y : Int) := ⟨(x % 256).toNat, by
      have h1 := i64_and_mask x 8 (by decide)
      have h2 : (2 : Int) ^ 8 - 1 = 255 := by decide
      rw [h2] at h1
      rw [h1]
      have h3 : (2 : Int) ^ 8 = 256 := by decide
      rw [h3]; omega⟩
    obtain ⟨k, hk⟩ : ∃ k, k = y % t.mp.length := ⟨_, rfl⟩
    have hkl : k < t.mp.length := by rw [hk]; exact Nat.mod_lt _ hpos
    have hkm : (y : Int).tmod (t.mp.length : Int) = (k : Int) := by rw [hk]; rfl
    obtain ⟨bp, offp, rfl, hbp, hcl⟩ := HST5.out.mp.at hkl
    obtain ⟨p, hp⟩ : ∃ p, p = t.mp[k] := ⟨_, rfl⟩
    rw [← hp] at hcl
    have HP := Lib.hid (show p ∈ t.mp by rw [hp]; exact List.getElem_mem hkl)
    have hne : t.mp ≠ [] := by intro e; rw [e] at hpos; cases hpos
    have q0 := hcl 0 (by rw [trip_len]; decide)
    have q1 := hcl 1 (by rw [trip_len]; decide)
    have q2 := hcl 2 (by rw [trip_len]; decide)
    simp only [trip, List.getElem_cons_zero, List.getElem_cons_succ, Nat.add_zero] at q0 q1 q2
    have hix1 : (0 : Int) ≤ (k : Int) := by omega
    have hix2 : (k : Int) < (t.mp.length : Int) := by omega
    have HKY := Lib.hid hk
    clear hk hp hcl
    have x3 : w5.cell? ⟨X, 3, none⟩ = some (.slice (some ⟨bp, offp, none⟩) t.mp.length cp) := (stv_cells (Cells.of_block HZ5.out)).2.2.2.1
    go_upto_region 7 with fail
    have hS := (show (fun (W : World) => W.cell? ⟨X, 3, none⟩ = some (.slice (some ⟨bp, offp, none⟩) t.mp.length cp) ∧ W.cell? ⟨bp, offp + k * 3, none⟩ = some (.int .i64 p.1) ∧ W.cell? ⟨bp, offp + k * 3 + 1, none⟩ = some (.int .i64 p.2.1) ∧ W.cell? ⟨bp, offp + k * 3 + 2, none⟩ = some (.int .i64 p.2.2)) w5.drew from ⟨x3, q0, q1, q2⟩)
    refine wp_region_calm ?_
    refine wp_region_E (fun (W : World) => W.cell? ⟨X, 3, none⟩ = some (.slice (some ⟨bp, offp, none⟩) t.mp.length cp) ∧ W.cell? ⟨bp, offp + k * 3, none⟩ = some (.int .i64 p.1) ∧ W.cell? ⟨bp, offp + k * 3 + 1, none⟩ = some (.int .i64 p.2.1) ∧ W.cell? ⟨bp, offp + k * 3 + 2, none⟩ = some (.int .i64 p.2.2)) 11 (by kernel_rfl) ?_
    refine wpAnyE_take (i := 0) (v := .pointer (some ⟨X, 3, none⟩)) (listed' := #[true, false, false, false, false, false, false, false, false, false, false, false]) (by rfl) (by kernel_rfl) (by kernel_rfl) calm_put hS (by rfl) ?_ ?_
    · intro W hW; clear hW; go_simp; try (with_reducible rfl)
    simp only [Act.put, List.getElem_toArray, List.getElem_cons_succ, List.getElem_cons_zero, List.setIfInBounds_toArray, List.set_cons_zero, List.set_cons_succ]
    refine wpAnyE_take (i := 1) (v := .slice (some ⟨bp, offp, none⟩) t.mp.length cp) (listed' := #[true, true, false, false, false, false, false, false, false, false, false, false]) (by rfl) (by kernel_rfl) (by kernel_rfl) calm_put hS (by rfl) ?_ ?_
    · intro W hW; obtain ⟨x3, q0, q1, q2⟩ := hW; go_simp; try (with_reducible rfl)
    simp only [Act.put, List.getElem_toArray, List.getElem_cons_succ, List.getElem_cons_zero, List.setIfInBounds_toArray, List.set_cons_zero, List.set_cons_succ]
    refine wpAnyE_take (i := 2) (v := .int .i64 x) (listed' := #[true, true, true, false, false, false, false, false, false, false, false, false]) (by rfl) (by kernel_rfl) (by kernel_rfl) calm_put hS (by rfl) ?_ ?_
    · intro W hW; clear hW; go_simp; try (with_reducible rfl)
    simp only [Act.put, List.getElem_toArray, List.getElem_cons_succ, List.getElem_cons_zero, List.setIfInBounds_toArray, List.set_cons_zero, List.set_cons_succ]
    refine wpAnyE_take (i := 3) (v := .int .i64 (y : Int)) (listed' := #[true, true, true, true, false, false, false, false, false, false, false, false]) (by rfl) (by kernel_rfl) (by kernel_rfl) calm_put hS (by rfl) ?_ ?_
    · intro W hW; clear hW; go_simp; try (with_reducible rfl)
    simp only [Act.put, List.getElem_toArray, List.getElem_cons_succ, List.getElem_cons_zero, List.setIfInBounds_toArray, List.set_cons_zero, List.set_cons_succ]
    refine wpAnyE_take (i := 4) (v := .pointer (some ⟨X, 3, none⟩)) (listed' := #[true, true, true, true, true, false, false, false, false, false, false, false]) (by rfl) (by kernel_rfl) (by kernel_rfl) calm_put hS (by rfl) ?_ ?_
    · intro W hW; clear hW; go_simp; try (with_reducible rfl)
    simp only [Act.put, List.getElem_toArray, List.getElem_cons_succ, List.getElem_cons_zero, List.setIfInBounds_toArray, List.set_cons_zero, List.set_cons_succ]
    refine wpAnyE_take (i := 5) (v := .slice (some ⟨bp, offp, none⟩) t.mp.length cp) (listed' := #[true, true, true, true, true, true, false, false, false, false, false, false]) (by rfl) (by kernel_rfl) (by kernel_rfl) calm_put hS (by rfl) ?_ ?_
    · intro W hW; obtain ⟨x3, q0, q1, q2⟩ := hW; go_simp; try (with_reducible rfl)
    simp only [Act.put, List.getElem_toArray, List.getElem_cons_succ, List.getElem_cons_zero, List.setIfInBounds_toArray, List.set_cons_zero, List.set_cons_succ]
    refine wpAnyE_take (i := 6) (v := .int .i64 (t.mp.length : Int)) (listed' := #[true, true, true, true, true, true, true, false, false, false, false, false]) (by rfl) (by kernel_rfl) (by kernel_rfl) calm_put hS (by rfl) ?_ ?_
    · intro W hW; clear hW; go_simp; try (with_reducible rfl)
    simp only [Act.put, List.getElem_toArray, List.getElem_cons_succ, List.getElem_cons_zero, List.setIfInBounds_toArray, List.set_cons_zero, List.set_cons_succ]
    refine wpAnyE_take (i := 7) (v := .int .i64 (k : Int)) (listed' := #[true, true, true, true, true, true, true, true, false, false, false, false]) (by rfl) (by kernel_rfl) (by kernel_rfl) calm_put hS (by rfl) ?_ ?_
    · intro W hW; clear hW; go_simp; try (with_reducible rfl)
    simp only [Act.put, List.getElem_toArray, List.getElem_cons_succ, List.getElem_cons_zero, List.setIfInBounds_toArray, List.set_cons_zero, List.set_cons_succ]
    refine wpAnyE_take (i := 8) (v := .pointer (some ⟨bp, offp + k * 3, none⟩)) (listed' := #[true, true, true, true, true, true, true, true, true, false, false, false]) (by rfl) (by kernel_rfl) (by kernel_rfl) calm_put hS (by rfl) ?_ ?_
    · intro W hW; clear hW; go_simp; try (with_reducible rfl)
    simp only [Act.put, List.getElem_toArray, List.getElem_cons_succ, List.getElem_cons_zero, List.setIfInBounds_toArray, List.set_cons_zero, List.set_cons_succ]
    refine wpAnyE_take (i := 9) (v := .agg #[.int .i64 p.1, .int .i64 p.2.1, .int .i64 p.2.2]) (listed' := #[true, true, true, true, true, true, true, true, true, true, false, false]) (by rfl) (by kernel_rfl) (by kernel_rfl) calm_put hS (by rfl) ?_ ?_
    · intro W hW; obtain ⟨x3, q0, q1, q2⟩ := hW; go_simp; try (with_reducible rfl)
    simp only [Act.put, List.getElem_toArray, List.getElem_cons_succ, List.getElem_cons_zero, List.setIfInBounds_toArray, List.set_cons_zero, List.set_cons_succ]
    refine wpAnyE_one (i := 10) (listed' := #[true, true, true, true, true, true, true, true, true, true, true, false]) (by rfl) (by kernel_rfl) (by kernel_rfl) (by rfl) (fun K hK => ?_)
    simp only [Act.put, List.getElem_toArray, List.getElem_cons_succ, List.getElem_cons_zero, List.setIfInBounds_toArray, List.set_cons_zero, List.set_cons_succ]
    refine wp_alloc_abs 41 rfl _ zero_whr ?_
    intro w6 hz6 hs6 hk6
    have hS : (fun (W : World) => W.cell? ⟨X, 3, none⟩ = some (.slice (some ⟨bp, offp, none⟩) t.mp.length cp) ∧ W.cell? ⟨bp, offp + k * 3, none⟩ = some (.int .i64 p.1) ∧ W.cell? ⟨bp, offp + k * 3 + 1, none⟩ = some (.int .i64 p.2.1) ∧ W.cell? ⟨bp, offp + k * 3 + 2, none⟩ = some (.int .i64 p.2.2)) w6 := ⟨hk6.cell' hS.1, hk6.cell' hS.2.1, hk6.cell' hS.2.2.1, hk6.cell' hS.2.2.2⟩
    refine hK _ _ (fun _ => hS) ?_; clear hK K
    refine wpAnyE_one (i := 11) (listed' := #[true, true, true, true, true, true, true, true, true, true, true, true]) (by rfl) (by kernel_rfl) (by kernel_rfl) (by rfl) (fun K hK => ?_)
    simp only [Act.put, List.getElem_toArray, List.getElem_cons_succ, List.getElem_cons_zero, List.setIfInBounds_toArray, List.set_cons_zero, List.set_cons_succ]
    refine wp_store_agg _ _ rfl agT_whr w5.drew.heap.size 0 rfl (trip p) rfl (trip_len p) (fun u hu => by simp only [trip, List.mem_cons, List.not_mem_nil, or_false] at hu; rcases hu with rfl | rfl | rfl <;> rfl) _ 41 hz6.out (by decide) ?_
    intro w7 hw7
    replace hw7 := hw7.all (by rfl)
    refine hK _ _ (fun h => absurd rfl h) ?_; clear hK K
    refine wpAnyE_done (by kernel_rfl) ?_ _
    refine calm_normal ?_
    obtain ⟨Z, hZ⟩ : ∃ Z, Z = w5.drew.heap.size := ⟨_, rfl⟩
    rw [← hZ] at hw7 ⊢
    have hkq : Kept w5 w7 := hw7.kept ((Kept.refl w5).drew.trans hk6) (by rw [hZ]; exact Nat.le_refl _)
    have hXp : X < w5.heap.size := (Array.getElem?_eq_some_iff.1 HZ5.out).1
    have HZ7 := Lib.hid hw7.blk
    have HX7 := Lib.hid (hkq.block HZ5.out)
    have HK7 := Lib.hid (HK5.out.trans hkq)
    have HST7 := Lib.hid (HST5.out.kept hkq)
    have c0 : w7.cell? ⟨Z, 0, none⟩ = some (.int .i64 p.1) := Cells.of_block HZ7.out 0 (by rw [trip_len]; decide)
    have c1 : w7.cell? ⟨Z, 1, none⟩ = some (.int .i64 p.2.1) := Cells.of_block HZ7.out 1 (by rw [trip_len]; decide)
    clear hw7 hz6 hs6 hk6 hS hkq hXp hZ q0 q1 q2 x3 HZ5 HK5 HST5
    by_cases ht0 : p.1 = 0
    · have hb0 : (p.1 != 0) = false := by simp [ht0]
      have d5 : w7.cell? ⟨X, 5, none⟩ = some (.bool t.plug.is) := Cells.of_block HX7.out 5 (by rw [HL3.out]; decide)
      have d6 : w7.cell? ⟨X, 6, none⟩ = some (.int .i64 t.plug.group) := Cells.of_block HX7.out 6 (by rw [HL3.out]; decide)
      cases hpl : t.plug.is with
      | false =>
        rw [hpl] at d5
        go_wp2
        go_ret
        exact ⟨rfl, HK7.out⟩
      | true =>
        rw [hpl] at d5
        go_wp2_with (refine stop_at (o := ⟨some 49, _, _, _, _, _⟩) ?_)
        refine Stop.mk ?_
        refine wpList_load_agg rfl _ rfl agT_state X 0 rfl _ (Cells.of_block HX7.out) HL3.out ?_
        go_wp2_with (refine stop_at (o := ⟨some 53, _, _, _, _, _⟩) ?_)
        refine Stop.mk ?_
        refine wpList_rec_drop rfl _ _ rfl t.plug.group rfl rfl ?_
        have happ := st_Apply (rcDrop t.plug.group) (rcv_len _ _ _ _ _ _ _ _ _ _ _) (mayPut t.plug.group 1) _ t (dropS t t.plug.group) _ _ _ _ raw3 w7 HST7.out (fun W _ => record_drop t.plug.group W) (fun _ _ => step_drop w7 t t.plug.group)
        rw [held_nine t HRT.out (2, t.plug.group, t.plug.slot) (plug_place t HRT.out hpl) (.inr ⟨hpl, rfl⟩)] at happ
        have HAPP := Lib.hid happ; clear happ
        go_wp2_with fail
        refine Calls.mono HAPP.out ?_
        rintro e wA ⟨cellsA, rfl, _, hkA, hlA, hoA⟩
        have HKA := Lib.hid (HK7.out.trans hkA)
        have HLA := Lib.hid hlA; have HOA := Lib.hid hoA
        clear hkA hlA hoA HAPP d5 d6
        go_wp2_with (refine stop_at (o := ⟨some 9, .alloc _, _, _, _, _⟩) ?_)
        refine Stop.mk ?_
        refine wpList_new_state rfl rfl _ _ rfl rfl cellsA rfl HLA.out HOA.out rfl ?_
        intro wB hzB hkB
        have HKB := Lib.hid (HKA.out.trans hkB)
        clear hzB hkB
        go_wp2
        go_ret
        exact ⟨rfl, HKB.out⟩
    · have hb0 : (p.1 != 0) = true := by simp [ht0]
      go_wp2_with (refine stop_at (o := ⟨some 36, _, _, _, _, _⟩) ?_)
      refine Stop.mk ?_
      refine wpList_load_agg rfl _ rfl agT_state X 0 rfl _ (Cells.of_block HX7.out) HL3.out ?_
      go_wp2_with (refine stop_at (o := ⟨some 39, _, _, _, _, _⟩) ?_)
      refine Stop.mk ?_
      refine wpList_rec_drop rfl _ _ rfl p.2.1 rfl rfl ?_
      have happ := st_Apply (rcDrop p.2.1) (rcv_len _ _ _ _ _ _ _ _ _ _ _) (mayPut p.2.1 1) _ t (dropS t p.2.1) _ _ _ _ raw3 w7 HST7.out (fun W _ => record_drop p.2.1 W) (fun _ _ => step_drop w7 t p.2.1)
      rw [held_nine t HRT.out p (mapped_place t HRT.out p HP.out ht0) (.inl ⟨HP.out, ht0⟩)] at happ
      have HAPP := Lib.hid happ; clear happ
      go_wp2_with fail
      refine Calls.mono HAPP.out ?_
      rintro e w8 ⟨cells8, rfl, _, hk8, hl8, ho8⟩
      have HK8 := Lib.hid (HK7.out.trans hk8); have HX8 := Lib.hid (hk8.block HX7.out); have HST8 := Lib.hid (HST7.out.kept hk8)
      have HL8 := Lib.hid hl8; have HO8 := Lib.hid ho8
      clear hk8 hl8 ho8 HAPP c0 c1 HX7 HK7 HST7 HZ7
      go_wp2_with (refine stop_at (o := ⟨some 7, .alloc _, _, _, _, _⟩) ?_)
      refine Stop.mk ?_
      refine wpList_new_state rfl rfl _ _ rfl rfl cells8 rfl HL8.out HO8.out rfl ?_
      intro w9 hz9 hk9
      have HK9 := Lib.hid (HK8.out.trans hk9); have HX9 := Lib.hid (hk9.block HX8.out); have HST9 := Lib.hid (HST8.out.kept hk9)
      clear hz9 hk9 HK8 HX8 HST8
      have d5 : w9.cell? ⟨X, 5, none⟩ = some (.bool t.plug.is) := Cells.of_block HX9.out 5 (by rw [HL3.out]; decide)
      have d6 : w9.cell? ⟨X, 6, none⟩ = some (.int .i64 t.plug.group) := Cells.of_block HX9.out 6 (by rw [HL3.out]; decide)
      cases hpl : t.plug.is with
      | false =>
        rw [hpl] at d5
        go_wp2
        go_ret
        exact ⟨rfl, HK9.out⟩
      | true =>
        rw [hpl] at d5
        go_wp2_with (refine stop_at (o := ⟨some 49, _, _, _, _, _⟩) ?_)
        refine Stop.mk ?_
        refine wpList_load_agg rfl _ rfl agT_state X 0 rfl _ (Cells.of_block HX9.out) HL3.out ?_
        go_wp2_with (refine stop_at (o := ⟨some 53, _, _, _, _, _⟩) ?_)
        refine Stop.mk ?_
        refine wpList_rec_drop rfl _ _ rfl t.plug.group rfl rfl ?_
        have happ := st_Apply (rcDrop t.plug.group) (rcv_len _ _ _ _ _ _ _ _ _ _ _) (mayPut t.plug.group 1) _ t (dropS t t.plug.group) _ _ _ _ raw3 w9 HST9.out (fun W _ => record_drop t.plug.group W) (fun _ _ => step_drop w9 t t.plug.group)
        rw [held_nine t HRT.out (2, t.plug.group, t.plug.slot) (plug_place t HRT.out hpl) (.inr ⟨hpl, rfl⟩)] at happ
        have HAPP := Lib.hid happ; clear happ
        go_wp2_with fail
        refine Calls.mono HAPP.out ?_
        rintro e wA ⟨cellsA, rfl, _, hkA, hlA, hoA⟩
        have HKA := Lib.hid (HK9.out.trans hkA)
        have HLA := Lib.hid hlA; have HOA := Lib.hid hoA
        clear hkA hlA hoA HAPP d5 d6
        go_wp2_with (refine stop_at (o := ⟨some 9, .alloc _, _, _, _, _⟩) ?_)
        refine Stop.mk ?_
        refine wpList_new_state rfl rfl _ _ rfl rfl cellsA rfl HLA.out HOA.out rfl ?_
        intro wB hzB hkB
        have HKB := Lib.hid (HKA.out.trans hkB)
        clear hzB hkB
        go_wp2
        go_ret
        exact ⟨rfl, HKB.out⟩
end Go.Proofs.YtiijfocdjcjlaaaGreat
