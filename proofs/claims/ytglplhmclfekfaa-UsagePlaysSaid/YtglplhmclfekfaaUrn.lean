/- law14: same (gen_same14.py). -/
import Derived.Test.YtglplhmclfekfaaUrm
import Derived.Test.YtglplhmclfekfaaUgr
namespace Go.Proofs.Ytglplhmclfekfaa
open Go.RowKit
set_option linter.unusedVariables false
set_option linter.unusedSimpArgs false

theorem ISl.own {w : World} {base n : Nat} {v : Value} {l : List Int} (h : w.ownsRow base 3 1 v n (ints l)) (hn : n = l.length) : ISl w v l := by
  subst hn
  rcases h.2 with ⟨rfl, h0⟩ | ⟨g, cap, cur, rfl, hbg, hh, hnc, hcm, hcs, htk⟩
  · exact ⟨none, 0, by rw [h0], by omega, by decide, fun k hk => by omega⟩
  · refine ⟨some ⟨g, 0, none⟩, cap, rfl, hnc, hcm, fun k hk => ⟨g, 0, rfl, ?_⟩⟩
    have hcl : cur = cur.toList.toArray := by simp
    rw [hcl] at hh
    have hj2 : k < l.length * 1 := by omega
    have hu : (ints l)[k]? = some (.int .i64 l[k]) := by simp [ints, hk]
    rw [Nat.zero_add, cell_of_row _ _ _ _ _ _ hh, ← hu, ← htk, List.getElem?_take, if_pos hj2]
    simp
section
variable {w0 W : World} {R : Nat → Prop} {p q c : Nat} {G : UG} {L : UL} {T : Tab} {vg vl : Value}
theorem UX.wf (h : UX W q G L T c vg vl) : ∀ n, T.g n ≠ none → n ∈ G.map Prod.fst ∧ (Lit.int .i64 n).wf = true := fun n hn => by
  refine ⟨(h.ur.mem_ids n).2 hn, ?_⟩
  obtain ⟨h0, h1⟩ := h.ur.some_ hn
  have e1 : IntKind.i64.min = -9223372036854775808 := rfl
  have e2 : IntKind.i64.max = 9223372036854775807 := rfl
  simp [Lit.wf]; omega
set_option maxHeartbeats 2000000
set_option maxRecDepth 100000
theorem law_same14 (h : PU w0 R W p q T c G L vg vl) (hc : c ≤ 1000) (kd g s b n : Int) :
    Calls Try.prog 26 #[.pointer (some ⟨p, 0, none⟩), .pointer (some ⟨q, 0, none⟩), .agg #[.int .i64 kd, .int .i64 g, .int .i64 s, .int .i64 b, .int .i64 n]] W fun e w' => e = .returned (.bool true) ∧ Kept W w' := by
  obtain ⟨S0, hta, _⟩ := h.own
  have hx := h.ux
  have hk1 := (Kept.refl W).alloc (Obj.cells #[.int .i64 kd, .int .i64 g, .int .i64 s, .int .i64 b, .int .i64 n] 49)
  have hb1 : _ = some (Obj.cells [Value.int .i64 kd, .int .i64 g, .int .i64 s, .int .i64 b, .int .i64 n].toArray 49 (0, 0)) := heap_alloc_new W (Obj.cells #[.int .i64 kd, .int .i64 g, .int .i64 s, .int .i64 b, .int .i64 n] 49)
  have HTA1 := Lib.hid (hta.kept hk1)
  have HX1 := Lib.hid (hx.kept hk1)
  have HK1 := Lib.hid hk1
  have p1 := cell_of_row _ _ 1 _ _ _ hb1
  have p2 := cell_of_row _ _ 2 _ _ _ hb1
  have HWF := Lib.hid hx.wf
  have hgl := hx.gl
  have HBL : Hid (∀ x, (blksI T x).length ≤ 100000) := Lib.hid fun x => by
    rw [blksI_len]
    unfold cntG
    cases hg : T.g x with
    | none => exact Nat.zero_le _
    | some lx => exact Nat.le_trans (Nat.le_trans (List.length_filter_le _ _) (hx.ok.len x lx hg).2) (by decide)
  clear h hta hx hk1 hb1
  go_enter Try.func26, Try.ntmps26
  go_wp2_with fail
  obtain ⟨Bo, hBo⟩ : ∃ Bo, Bo = W.heap.size := ⟨_, rfl⟩
  rw [← hBo] at p1 p2 ⊢
  generalize W.alloc (Obj.cells #[.int .i64 kd, .int .i64 g, .int .i64 s, .int .i64 b, .int .i64 n] 49) = w1 at *
  clear hBo
  have HQ := Lib.hid (⟨p1, p2⟩ : _ ∧ _)
  refine Calls.mono (ur_Groups HX1.out hc) ?_
  rintro e w2 ⟨x1, ks, rfl, hm1, hp1, hkl, ho1, hk2⟩
  have HM1 := Lib.hid hm1; have HP1 := Lib.hid hp1; have HO2 := Lib.hid ho1
  have HK2 := Lib.hid hk2
  have p1b := hk2.cell' p1
  have p2b := hk2.cell' p2
  clear hm1 hp1 ho1 hk2
  go_wp2_with fail
  refine Calls.mono (tab_Groups (HTA1.out.kept HK2.out) (G.map Prod.fst) HWF.out (by rw [List.length_map]; omega)) ?_
  rintro e w3 ⟨x2, ks2, rfl, hm2, hp2, ho2, _, hk3⟩
  have hks : ks2 = ks := rising_one hp2 HP1.out (fun n => by rw [hm2 n, HM1.out n])
  subst hks
  have HO3 := Lib.hid (own_same HO2.out fun g hg => hk3.block_eq (own_lt HO2.out hg))
  have HC3 := Lib.hid (CSl.own ho2 rfl)
  have HK3 := Lib.hid (HK2.out.trans hk3)
  have p1c := hk3.cell' p1b
  have p2c := hk3.cell' p2b
  clear hm2 hp2 ho2 hk3 HM1 HP1 HO2 p1 p2 p1b p2b HK2
  go_wp2_with fail
  refine Calls.mono (law_numbers w3 x1 x2 ks2 (by omega) (CSl.own HO3.out rfl) HC3.out) ?_
  rintro e w4 ⟨rfl, hk4⟩
  have HO4 := Lib.hid (own_same HO3.out fun g hg => hk4.block_eq (own_lt HO3.out hg))
  have HK4 := Lib.hid (HK3.out.trans hk4)
  have p1 := hk4.cell' p1c
  have p2 := hk4.cell' p2c
  clear hk4 HO3 HC3 HK3 p1c p2c
  -- append of both numbers
  have hk5 := (Kept.refl w4).alloc (Obj.cells #[Value.int .i64 g, .int .i64 (-1)] 3)
  have hb5 := heap_alloc_new w4 (Obj.cells #[Value.int .i64 g, .int .i64 (-1)] 3)
  have ho5 := own_same HO4.out fun g hg => hk5.block_eq (own_lt HO4.out hg)
  have hsrc : Src (w4.alloc (Obj.cells #[Value.int .i64 g, .int .i64 (-1)] 3)) 1 (.slice (some ⟨w4.heap.size, 0, none⟩) 2 2) 2 [Value.int .i64 g, .int .i64 (-1)] := Src.of_cells (by simpa using Cells.of_block hb5) rfl (Nat.le_refl _)
  obtain ⟨v6, w6, hrun, _, _, hbel, hown⟩ := run_append_app (P := Try.prog) _ ty_ints 56 w1.heap.size x1 ks2.length (ints ks2) (.inl ho5) _ 2 [Value.int .i64 g, .int .i64 (-1)] hsrc (by intro u hu; simp at hu; rcases hu with rfl | rfl <;> rfl) (by simp only [maxLen]; omega) (by omega) (HK4.out.trans hk5).size
  have hown := hown (.inl (by decide))
  have hk6 : Kept w1 w6 := Below.trans (HK4.out.trans hk5) hbel
  have HO6 : Hid (w6.ownsRow w1.heap.size 3 1 v6 (ks2 ++ [g, -1]).length (ints (ks2 ++ [g, -1]))) := Lib.hid (by rw [List.length_append]; simpa [ints] using hown)
  have HK6 := Lib.hid hk6
  have HRUN := Lib.hid hrun
  have p1 := hk6.cell' HQ.out.1
  have p2 := hk6.cell' HQ.out.2
  have HTA := Lib.hid (HTA1.out.kept hk6)
  have HX := Lib.hid (HX1.out.kept hk6)
  have HKW := Lib.hid (HK1.out.trans hk6)
  have hml : (ks2 ++ [g, -1]).length = ks2.length + 2 := by simp
  clear hk5 hb5 ho5 hsrc hrun hbel hown hk6 HTA1 HX1 HK1 HQ
  go_wp2_with (refine stop_at (o := ⟨some 44, _, _, _, _, _⟩) ?_)
  refine Stop.mk ?_
  refine wpList_plain rfl fun K hK => ?_
  refine wp_append_runU rfl rfl rfl HRUN.out ?_
  refine hK _ _ ?_
  clear hK K HRUN HO4 HK4 HK6
  obtain ⟨M, hM⟩ : ∃ M, M = ks2 ++ [g, -1] := ⟨_, rfl⟩
  rw [← hM] at HO6 hml
  have hMl : M.length ≤ 2000 := by omega
  have hM0 : M.length ≠ 0 := by omega
  clear hM hml
  obtain ⟨gl, cp, rfl, _, _, hcell⟩ := own_cell HO6.out (by omega)
  have HCL : Hid (∀ k (hk : k < M.length), w6.cell? ⟨gl, k, none⟩ = some (.int .i64 M[k])) := Lib.hid fun k hk => hcell k _ (by simp [ints, hk])
  clear hcell
  go_wp2
  go_loopw [10] (fun i wr => ∃ k : Nat, k ≤ M.length ∧ i = .int .i64 k ∧ Hid (Kept w6 wr)) (fun i _ => M.length - (intOf i).toNat)
  case atStart => exact ⟨0, Nat.zero_le _, rfl, Lib.hid (Kept.refl _)⟩
  case round =>
    obtain ⟨k, hk, rfl, HK⟩ := hrel
    by_cases hlt : k < M.length
    · have c1 := HK.out.cell' (HCL.out k hlt)
      generalize M[k] = x at *
      have HK00 := HK
      go_upto_region 10 with fail
      have hS : wr.drew.cell? ⟨gl, k, none⟩ = some (.int .i64 x) := c1
      have HK := Lib.hid (HK00.out.drew)
      clear HK00
      refine wp_region_calm ?_
      refine wp_region_E (fun W => W.cell? ⟨gl, k, none⟩ = some (.int .i64 x)) 100 (by kernel_rfl) ?_
      refine wpAnyE_take (i := 0) (v := ?_) (listed' := #[true, false, false, false, false, false, false, false, false, false, false, false, false, false]) (by rfl) (by kernel_rfl) (by kernel_rfl) calm_put hS (by rfl) ?_ ?_
      rotate_left
      · intro W hW; clear hW; go_simp; try (with_reducible rfl)
      simp only [Act.put, List.getElem_toArray, List.getElem_cons_succ, List.getElem_cons_zero, List.setIfInBounds_toArray, List.set_cons_zero, List.set_cons_succ]
      refine wpAnyE_take (i := 1) (v := ?_) (listed' := #[true, true, false, false, false, false, false, false, false, false, false, false, false, false]) (by rfl) (by kernel_rfl) (by kernel_rfl) calm_put hS (by rfl) ?_ ?_
      rotate_left
      · intro W hW; clear hW; go_simp; try (with_reducible rfl)
      simp only [Act.put, List.getElem_toArray, List.getElem_cons_succ, List.getElem_cons_zero, List.setIfInBounds_toArray, List.set_cons_zero, List.set_cons_succ]
      refine wpAnyE_take (i := 2) (v := ?_) (listed' := #[true, true, true, false, false, false, false, false, false, false, false, false, false, false]) (by rfl) (by kernel_rfl) (by kernel_rfl) calm_put hS (by rfl) ?_ ?_
      rotate_left
      · intro W hW; clear hW; go_simp; try (with_reducible rfl)
      simp only [Act.put, List.getElem_toArray, List.getElem_cons_succ, List.getElem_cons_zero, List.setIfInBounds_toArray, List.set_cons_zero, List.set_cons_succ]
      refine wpAnyE_take (i := 3) (v := ?_) (listed' := #[true, true, true, true, false, false, false, false, false, false, false, false, false, false]) (by rfl) (by kernel_rfl) (by kernel_rfl) calm_put hS (by rfl) ?_ ?_
      rotate_left
      · intro W hW; clear hW; go_simp; try (with_reducible rfl)
      simp only [Act.put, List.getElem_toArray, List.getElem_cons_succ, List.getElem_cons_zero, List.setIfInBounds_toArray, List.set_cons_zero, List.set_cons_succ]
      refine wpAnyE_take (i := 4) (v := ?_) (listed' := #[true, true, true, true, true, false, false, false, false, false, false, false, false, false]) (by rfl) (by kernel_rfl) (by kernel_rfl) calm_put hS (by rfl) ?_ ?_
      rotate_left
      · intro W hW; have c1 := hW; clear hW; go_simp; try (with_reducible rfl)
      simp only [Act.put, List.getElem_toArray, List.getElem_cons_succ, List.getElem_cons_zero, List.setIfInBounds_toArray, List.set_cons_zero, List.set_cons_succ]
      refine wpAnyE_take (i := 6) (v := ?_) (listed' := #[true, true, true, true, true, false, true, false, false, false, false, false, false, false]) (by rfl) (by kernel_rfl) (by kernel_rfl) calm_put hS (by rfl) ?_ ?_
      rotate_left
      · intro W hW; clear hW; go_simp; try (with_reducible rfl)
      simp only [Act.put, List.getElem_toArray, List.getElem_cons_succ, List.getElem_cons_zero, List.setIfInBounds_toArray, List.set_cons_zero, List.set_cons_succ]
      refine wpAnyE_take (i := 7) (v := ?_) (listed' := #[true, true, true, true, true, false, true, true, false, false, false, false, false, false]) (by rfl) (by kernel_rfl) (by kernel_rfl) calm_put hS (by rfl) ?_ ?_
      rotate_left
      · intro W hW; clear hW; go_simp; try (with_reducible rfl)
      simp only [Act.put, List.getElem_toArray, List.getElem_cons_succ, List.getElem_cons_zero, List.setIfInBounds_toArray, List.set_cons_zero, List.set_cons_succ]
      refine wpAnyE_take (i := 8) (v := ?_) (listed' := #[true, true, true, true, true, false, true, true, true, false, false, false, false, false]) (by rfl) (by kernel_rfl) (by kernel_rfl) calm_put hS (by rfl) ?_ ?_
      rotate_left
      · intro W hW; clear hW; go_simp; try (with_reducible rfl)
      simp only [Act.put, List.getElem_toArray, List.getElem_cons_succ, List.getElem_cons_zero, List.setIfInBounds_toArray, List.set_cons_zero, List.set_cons_succ]
      refine wpAnyE_take (i := 9) (v := ?_) (listed' := #[true, true, true, true, true, false, true, true, true, true, false, false, false, false]) (by rfl) (by kernel_rfl) (by kernel_rfl) calm_put hS (by rfl) ?_ ?_
      rotate_left
      · intro W hW; clear hW; go_simp; try (with_reducible rfl)
      simp only [Act.put, List.getElem_toArray, List.getElem_cons_succ, List.getElem_cons_zero, List.setIfInBounds_toArray, List.set_cons_zero, List.set_cons_succ]
      refine wpAnyE_take (i := 10) (v := ?_) (listed' := #[true, true, true, true, true, false, true, true, true, true, true, false, false, false]) (by rfl) (by kernel_rfl) (by kernel_rfl) calm_put hS (by rfl) ?_ ?_
      rotate_left
      · intro W hW; have c1 := hW; clear hW; go_simp; try (with_reducible rfl)
      simp only [Act.put, List.getElem_toArray, List.getElem_cons_succ, List.getElem_cons_zero, List.setIfInBounds_toArray, List.set_cons_zero, List.set_cons_succ]
      refine wpAnyE_one (i := 5) (listed' := #[true, true, true, true, true, true, true, true, true, true, true, false, false, false]) (by rfl) (by kernel_rfl) (by kernel_rfl) (by rfl) (fun K hK => ?_)
      simp only [Act.put, List.getElem_toArray, List.getElem_cons_succ, List.getElem_cons_zero, List.setIfInBounds_toArray, List.set_cons_zero, List.set_cons_succ]
      go_wp2_with fail
      refine Calls.mono (tab_BlocksX (HTA.out.kept HK.out) HX.out.ok x) ?_
      rintro e wA ⟨xa, rfl, ha, hk⟩
      have HA := Lib.hid ha
      clear ha
      have hS := hk.cell' hS
      have HK := Lib.hid (HK.out.trans hk)
      refine hK _ _ (fun _ => hS) ?_; clear hK K
      clear hk
      refine wpAnyE_one (i := 11) (listed' := #[true, true, true, true, true, true, true, true, true, true, true, true, false, false]) (by rfl) (by kernel_rfl) (by kernel_rfl) (by rfl) (fun K hK => ?_)
      simp only [Act.put, List.getElem_toArray, List.getElem_cons_succ, List.getElem_cons_zero, List.setIfInBounds_toArray, List.set_cons_zero, List.set_cons_succ]
      go_wp2_with fail
      refine Calls.mono (ur_Blocks (HX.out.kept HK.out) hc x) ?_
      rintro e wB ⟨xb, rfl, hb, hk⟩
      have HA := Lib.hid (HA.out.kept hk)
      have HBB := Lib.hid (CSl.own hb rfl)
      clear hb
      have hS := hk.cell' hS
      have HK := Lib.hid (HK.out.trans hk)
      refine hK _ _ (fun _ => hS) ?_; clear hK K
      clear hk
      refine wpAnyE_one (i := 12) (listed' := #[true, true, true, true, true, true, true, true, true, true, true, true, true, false]) (by rfl) (by kernel_rfl) (by kernel_rfl) (by rfl) (fun K hK => ?_)
      simp only [Act.put, List.getElem_toArray, List.getElem_cons_succ, List.getElem_cons_zero, List.setIfInBounds_toArray, List.set_cons_zero, List.set_cons_succ]
      go_wp2_with fail
      refine Calls.mono (law_numbers wB xa xb (blksI T x) (HBL.out x) HA.out HBB.out) ?_
      rintro e wC ⟨rfl, hk⟩
      have hS := hk.cell' hS
      have HK := Lib.hid (HK.out.trans hk)
      refine hK _ _ (fun _ => hS) ?_; clear hK K
      clear hk
      refine wpAnyE_one (i := 13) (listed' := #[true, true, true, true, true, true, true, true, true, true, true, true, true, true]) (by rfl) (by kernel_rfl) (by kernel_rfl) (by rfl) (fun K hK => ?_)
      simp only [Act.put, List.getElem_toArray, List.getElem_cons_succ, List.getElem_cons_zero, List.setIfInBounds_toArray, List.set_cons_zero, List.set_cons_succ]
      go_wp2
      refine hK _ _ (fun _ => hS) ?_; clear hK K
      refine wpAnyE_done (by kernel_rfl) ?_ _
      refine calm_normal ?_
      have c1 := hS
      have HH1 := Lib.hid (tab_HoleX (HTA.out.kept HK.out) HX.out.ok x)
      have HH2 := Lib.hid (ur_Hole (HX.out.kept HK.out) hc x)
      rcases hh : holeI T x with ⟨ha, hok⟩
      rw [hh] at HH1 HH2
      simp only at HH1 HH2
      clear hh hS
      go_wp2_with fail
      refine Calls.mono HH1.out ?_
      rintro e w' ⟨rfl, rfl⟩
      go_wp2_with fail
      refine Calls.mono HH2.out ?_
      rintro e w' ⟨rfl, rfl⟩
      clear HH1 HH2
      have HK01 := HK
      go_upto_region 13 with fail
      have hS : wC.drew.cell? ⟨gl, k, none⟩ = some (.int .i64 x) := c1
      have HK := Lib.hid (HK01.out.drew)
      clear HK01
      refine wp_region_calm ?_
      refine wp_region_E (fun W => W.cell? ⟨gl, k, none⟩ = some (.int .i64 x)) 100 (by kernel_rfl) ?_
      refine wpAnyE_take (i := 0) (v := ?_) (listed' := #[true, false, false, false, false, false, false, false, false, false, false, false, false, false, false, false, false, false, false, false, false, false, false, false, false, false, false, false, false, false, false, false, false, false, false, false, false, false, false, false, false, false, false]) (by rfl) (by kernel_rfl) (by kernel_rfl) calm_put hS (by rfl) ?_ ?_
      rotate_left
      · intro W hW; clear hW; go_simp; try (with_reducible rfl)
      simp only [Act.put, List.getElem_toArray, List.getElem_cons_succ, List.getElem_cons_zero, List.setIfInBounds_toArray, List.set_cons_zero, List.set_cons_succ]
      refine wpAnyE_take (i := 1) (v := ?_) (listed' := #[true, true, false, false, false, false, false, false, false, false, false, false, false, false, false, false, false, false, false, false, false, false, false, false, false, false, false, false, false, false, false, false, false, false, false, false, false, false, false, false, false, false, false]) (by rfl) (by kernel_rfl) (by kernel_rfl) calm_put hS (by rfl) ?_ ?_
      rotate_left
      · intro W hW; clear hW; go_simp; try (with_reducible rfl)
      simp only [Act.put, List.getElem_toArray, List.getElem_cons_succ, List.getElem_cons_zero, List.setIfInBounds_toArray, List.set_cons_zero, List.set_cons_succ]
      refine wpAnyE_take (i := 2) (v := ?_) (listed' := #[true, true, true, false, false, false, false, false, false, false, false, false, false, false, false, false, false, false, false, false, false, false, false, false, false, false, false, false, false, false, false, false, false, false, false, false, false, false, false, false, false, false, false]) (by rfl) (by kernel_rfl) (by kernel_rfl) calm_put hS (by rfl) ?_ ?_
      rotate_left
      · intro W hW; clear hW; go_simp; try (with_reducible rfl)
      simp only [Act.put, List.getElem_toArray, List.getElem_cons_succ, List.getElem_cons_zero, List.setIfInBounds_toArray, List.set_cons_zero, List.set_cons_succ]
      refine wpAnyE_take (i := 3) (v := ?_) (listed' := #[true, true, true, true, false, false, false, false, false, false, false, false, false, false, false, false, false, false, false, false, false, false, false, false, false, false, false, false, false, false, false, false, false, false, false, false, false, false, false, false, false, false, false]) (by rfl) (by kernel_rfl) (by kernel_rfl) calm_put hS (by rfl) ?_ ?_
      rotate_left
      · intro W hW; clear hW; go_simp; try (with_reducible rfl)
      simp only [Act.put, List.getElem_toArray, List.getElem_cons_succ, List.getElem_cons_zero, List.setIfInBounds_toArray, List.set_cons_zero, List.set_cons_succ]
      refine wpAnyE_take (i := 4) (v := ?_) (listed' := #[true, true, true, true, true, false, false, false, false, false, false, false, false, false, false, false, false, false, false, false, false, false, false, false, false, false, false, false, false, false, false, false, false, false, false, false, false, false, false, false, false, false, false]) (by rfl) (by kernel_rfl) (by kernel_rfl) calm_put hS (by rfl) ?_ ?_
      rotate_left
      · intro W hW; clear hW; go_simp; try (with_reducible rfl)
      simp only [Act.put, List.getElem_toArray, List.getElem_cons_succ, List.getElem_cons_zero, List.setIfInBounds_toArray, List.set_cons_zero, List.set_cons_succ]
      refine wpAnyE_take (i := 5) (v := ?_) (listed' := #[true, true, true, true, true, true, false, false, false, false, false, false, false, false, false, false, false, false, false, false, false, false, false, false, false, false, false, false, false, false, false, false, false, false, false, false, false, false, false, false, false, false, false]) (by rfl) (by kernel_rfl) (by kernel_rfl) calm_put hS (by rfl) ?_ ?_
      rotate_left
      · intro W hW; clear hW; go_simp; try (with_reducible rfl)
      simp only [Act.put, List.getElem_toArray, List.getElem_cons_succ, List.getElem_cons_zero, List.setIfInBounds_toArray, List.set_cons_zero, List.set_cons_succ]
      refine wpAnyE_take (i := 6) (v := ?_) (listed' := #[true, true, true, true, true, true, true, false, false, false, false, false, false, false, false, false, false, false, false, false, false, false, false, false, false, false, false, false, false, false, false, false, false, false, false, false, false, false, false, false, false, false, false]) (by rfl) (by kernel_rfl) (by kernel_rfl) calm_put hS (by rfl) ?_ ?_
      rotate_left
      · intro W hW; clear hW; go_simp; try (with_reducible rfl)
      simp only [Act.put, List.getElem_toArray, List.getElem_cons_succ, List.getElem_cons_zero, List.setIfInBounds_toArray, List.set_cons_zero, List.set_cons_succ]
      refine wpAnyE_take (i := 7) (v := ?_) (listed' := #[true, true, true, true, true, true, true, true, false, false, false, false, false, false, false, false, false, false, false, false, false, false, false, false, false, false, false, false, false, false, false, false, false, false, false, false, false, false, false, false, false, false, false]) (by rfl) (by kernel_rfl) (by kernel_rfl) calm_put hS (by rfl) ?_ ?_
      rotate_left
      · intro W hW; have c1 := hW; clear hW; go_simp; try (with_reducible rfl)
      simp only [Act.put, List.getElem_toArray, List.getElem_cons_succ, List.getElem_cons_zero, List.setIfInBounds_toArray, List.set_cons_zero, List.set_cons_succ]
      refine wpAnyE_take (i := 9) (v := ?_) (listed' := #[true, true, true, true, true, true, true, true, false, true, false, false, false, false, false, false, false, false, false, false, false, false, false, false, false, false, false, false, false, false, false, false, false, false, false, false, false, false, false, false, false, false, false]) (by rfl) (by kernel_rfl) (by kernel_rfl) calm_put hS (by rfl) ?_ ?_
      rotate_left
      · intro W hW; clear hW; go_simp; try (with_reducible rfl)
      simp only [Act.put, List.getElem_toArray, List.getElem_cons_succ, List.getElem_cons_zero, List.setIfInBounds_toArray, List.set_cons_zero, List.set_cons_succ]
      refine wpAnyE_take (i := 10) (v := ?_) (listed' := #[true, true, true, true, true, true, true, true, false, true, true, false, false, false, false, false, false, false, false, false, false, false, false, false, false, false, false, false, false, false, false, false, false, false, false, false, false, false, false, false, false, false, false]) (by rfl) (by kernel_rfl) (by kernel_rfl) calm_put hS (by rfl) ?_ ?_
      rotate_left
      · intro W hW; clear hW; go_simp; try (with_reducible rfl)
      simp only [Act.put, List.getElem_toArray, List.getElem_cons_succ, List.getElem_cons_zero, List.setIfInBounds_toArray, List.set_cons_zero, List.set_cons_succ]
      refine wpAnyE_take (i := 11) (v := ?_) (listed' := #[true, true, true, true, true, true, true, true, false, true, true, true, false, false, false, false, false, false, false, false, false, false, false, false, false, false, false, false, false, false, false, false, false, false, false, false, false, false, false, false, false, false, false]) (by rfl) (by kernel_rfl) (by kernel_rfl) calm_put hS (by rfl) ?_ ?_
      rotate_left
      · intro W hW; clear hW; go_simp; try (with_reducible rfl)
      simp only [Act.put, List.getElem_toArray, List.getElem_cons_succ, List.getElem_cons_zero, List.setIfInBounds_toArray, List.set_cons_zero, List.set_cons_succ]
      refine wpAnyE_take (i := 12) (v := ?_) (listed' := #[true, true, true, true, true, true, true, true, false, true, true, true, true, false, false, false, false, false, false, false, false, false, false, false, false, false, false, false, false, false, false, false, false, false, false, false, false, false, false, false, false, false, false]) (by rfl) (by kernel_rfl) (by kernel_rfl) calm_put hS (by rfl) ?_ ?_
      rotate_left
      · intro W hW; clear hW; go_simp; try (with_reducible rfl)
      simp only [Act.put, List.getElem_toArray, List.getElem_cons_succ, List.getElem_cons_zero, List.setIfInBounds_toArray, List.set_cons_zero, List.set_cons_succ]
      refine wpAnyE_take (i := 13) (v := ?_) (listed' := #[true, true, true, true, true, true, true, true, false, true, true, true, true, true, false, false, false, false, false, false, false, false, false, false, false, false, false, false, false, false, false, false, false, false, false, false, false, false, false, false, false, false, false]) (by rfl) (by kernel_rfl) (by kernel_rfl) calm_put hS (by rfl) ?_ ?_
      rotate_left
      · intro W hW; have c1 := hW; clear hW; go_simp; try (with_reducible rfl)
      simp only [Act.put, List.getElem_toArray, List.getElem_cons_succ, List.getElem_cons_zero, List.setIfInBounds_toArray, List.set_cons_zero, List.set_cons_succ]
      refine wpAnyE_one (i := 8) (listed' := #[true, true, true, true, true, true, true, true, true, true, true, true, true, true, false, false, false, false, false, false, false, false, false, false, false, false, false, false, false, false, false, false, false, false, false, false, false, false, false, false, false, false, false]) (by rfl) (by kernel_rfl) (by kernel_rfl) (by rfl) (fun K hK => ?_)
      simp only [Act.put, List.getElem_toArray, List.getElem_cons_succ, List.getElem_cons_zero, List.setIfInBounds_toArray, List.set_cons_zero, List.set_cons_succ]
      go_wp2_with fail
      refine Calls.mono (tab_SlotsX (HTA.out.kept HK.out) x) ?_
      rintro e w' ⟨rfl, rfl⟩
      refine hK _ _ (fun _ => hS) ?_; clear hK K
      refine wpAnyE_one (i := 14) (listed' := #[true, true, true, true, true, true, true, true, true, true, true, true, true, true, true, false, false, false, false, false, false, false, false, false, false, false, false, false, false, false, false, false, false, false, false, false, false, false, false, false, false, false, false]) (by rfl) (by kernel_rfl) (by kernel_rfl) (by rfl) (fun K hK => ?_)
      simp only [Act.put, List.getElem_toArray, List.getElem_cons_succ, List.getElem_cons_zero, List.setIfInBounds_toArray, List.set_cons_zero, List.set_cons_succ]
      go_wp2_with fail
      refine Calls.mono (ur_Slots (HX.out.kept HK.out) (by omega) x) ?_
      rintro e w' ⟨rfl, rfl⟩
      refine hK _ _ (fun _ => hS) ?_; clear hK K
      refine wpAnyE_take (i := 15) (v := ?_) (listed' := #[true, true, true, true, true, true, true, true, true, true, true, true, true, true, true, true, false, false, false, false, false, false, false, false, false, false, false, false, false, false, false, false, false, false, false, false, false, false, false, false, false, false, false]) (by rfl) (by kernel_rfl) (by kernel_rfl) calm_put hS (by rfl) ?_ ?_
      rotate_left
      · intro W hW; clear hW; go_simp; try (with_reducible rfl)
      simp only [Act.put, List.getElem_toArray, List.getElem_cons_succ, List.getElem_cons_zero, List.setIfInBounds_toArray, List.set_cons_zero, List.set_cons_succ]
      refine wpAnyE_take (i := 16) (v := ?_) (listed' := #[true, true, true, true, true, true, true, true, true, true, true, true, true, true, true, true, true, false, false, false, false, false, false, false, false, false, false, false, false, false, false, false, false, false, false, false, false, false, false, false, false, false, false]) (by rfl) (by kernel_rfl) (by kernel_rfl) calm_put hS (by rfl) ?_ ?_
      rotate_left
      · intro W hW; clear hW; go_simp; try (with_reducible rfl)
      simp only [Act.put, List.getElem_toArray, List.getElem_cons_succ, List.getElem_cons_zero, List.setIfInBounds_toArray, List.set_cons_zero, List.set_cons_succ]
      refine wpAnyE_take (i := 17) (v := ?_) (listed' := #[true, true, true, true, true, true, true, true, true, true, true, true, true, true, true, true, true, true, false, false, false, false, false, false, false, false, false, false, false, false, false, false, false, false, false, false, false, false, false, false, false, false, false]) (by rfl) (by kernel_rfl) (by kernel_rfl) calm_put hS (by rfl) ?_ ?_
      rotate_left
      · intro W hW; clear hW; go_simp; try (with_reducible rfl)
      simp only [Act.put, List.getElem_toArray, List.getElem_cons_succ, List.getElem_cons_zero, List.setIfInBounds_toArray, List.set_cons_zero, List.set_cons_succ]
      refine wpAnyE_take (i := 18) (v := ?_) (listed' := #[true, true, true, true, true, true, true, true, true, true, true, true, true, true, true, true, true, true, true, false, false, false, false, false, false, false, false, false, false, false, false, false, false, false, false, false, false, false, false, false, false, false, false]) (by rfl) (by kernel_rfl) (by kernel_rfl) calm_put hS (by rfl) ?_ ?_
      rotate_left
      · intro W hW; clear hW; go_simp; try (with_reducible rfl)
      simp only [Act.put, List.getElem_toArray, List.getElem_cons_succ, List.getElem_cons_zero, List.setIfInBounds_toArray, List.set_cons_zero, List.set_cons_succ]
      refine wpAnyE_take (i := 19) (v := ?_) (listed' := #[true, true, true, true, true, true, true, true, true, true, true, true, true, true, true, true, true, true, true, true, false, false, false, false, false, false, false, false, false, false, false, false, false, false, false, false, false, false, false, false, false, false, false]) (by rfl) (by kernel_rfl) (by kernel_rfl) calm_put hS (by rfl) ?_ ?_
      rotate_left
      · intro W hW; clear hW; go_simp; try (with_reducible rfl)
      simp only [Act.put, List.getElem_toArray, List.getElem_cons_succ, List.getElem_cons_zero, List.setIfInBounds_toArray, List.set_cons_zero, List.set_cons_succ]
      refine wpAnyE_take (i := 20) (v := ?_) (listed' := #[true, true, true, true, true, true, true, true, true, true, true, true, true, true, true, true, true, true, true, true, true, false, false, false, false, false, false, false, false, false, false, false, false, false, false, false, false, false, false, false, false, false, false]) (by rfl) (by kernel_rfl) (by kernel_rfl) calm_put hS (by rfl) ?_ ?_
      rotate_left
      · intro W hW; clear hW; go_simp; try (with_reducible rfl)
      simp only [Act.put, List.getElem_toArray, List.getElem_cons_succ, List.getElem_cons_zero, List.setIfInBounds_toArray, List.set_cons_zero, List.set_cons_succ]
      refine wpAnyE_take (i := 21) (v := ?_) (listed' := #[true, true, true, true, true, true, true, true, true, true, true, true, true, true, true, true, true, true, true, true, true, true, false, false, false, false, false, false, false, false, false, false, false, false, false, false, false, false, false, false, false, false, false]) (by rfl) (by kernel_rfl) (by kernel_rfl) calm_put hS (by rfl) ?_ ?_
      rotate_left
      · intro W hW; clear hW; go_simp; try (with_reducible rfl)
      simp only [Act.put, List.getElem_toArray, List.getElem_cons_succ, List.getElem_cons_zero, List.setIfInBounds_toArray, List.set_cons_zero, List.set_cons_succ]
      refine wpAnyE_take (i := 22) (v := ?_) (listed' := #[true, true, true, true, true, true, true, true, true, true, true, true, true, true, true, true, true, true, true, true, true, true, true, false, false, false, false, false, false, false, false, false, false, false, false, false, false, false, false, false, false, false, false]) (by rfl) (by kernel_rfl) (by kernel_rfl) calm_put hS (by rfl) ?_ ?_
      rotate_left
      · intro W hW; have c1 := hW; clear hW; go_simp; try (with_reducible rfl)
      simp only [Act.put, List.getElem_toArray, List.getElem_cons_succ, List.getElem_cons_zero, List.setIfInBounds_toArray, List.set_cons_zero, List.set_cons_succ]
      refine wpAnyE_take (i := 24) (v := ?_) (listed' := #[true, true, true, true, true, true, true, true, true, true, true, true, true, true, true, true, true, true, true, true, true, true, true, false, true, false, false, false, false, false, false, false, false, false, false, false, false, false, false, false, false, false, false]) (by rfl) (by kernel_rfl) (by kernel_rfl) calm_put hS (by rfl) ?_ ?_
      rotate_left
      · intro W hW; clear hW; go_simp; try (with_reducible rfl)
      simp only [Act.put, List.getElem_toArray, List.getElem_cons_succ, List.getElem_cons_zero, List.setIfInBounds_toArray, List.set_cons_zero, List.set_cons_succ]
      refine wpAnyE_take (i := 25) (v := ?_) (listed' := #[true, true, true, true, true, true, true, true, true, true, true, true, true, true, true, true, true, true, true, true, true, true, true, false, true, true, false, false, false, false, false, false, false, false, false, false, false, false, false, false, false, false, false]) (by rfl) (by kernel_rfl) (by kernel_rfl) calm_put hS (by rfl) ?_ ?_
      rotate_left
      · intro W hW; clear hW; go_simp; try (with_reducible rfl)
      simp only [Act.put, List.getElem_toArray, List.getElem_cons_succ, List.getElem_cons_zero, List.setIfInBounds_toArray, List.set_cons_zero, List.set_cons_succ]
      refine wpAnyE_take (i := 26) (v := ?_) (listed' := #[true, true, true, true, true, true, true, true, true, true, true, true, true, true, true, true, true, true, true, true, true, true, true, false, true, true, true, false, false, false, false, false, false, false, false, false, false, false, false, false, false, false, false]) (by rfl) (by kernel_rfl) (by kernel_rfl) calm_put hS (by rfl) ?_ ?_
      rotate_left
      · intro W hW; clear hW; go_simp; try (with_reducible rfl)
      simp only [Act.put, List.getElem_toArray, List.getElem_cons_succ, List.getElem_cons_zero, List.setIfInBounds_toArray, List.set_cons_zero, List.set_cons_succ]
      refine wpAnyE_take (i := 27) (v := ?_) (listed' := #[true, true, true, true, true, true, true, true, true, true, true, true, true, true, true, true, true, true, true, true, true, true, true, false, true, true, true, true, false, false, false, false, false, false, false, false, false, false, false, false, false, false, false]) (by rfl) (by kernel_rfl) (by kernel_rfl) calm_put hS (by rfl) ?_ ?_
      rotate_left
      · intro W hW; clear hW; go_simp; try (with_reducible rfl)
      simp only [Act.put, List.getElem_toArray, List.getElem_cons_succ, List.getElem_cons_zero, List.setIfInBounds_toArray, List.set_cons_zero, List.set_cons_succ]
      refine wpAnyE_take (i := 28) (v := ?_) (listed' := #[true, true, true, true, true, true, true, true, true, true, true, true, true, true, true, true, true, true, true, true, true, true, true, false, true, true, true, true, true, false, false, false, false, false, false, false, false, false, false, false, false, false, false]) (by rfl) (by kernel_rfl) (by kernel_rfl) calm_put hS (by rfl) ?_ ?_
      rotate_left
      · intro W hW; have c1 := hW; clear hW; go_simp; try (with_reducible rfl)
      simp only [Act.put, List.getElem_toArray, List.getElem_cons_succ, List.getElem_cons_zero, List.setIfInBounds_toArray, List.set_cons_zero, List.set_cons_succ]
      refine wpAnyE_one (i := 23) (listed' := #[true, true, true, true, true, true, true, true, true, true, true, true, true, true, true, true, true, true, true, true, true, true, true, true, true, true, true, true, true, false, false, false, false, false, false, false, false, false, false, false, false, false, false]) (by rfl) (by kernel_rfl) (by kernel_rfl) (by rfl) (fun K hK => ?_)
      simp only [Act.put, List.getElem_toArray, List.getElem_cons_succ, List.getElem_cons_zero, List.setIfInBounds_toArray, List.set_cons_zero, List.set_cons_succ]
      go_wp2_with fail
      refine Calls.mono (tab_CountX (HTA.out.kept HK.out) HX.out.ok x) ?_
      rintro e wD ⟨rfl, hk⟩
      have hS := hk.cell' hS
      have HK := Lib.hid (HK.out.trans hk)
      refine hK _ _ (fun _ => hS) ?_; clear hK K
      clear hk
      refine wpAnyE_one (i := 29) (listed' := #[true, true, true, true, true, true, true, true, true, true, true, true, true, true, true, true, true, true, true, true, true, true, true, true, true, true, true, true, true, true, false, false, false, false, false, false, false, false, false, false, false, false, false]) (by rfl) (by kernel_rfl) (by kernel_rfl) (by rfl) (fun K hK => ?_)
      simp only [Act.put, List.getElem_toArray, List.getElem_cons_succ, List.getElem_cons_zero, List.setIfInBounds_toArray, List.set_cons_zero, List.set_cons_succ]
      go_wp2_with fail
      refine Calls.mono (ur_Blocks (HX.out.kept HK.out) hc x) ?_
      rintro e wE ⟨xb, rfl, hb, hk⟩
      obtain ⟨ab, cb, rfl⟩ := own_form hb
      rw [blksI_len]
      clear hb
      have hS := hk.cell' hS
      have HK := Lib.hid (HK.out.trans hk)
      refine hK _ _ (fun _ => hS) ?_; clear hK K
      clear hk
      refine wpAnyE_take (i := 30) (v := ?_) (listed' := #[true, true, true, true, true, true, true, true, true, true, true, true, true, true, true, true, true, true, true, true, true, true, true, true, true, true, true, true, true, true, true, false, false, false, false, false, false, false, false, false, false, false, false]) (by rfl) (by kernel_rfl) (by kernel_rfl) calm_put hS (by rfl) ?_ ?_
      rotate_left
      · intro W hW; clear hW; go_simp; try (with_reducible rfl)
      simp only [Act.put, List.getElem_toArray, List.getElem_cons_succ, List.getElem_cons_zero, List.setIfInBounds_toArray, List.set_cons_zero, List.set_cons_succ]
      refine wpAnyE_take (i := 31) (v := ?_) (listed' := #[true, true, true, true, true, true, true, true, true, true, true, true, true, true, true, true, true, true, true, true, true, true, true, true, true, true, true, true, true, true, true, true, false, false, false, false, false, false, false, false, false, false, false]) (by rfl) (by kernel_rfl) (by kernel_rfl) calm_put hS (by rfl) ?_ ?_
      rotate_left
      · intro W hW; clear hW; go_simp; try (with_reducible rfl)
      simp only [Act.put, List.getElem_toArray, List.getElem_cons_succ, List.getElem_cons_zero, List.setIfInBounds_toArray, List.set_cons_zero, List.set_cons_succ]
      refine wpAnyE_take (i := 32) (v := ?_) (listed' := #[true, true, true, true, true, true, true, true, true, true, true, true, true, true, true, true, true, true, true, true, true, true, true, true, true, true, true, true, true, true, true, true, true, false, false, false, false, false, false, false, false, false, false]) (by rfl) (by kernel_rfl) (by kernel_rfl) calm_put hS (by rfl) ?_ ?_
      rotate_left
      · intro W hW; clear hW; go_simp; try (with_reducible rfl)
      simp only [Act.put, List.getElem_toArray, List.getElem_cons_succ, List.getElem_cons_zero, List.setIfInBounds_toArray, List.set_cons_zero, List.set_cons_succ]
      refine wpAnyE_take (i := 33) (v := ?_) (listed' := #[true, true, true, true, true, true, true, true, true, true, true, true, true, true, true, true, true, true, true, true, true, true, true, true, true, true, true, true, true, true, true, true, true, true, false, false, false, false, false, false, false, false, false]) (by rfl) (by kernel_rfl) (by kernel_rfl) calm_put hS (by rfl) ?_ ?_
      rotate_left
      · intro W hW; clear hW; go_simp; try (with_reducible rfl)
      simp only [Act.put, List.getElem_toArray, List.getElem_cons_succ, List.getElem_cons_zero, List.setIfInBounds_toArray, List.set_cons_zero, List.set_cons_succ]
      refine wpAnyE_take (i := 34) (v := ?_) (listed' := #[true, true, true, true, true, true, true, true, true, true, true, true, true, true, true, true, true, true, true, true, true, true, true, true, true, true, true, true, true, true, true, true, true, true, true, false, false, false, false, false, false, false, false]) (by rfl) (by kernel_rfl) (by kernel_rfl) calm_put hS (by rfl) ?_ ?_
      rotate_left
      · intro W hW; clear hW; go_simp; try (with_reducible rfl)
      simp only [Act.put, List.getElem_toArray, List.getElem_cons_succ, List.getElem_cons_zero, List.setIfInBounds_toArray, List.set_cons_zero, List.set_cons_succ]
      refine wpAnyE_take (i := 35) (v := ?_) (listed' := #[true, true, true, true, true, true, true, true, true, true, true, true, true, true, true, true, true, true, true, true, true, true, true, true, true, true, true, true, true, true, true, true, true, true, true, true, false, false, false, false, false, false, false]) (by rfl) (by kernel_rfl) (by kernel_rfl) calm_put hS (by rfl) ?_ ?_
      rotate_left
      · intro W hW; clear hW; go_simp; try (with_reducible rfl)
      simp only [Act.put, List.getElem_toArray, List.getElem_cons_succ, List.getElem_cons_zero, List.setIfInBounds_toArray, List.set_cons_zero, List.set_cons_succ]
      refine wpAnyE_take (i := 36) (v := ?_) (listed' := #[true, true, true, true, true, true, true, true, true, true, true, true, true, true, true, true, true, true, true, true, true, true, true, true, true, true, true, true, true, true, true, true, true, true, true, true, true, false, false, false, false, false, false]) (by rfl) (by kernel_rfl) (by kernel_rfl) calm_put hS (by rfl) ?_ ?_
      rotate_left
      · intro W hW; clear hW; go_simp; try (with_reducible rfl)
      simp only [Act.put, List.getElem_toArray, List.getElem_cons_succ, List.getElem_cons_zero, List.setIfInBounds_toArray, List.set_cons_zero, List.set_cons_succ]
      refine wpAnyE_take (i := 37) (v := ?_) (listed' := #[true, true, true, true, true, true, true, true, true, true, true, true, true, true, true, true, true, true, true, true, true, true, true, true, true, true, true, true, true, true, true, true, true, true, true, true, true, true, false, false, false, false, false]) (by rfl) (by kernel_rfl) (by kernel_rfl) calm_put hS (by rfl) ?_ ?_
      rotate_left
      · intro W hW; clear hW; go_simp; try (with_reducible rfl)
      simp only [Act.put, List.getElem_toArray, List.getElem_cons_succ, List.getElem_cons_zero, List.setIfInBounds_toArray, List.set_cons_zero, List.set_cons_succ]
      refine wpAnyE_take (i := 38) (v := ?_) (listed' := #[true, true, true, true, true, true, true, true, true, true, true, true, true, true, true, true, true, true, true, true, true, true, true, true, true, true, true, true, true, true, true, true, true, true, true, true, true, true, true, false, false, false, false]) (by rfl) (by kernel_rfl) (by kernel_rfl) calm_put hS (by rfl) ?_ ?_
      rotate_left
      · intro W hW; clear hW; go_simp; try (with_reducible rfl)
      simp only [Act.put, List.getElem_toArray, List.getElem_cons_succ, List.getElem_cons_zero, List.setIfInBounds_toArray, List.set_cons_zero, List.set_cons_succ]
      refine wpAnyE_take (i := 39) (v := ?_) (listed' := #[true, true, true, true, true, true, true, true, true, true, true, true, true, true, true, true, true, true, true, true, true, true, true, true, true, true, true, true, true, true, true, true, true, true, true, true, true, true, true, true, false, false, false]) (by rfl) (by kernel_rfl) (by kernel_rfl) calm_put hS (by rfl) ?_ ?_
      rotate_left
      · intro W hW; clear hW; go_simp; try (with_reducible rfl)
      simp only [Act.put, List.getElem_toArray, List.getElem_cons_succ, List.getElem_cons_zero, List.setIfInBounds_toArray, List.set_cons_zero, List.set_cons_succ]
      refine wpAnyE_take (i := 40) (v := ?_) (listed' := #[true, true, true, true, true, true, true, true, true, true, true, true, true, true, true, true, true, true, true, true, true, true, true, true, true, true, true, true, true, true, true, true, true, true, true, true, true, true, true, true, true, false, false]) (by rfl) (by kernel_rfl) (by kernel_rfl) calm_put hS (by rfl) ?_ ?_
      rotate_left
      · intro W hW; clear hW; go_simp; try (with_reducible rfl)
      simp only [Act.put, List.getElem_toArray, List.getElem_cons_succ, List.getElem_cons_zero, List.setIfInBounds_toArray, List.set_cons_zero, List.set_cons_succ]
      refine wpAnyE_take (i := 41) (v := ?_) (listed' := #[true, true, true, true, true, true, true, true, true, true, true, true, true, true, true, true, true, true, true, true, true, true, true, true, true, true, true, true, true, true, true, true, true, true, true, true, true, true, true, true, true, true, false]) (by rfl) (by kernel_rfl) (by kernel_rfl) calm_put hS (by rfl) ?_ ?_
      rotate_left
      · intro W hW; clear hW; go_simp; try (with_reducible rfl)
      simp only [Act.put, List.getElem_toArray, List.getElem_cons_succ, List.getElem_cons_zero, List.setIfInBounds_toArray, List.set_cons_zero, List.set_cons_succ]
      refine wpAnyE_take (i := 42) (v := ?_) (listed' := #[true, true, true, true, true, true, true, true, true, true, true, true, true, true, true, true, true, true, true, true, true, true, true, true, true, true, true, true, true, true, true, true, true, true, true, true, true, true, true, true, true, true, true]) (by rfl) (by kernel_rfl) (by kernel_rfl) calm_put hS (by rfl) ?_ ?_
      rotate_left
      · intro W hW; clear hW; go_simp; try (with_reducible rfl)
      simp only [Act.put, List.getElem_toArray, List.getElem_cons_succ, List.getElem_cons_zero, List.setIfInBounds_toArray, List.set_cons_zero, List.set_cons_succ]
      refine wpAnyE_done (by kernel_rfl) ?_ _
      refine calm_normal ?_
      clear hS
      go_wp2
      go_roundw
      case rel => exact ⟨k + 1, hlt, by go_num, HK⟩
      case measure => simp [intOf]; omega
    · have hkk : k = M.length := by omega
      subst hkk
      obtain ⟨wa, rfl⟩ : ∃ wa, wa = wr := ⟨_, rfl⟩
      have HK6 := HK
      have p1 := HK6.out.cell' p1
      have p2 := HK6.out.cell' p2
      go_wp2
      go_loopw [16] (fun i wq => ∃ j : Nat, j ≤ 21 ∧ i = .int .i64 ((j : Int) - 1) ∧ Hid (Kept wa wq)) (fun i _ => (20 - intOf i).toNat)
      case atStart => exact ⟨0, Nat.zero_le _, rfl, Lib.hid (Kept.refl _)⟩
      case round =>
        obtain ⟨j, hj, rfl, HKQ⟩ := hrel
        have HK := Lib.hid (HK6.out.trans HKQ.out)
        by_cases hlt : j < 21
        · have HF1 := Lib.hid (tab_Find (HTA.out.kept HK.out) ((j : Int) - 1) _ rfl)
          have HF2 := Lib.hid (fun (W' : World) (hk : Kept wr W') => ur_Find (HX.out.kept (HK.out.trans hk)) (by omega) ((j : Int) - 1))
          cases hf : T.f ((j : Int) - 1) with
          | none =>
            rw [hf] at HF1 HF2
            simp only [findV] at HF1 HF2
            clear hf
            go_wp2_with fail
            refine Calls.mono HF1.out ?_
            rintro e wx ⟨rfl, hkx⟩
            have HKX := Lib.hid hkx
            clear hkx
            go_wp2_with fail
            refine Calls.mono (HF2.out _ HKX.out) ?_
            rintro e wy ⟨rfl, hky⟩
            have HKY := Lib.hid (HKQ.out.trans (HKX.out.trans hky))
            clear hky HF1 HF2
            go_wp2
            go_roundw
            case rel => exact ⟨j + 1, hlt, by go_num, HKY⟩
            case measure => simp [intOf]; omega
          | some y =>
            obtain ⟨y1, y2⟩ := y
            rw [hf] at HF1 HF2
            simp only [findV] at HF1 HF2
            clear hf
            go_wp2_with fail
            refine Calls.mono HF1.out ?_
            rintro e wx ⟨rfl, hkx⟩
            have HKX := Lib.hid hkx
            clear hkx
            go_wp2_with fail
            refine Calls.mono (HF2.out _ HKX.out) ?_
            rintro e wy ⟨rfl, hky⟩
            have HKY := Lib.hid (HKQ.out.trans (HKX.out.trans hky))
            clear hky HF1 HF2
            go_wp2
            go_roundw
            case rel => exact ⟨j + 1, hlt, by go_num, HKY⟩
            case measure => simp [intOf]; omega
        · have hjj : j = 21 := by omega
          subst hjj
          have p1 := HKQ.out.cell' p1
          have p2 := HKQ.out.cell' p2
          have HBK1 := Lib.hid (tab_BlockX (HTA.out.kept HK.out) HX.out.ok g s)
          have HBK2 := Lib.hid (ur_Block (HX.out.kept HK.out) (by omega) g s)
          rcases hh : blkI T g s with ⟨ba, bok⟩
          rw [hh] at HBK1 HBK2
          simp only at HBK1 HBK2
          clear hh
          have HIS : Hid (ISl wr (.slice (some ⟨gl, 0, none⟩) M.length cp) M) := Lib.hid (ISl.kept (ISl.own HO6.out rfl) HK.out)
          have HE1 := Lib.hid (tab_Emptiest (HTA.out.kept HK.out) HX.out.ok.len _ M HIS.out)
          have HE2 := Lib.hid (fun (W' : World) (hk : Kept wr W') => ur_Emptiest (HX.out.kept (HK.out.trans hk)) hc _ M (HIS.out.kept hk))
          rcases hh : emp T M with ⟨ea, eok⟩
          rw [hh] at HE1 HE2
          simp only at HE1 HE2
          clear hh HIS
          go_wp2_with fail
          refine Calls.mono HBK1.out ?_
          rintro e w' ⟨rfl, rfl⟩
          go_wp2_with fail
          refine Calls.mono HBK2.out ?_
          rintro e w' ⟨rfl, rfl⟩
          clear HBK1 HBK2
          go_wp2_with fail
          refine Calls.mono HE1.out ?_
          rintro e wx ⟨rfl, hkx⟩
          have HKX := Lib.hid hkx
          clear hkx
          go_wp2_with fail
          refine Calls.mono (HE2.out _ HKX.out) ?_
          rintro e wy ⟨rfl, hky⟩
          have HKY := Lib.hid (HKW.out.trans (HK.out.trans (HKX.out.trans hky)))
          clear hky HE1 HE2
          go_wp2
          go_ret
          exact ⟨by simp, HKY.out⟩
end
end Go.Proofs.Ytglplhmclfekfaa
