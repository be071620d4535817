/- state.step at dirty and clean (gen_drt.py, XDrt.head). -/
import Derived.Test.YtiijfocdjcjlaaaGreatDra
namespace Go.Proofs.YtiijfocdjcjlaaaGreat
open Go.RowKit Go.ChangeMaps Go.MapKept
set_option linter.unusedVariables false
set_option linter.unusedSimpArgs false
set_option maxRecDepth 100000
set_option maxHeartbeats 1000000
def dirtyS (s : St) (d : List Int) : St := { s with dirty := d }
theorem ones_i (l : List Int) : ∀ u ∈ l.flatMap oneV, u.oneCell' = true := by
  intro u hu
  simp only [List.mem_flatMap] at hu
  obtain ⟨x, _, hu⟩ := hu
  simp only [oneV, List.mem_cons, List.not_mem_nil, or_false] at hu
  subst hu; rfl
theorem Own.hi_le {α : Type} {enc : α → List Value} {n E lo hi hi' : Nat} {W : World} {v : Value} {l : List α} (h : Own E enc n W lo hi v l) (hl : ∀ g, lo ≤ g → g < hi → g < hi') : Own E enc n W lo hi' v l := by
  rcases h with ⟨g, cap, e, g1, g2, ho⟩ | h
  · exact .inl ⟨g, cap, e, g1, hl g g1 g2, ho⟩
  · exact .inr h
theorem step_dirty (wx : World) (s : St) (l : List Int) (vi : Value) (hlen : s.dirty.length + l.length ≤ 4096) (hm : Src wx 1 vi l.length (l.flatMap oneV)) (h1 : vi.cells = #[vi] ∧ vi.oneCell' = true) : StepC wx (rcDirty vi) s 0 (dirtyS s (joinL s.dirty l)) := by
  intro X b0 base b1 b2 b3 b4 sm sg sp sd raw w hkx _ hO hX0 hX1 hX
  have hl0 := hO.le0; have hl1 := hO.le1; have hl2 := hO.le2; have hl3 := hO.le3; have hl4 := hO.le4; have hl5 := hO.le5
  obtain ⟨od, cd, rfl⟩ := hO.d.form
  have HO := Lib.hid hO; have HX := Lib.hid hX; have HM := Lib.hid (hm.kept hkx)
  have HL := Lib.hid (show (stC s sm sg sp (.slice od s.dirty.length cd)).length = 136 from stv_len (plv_len hO.plug))
  clear hO hX hm hkx
  go_enter Tryz.func37, Tryz.ntmps37
  go_wp2_with (refine stop_at (o := ⟨some 3, _, _, _, _, _⟩) ?_)
  refine Stop.mk ?_
  refine wpList_box_rowS rfl _ _ rfl (rcDirty vi) rfl ?_
  intro w1 hz1 hs1 hk1
  obtain ⟨rb, hrb⟩ : ∃ rb, rb = w.heap.size := ⟨_, rfl⟩
  rw [← hrb] at hz1 ⊢
  have hr4 : b4 ≤ rb := by omega
  have c0 : w1.cell? ⟨rb, 0, none⟩ = some (.int .i64 5) := (Cells.of_block hz1.out) 0 (by show 0 < 142; decide)
  have c9 : w1.cell? ⟨rb, 9, none⟩ = some vi := (Cells.of_block hz1.out) 9 (by show 9 < 142; decide)
  have HK1 := Lib.hid hk1
  have HX1 := Lib.hid (hk1.block HX.out)
  have c4 : w1.cell? ⟨X, 4, none⟩ = some (.slice od s.dirty.length cd) := (stv_cells (Cells.of_block HX1.out)).2.2.2.2
  clear hz1 hs1 hk1 hrb
  go_upto_region 13 with fail
  have hS : (fun (W : World) => W.cell? ⟨X, 4, none⟩ = some (.slice od s.dirty.length cd) ∧ W.cell? ⟨rb, 9, none⟩ = some vi) w1.drew := ⟨c4, c9⟩
  have HDR := Lib.hid (show Kept w w1.drew from HK1.out.drew)
  have HXD := Lib.hid (HDR.out.block HX.out)
  have HH4 := Lib.hid (show b4 ≤ w1.drew.heap.size by have := HDR.out.size; omega)
  clear c0 c4 c9
  refine wp_region_calm ?_
  refine wp_region_E (fun (W : World) => W.cell? ⟨X, 4, none⟩ = some (.slice od s.dirty.length cd) ∧ W.cell? ⟨rb, 9, none⟩ = some vi) 10 (by kernel_rfl) ?_
  refine wpAnyE_take (i := 0) (v := .pointer (some ⟨X, 0, none⟩)) (listed' := #[true, false, false, false, false, false, false, false, false, false, false]) (by rfl) (by kernel_rfl) (by kernel_rfl) calm_put hS (by rfl) ?_ ?_
  · intro W hW; clear hW; go_simp; try (with_reducible rfl)
  simp only [Act.put, List.getElem_toArray, List.getElem_cons_succ, List.getElem_cons_zero, List.setIfInBounds_toArray, List.set_cons_zero, List.set_cons_succ]
  refine wpAnyE_take (i := 1) (v := .pointer (some ⟨X, 0, none⟩)) (listed' := #[true, true, false, false, false, false, false, false, false, false, false]) (by rfl) (by kernel_rfl) (by kernel_rfl) calm_put hS (by rfl) ?_ ?_
  · intro W hW; clear hW; go_simp; try (with_reducible rfl)
  simp only [Act.put, List.getElem_toArray, List.getElem_cons_succ, List.getElem_cons_zero, List.setIfInBounds_toArray, List.set_cons_zero, List.set_cons_succ]
  refine wpAnyE_take (i := 2) (v := .pointer (some ⟨X, 0, none⟩)) (listed' := #[true, true, true, false, false, false, false, false, false, false, false]) (by rfl) (by kernel_rfl) (by kernel_rfl) calm_put hS (by rfl) ?_ ?_
  · intro W hW; clear hW; go_simp; try (with_reducible rfl)
  simp only [Act.put, List.getElem_toArray, List.getElem_cons_succ, List.getElem_cons_zero, List.setIfInBounds_toArray, List.set_cons_zero, List.set_cons_succ]
  refine wpAnyE_take (i := 3) (v := .pointer (some ⟨X, 4, none⟩)) (listed' := #[true, true, true, true, false, false, false, false, false, false, false]) (by rfl) (by kernel_rfl) (by kernel_rfl) calm_put hS (by rfl) ?_ ?_
  · intro W hW; clear hW; go_simp; try (with_reducible rfl)
  simp only [Act.put, List.getElem_toArray, List.getElem_cons_succ, List.getElem_cons_zero, List.setIfInBounds_toArray, List.set_cons_zero, List.set_cons_succ]
  refine wpAnyE_take (i := 4) (v := .slice od s.dirty.length cd) (listed' := #[true, true, true, true, true, false, false, false, false, false, false]) (by rfl) (by kernel_rfl) (by kernel_rfl) calm_put hS (by rfl) ?_ ?_
  · intro W hW; obtain ⟨c4, c9⟩ := hW; go_simp; try (with_reducible rfl)
  simp only [Act.put, List.getElem_toArray, List.getElem_cons_succ, List.getElem_cons_zero, List.setIfInBounds_toArray, List.set_cons_zero, List.set_cons_succ]
  refine wpAnyE_take (i := 5) (v := .pointer (some ⟨rb, 9, none⟩)) (listed' := #[true, true, true, true, true, true, false, false, false, false, false]) (by rfl) (by kernel_rfl) (by kernel_rfl) calm_put hS (by rfl) ?_ ?_
  · intro W hW; clear hW; go_simp; try (with_reducible rfl)
  simp only [Act.put, List.getElem_toArray, List.getElem_cons_succ, List.getElem_cons_zero, List.setIfInBounds_toArray, List.set_cons_zero, List.set_cons_succ]
  refine wpAnyE_take (i := 6) (v := vi) (listed' := #[true, true, true, true, true, true, true, false, false, false, false]) (by rfl) (by kernel_rfl) (by kernel_rfl) calm_put hS (by rfl) ?_ ?_
  · intro W hW; obtain ⟨c4, c9⟩ := hW; go_simp; try (with_reducible rfl)
  simp only [Act.put, List.getElem_toArray, List.getElem_cons_succ, List.getElem_cons_zero, List.setIfInBounds_toArray, List.set_cons_zero, List.set_cons_succ]
  refine wpAnyE_one (i := 7) (listed' := #[true, true, true, true, true, true, true, true, false, false, false]) (by rfl) (by kernel_rfl) (by kernel_rfl) (by rfl) (fun K hK => ?_)
  simp only [Act.put, List.getElem_toArray, List.getElem_cons_succ, List.getElem_cons_zero, List.setIfInBounds_toArray, List.set_cons_zero, List.set_cons_succ]
  refine wp_own_push _ _ rfl oneV_len tyE_i rfl (HO.out.d.kept HDR.out) HH4.out l vi rfl (HM.out.kept HDR.out) (ones_i l) (by simp only [maxLen]; omega) (by omega) ?_
  intro v2 w2 lo2 hi2 ho2 hh2 hw2 hb2
  have hS : (fun (W : World) => W.cell? ⟨X, 4, none⟩ = some (.slice od s.dirty.length cd) ∧ W.cell? ⟨rb, 9, none⟩ = some vi) w2 := ⟨hb2.cell (by show ¬ (b3 ≤ X ∧ X < b4); omega) hS.1, hb2.cell (by show ¬ (b3 ≤ rb ∧ rb < b4); omega) hS.2⟩
  have HX2 := Lib.hid (hb2.blk (k := X) (by show ¬ (b3 ≤ X ∧ X < b4); omega) HXD.out)
  have HO2 := Lib.hid ho2; have HB2 := Lib.hid hb2
  have hfm := ho2.form
  rw [List.length_append] at hfm
  obtain ⟨od2, cd2, rfl⟩ := hfm
  refine hK _ _ (fun _ => hS) ?_; clear hK K ho2 hb2
  refine wpAnyE_one (i := 8) (listed' := #[true, true, true, true, true, true, true, true, true, false, false]) (by rfl) (by kernel_rfl) (by kernel_rfl) (by rfl) (fun K hK => ?_)
  simp only [Act.put, List.getElem_toArray, List.getElem_cons_succ, List.getElem_cons_zero, List.setIfInBounds_toArray, List.set_cons_zero, List.set_cons_succ]
  go_wp2
  refine hK _ _ (fun _ => hS) ?_; clear hK K
  refine wpAnyE_take (i := 9) (v := .pointer (some ⟨X, 4, none⟩)) (listed' := #[true, true, true, true, true, true, true, true, true, true, false]) (by rfl) (by kernel_rfl) (by kernel_rfl) calm_put hS (by rfl) ?_ ?_
  · intro W hW; clear hW; go_simp; try (with_reducible rfl)
  simp only [Act.put, List.getElem_toArray, List.getElem_cons_succ, List.getElem_cons_zero, List.setIfInBounds_toArray, List.set_cons_zero, List.set_cons_succ]
  refine wpAnyE_one (i := 10) (listed' := #[true, true, true, true, true, true, true, true, true, true, true]) (by rfl) (by kernel_rfl) (by kernel_rfl) (by rfl) (fun K hK => ?_)
  simp only [Act.put, List.getElem_toArray, List.getElem_cons_succ, List.getElem_cons_zero, List.setIfInBounds_toArray, List.set_cons_zero, List.set_cons_succ]
  refine wp_set_cell _ _ rfl size_intsT X 4 rfl (.slice od2 _ cd2) rfl rfl rfl _ _ HX2.out (by rw [HL.out]; decide) ?_
  intro w3 hw3
  refine hK _ _ (fun h => absurd rfl h) ?_; clear hK K
  refine wpAnyE_done (by kernel_rfl) ?_ _
  refine calm_normal ?_
  rw [stC_set4 s s sm sg sp _ _ rfl rfl] at hw3
  have hb3 : But (fun k => k = X) w2 w3 := But.wrote hw3 rfl
  have hlo : base ≤ lo2 := by have := HDR.out.size; rcases hw2 with h | h <;> omega
  have HW2 := Lib.hid hw2
  have HO3 := Lib.hid (HO2.out.but hb3 (fun k hk => .inl (by omega)))
  have HX3 := Lib.hid hw3.blk
  have HB3 := Lib.hid hb3
  have x4 : w3.cell? ⟨X, 4, none⟩ = some (.slice od2 (s.dirty.length + l.length) cd2) := (stv_cells (Cells.of_block HX3.out)).2.2.2.2
  have hla : (s.dirty ++ l).length ≤ 10000 := by rw [List.length_append]; omega
  have hso := sort_i (s.dirty ++ l) _ lo2 hi2 w3 hla HO3.out
  have HSO := Lib.hid hso
  have HLA := Lib.hid hla
  clear hw3 hb3 hso hS hla hw2
  go_wp2_with fail
  refine Calls.mono HSO.out ?_
  rintro e w4 ⟨rfl, ho4, hb4'⟩
  have HB4 := Lib.hid hb4'
  have HX4 := Lib.hid (hb4'.blk (k := X) (by show ¬ (lo2 ≤ X ∧ X < hi2); omega) HX3.out)
  have x4 : w4.cell? ⟨X, 4, none⟩ = some (.slice od2 (s.dirty.length + l.length) cd2) := (stv_cells (Cells.of_block HX4.out)).2.2.2.2
  have hco := compact_i (sortL (s.dirty ++ l)) _ lo2 hi2 w4 (by unfold sortL; rw [List.length_mergeSort]; exact HLA.out) ho4
  have HCO := Lib.hid hco
  clear ho4 hb4' hco HSO
  go_wp2_with fail
  refine Calls.mono HCO.out ?_
  rintro e w5 ⟨v5, rfl, ho5, hb5⟩
  obtain ⟨od5, cd5, rfl⟩ := ho5.form
  have HO5 := Lib.hid ho5
  have HB5 := Lib.hid hb5
  have HX5 := Lib.hid (hb5.blk (k := X) (by show ¬ (lo2 ≤ X ∧ X < hi2); omega) HX4.out)
  have HL5 := Lib.hid (show (stC s sm sg sp (.slice od2 (s.dirty.length + l.length) cd2)).length = 136 from stv_len (plv_len HO.out.plug))
  clear ho5 hb5 HCO
  go_wp2_with (refine stop_at (o := ⟨none, .store _ _ _, _, _, _, _⟩) ?_)
  refine Stop.mk ?_
  refine wpList_set_cell rfl _ _ rfl size_intsT X 4 rfl (.slice od5 _ cd5) rfl rfl rfl _ _ HX5.out (by rw [HL5.out]; decide) ?_
  intro w6 hw6
  rw [stC_set4 s (dirtyS s (joinL s.dirty l)) sm sg sp _ _ rfl rfl] at hw6
  have hb6 : But (fun k => k = X) w5 w6 := But.wrote hw6 rfl
  have HW6 := Lib.hid hw6.blk
  have hw2 := HW2.out
  have hsz := HDR.out.size
  have HALL : Hid (But (fun k => k = X ∨ (base ≤ k ∧ k < b4)) w w6) := Lib.hid (((((But.kept (S := fun k => k = X ∨ (base ≤ k ∧ k < b4)) HDR.out).trans (HB2.out.mono fun k hk => by omega)).trans (HB3.out.mono fun k hk => .inl hk)).trans' (S' := fun k => lo2 ≤ k ∧ k < hi2) (HB4.out.trans HB5.out) (fun k hk => by rcases hw2 with h | h <;> omega)).trans (hb6.mono fun k hk => .inl hk))
  have h := HO.out
  have hdl : (joinL s.dirty l).length ≤ 4096 := Nat.le_trans (joinL_len _ _) hlen
  have HREST : Hid (∀ (α : Type) (E : TypeId) (enc : α → List Value) (n lo hi : Nat) (v : Value) (q : List α) W', hi ≤ b3 → base ≤ lo → But (fun k => b0 ≤ k ∧ k < base) w6 W' → Own E enc n w lo hi v q → Own E enc n W' lo hi v q) := Lib.hid (fun α E enc n lo hi v q W' h3 hl hb ho => by
    have a1 := ho.kept HDR.out
    have a2 := a1.but HB2.out (fun k hk => .inr (by omega))
    have a3 := a2.but HB3.out (fun k hk => .inl (by omega))
    have a4 : Own E enc n w5 lo hi v q := a3.but (HB4.out.trans HB5.out) (fun k hk => .inr (by rcases hw2 with h | h <;> omega))
    have a5 := a4.but hb6 (fun k hk => .inl (by omega))
    exact a5.but hb (fun k hk => .inl (by omega)))
  have HST : Hid (∀ W', But (fun k => b0 ≤ k ∧ k < base) w6 W' → StM W' (dirtyS s (joinL s.dirty l)) sm sg sp (.slice od5 (joinL s.dirty l).length cd5) raw) := Lib.hid fun W' hbW =>
    { ms := (HREST.out _ _ _ _ _ _ _ _ W' (by omega) (by omega) hbW h.m).rsl trip_len
      gs := (HREST.out _ _ _ _ _ _ _ _ W' (by omega) (by omega) hbW h.g).rsl grw_len
      rel := h.ext W' ((HALL.out.mono fun k hk => by omega).trans (hbW.mono fun k hk => by omega))
      mp := (HREST.out _ _ _ _ _ _ _ _ W' (by omega) (by omega) hbW h.p).rsl trip_len
      dirty := ((HO5.out.but hb6 (fun k hk => .inl (by omega))).but hbW (fun k hk => .inl (by omega))).rsl oneV_len
      plug := h.plug
      lms := h.lms
      lgs := h.lgs
      lmp := h.lmp
      ldi := hdl }
  clear hw6 hb6 h hw2
  go_wp2
  go_ret
  exact ⟨rfl, fun _ => ⟨_, _, _, _, _, HW6.out, HST.out⟩, HALL.out⟩
end Go.Proofs.YtiijfocdjcjlaaaGreat
