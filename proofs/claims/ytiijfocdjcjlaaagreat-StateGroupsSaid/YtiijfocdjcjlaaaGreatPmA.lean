/- PmA: several texts in one: Spr Rcd. -/
import Derived.Test.YtiijfocdjcjlaaaGreatPlA
/- state.spare at the records that the laws make (gen_spare.py). -/
namespace Go.Proofs.YtiijfocdjcjlaaaGreat
open Go.RowKit Go.ChangeMaps Go.MapKept
set_option linter.unusedVariables false
set_option linter.unusedSimpArgs false
set_option maxRecDepth 100000
set_option maxHeartbeats 1000000
/-- a record's cells: kind, changes, group, number, index, extent, numbers, plug, members -/
def rcv (kind : Int) (vc : Value) (gid gk : Int) (ve : Value) (id idx xd xa : Int) (vi : Value) (P : Plg) (vm : Value) : List Value :=
  .int .i64 kind :: vc :: .int .i64 gid :: .int .i64 gk :: ve :: .int .i64 id :: .int .i64 idx :: .int .i64 xd :: .int .i64 xa :: vi :: (plv P ++ [vm])
def nilS : Value := .slice none 0 0
def rcZ (kind : Int) : List Value := rcv kind nilS 0 0 nilS 0 0 0 0 nilS zeroPlg nilS
def rcDrop (id : Int) : List Value := rcv 3 nilS 0 0 nilS id 0 0 0 nilS zeroPlg nilS
def rcMake (x : Gw) : List Value := rcv 2 nilS x.1 x.2.1 x.2.2 0 0 0 0 nilS zeroPlg nilS
def rcDirty (vi : Value) : List Value := rcv 5 nilS 0 0 nilS 0 0 0 0 vi zeroPlg nilS
def rcClean (vi : Value) : List Value := rcv 6 nilS 0 0 nilS 0 0 0 0 vi zeroPlg nilS
def rcMembers (vm : Value) : List Value := rcv 9 nilS 0 0 nilS 0 0 0 0 nilS zeroPlg vm
theorem rcv_len (kind : Int) (vc : Value) (gid gk : Int) (ve : Value) (id idx xd xa : Int) (vi : Value) (vm : Value) : (rcv kind vc gid gk ve id idx xd xa vi zeroPlg vm).length = 142 := rfl
theorem agT_rec : AggT Tryz.prog 47 142 := ⟨⟨_, Tryz.underlying47, rfl⟩, by kernel_rfl⟩
theorem agT_grp : AggT Tryz.prog 37 3 := ⟨⟨_, Tryz.underlying37, rfl⟩, by kernel_rfl⟩
theorem size_intsT : (Tryz.prog.info? 25).map (·.size) = some 1 := by kernel_rfl
theorem size_mbsT : (Tryz.prog.info? 22).map (·.size) = some 1 := by kernel_rfl
theorem rcZ_plug {W : World} {b : Nat} {k : Int} (h : Cells W b 0 (rcZ k)) : Cells W b 10 (plv zeroPlg) := fun j hj => by
  have hj2 : j < 131 := by rw [plv_len zeroPlg_ok] at hj; exact hj
  have := h (j + 10) (by show j + 10 < 142; omega)
  rw [Nat.zero_add] at this
  rw [Nat.add_comm 10 j, this]
  have e : rcZ k = [.int .i64 k, nilS, .int .i64 0, .int .i64 0, nilS, .int .i64 0, .int .i64 0, .int .i64 0, .int .i64 0, nilS] ++ (plv zeroPlg ++ [nilS]) := rfl
  congr 1
  simp only [e]
  rw [List.getElem_append_right (by simp)]
  rw [List.getElem_append_left (by simp; omega)]
  congr 1
theorem eq_zero_plg : (zeroPlg.is == zeroPlg.is && (zeroPlg.group == zeroPlg.group && (zeroPlg.slot == zeroPlg.slot && (zeroPlg.data == zeroPlg.data && zeroPlg.par == zeroPlg.par)))) = true := by decide
theorem spare_drop (id : Int) (w : World) : Calls Tryz.prog 81 #[.agg (rcDrop id).toArray] w fun e w' => e = .returned (.bool true) ∧ Kept w w' := by
  go_enter Tryz.func81, Tryz.ntmps81
  go_wp2_with (refine stop_at (o := ⟨some 1, _, _, _, _, _⟩) ?_)
  refine Stop.mk ?_
  refine wpList_box_rowS rfl _ _ rfl (rcDrop id) rfl ?_
  intro w1 hz1 hs1 hk1
  obtain ⟨X, hX⟩ : ∃ X, X = w.heap.size := ⟨_, rfl⟩
  rw [← hX] at hz1 ⊢
  have c0 : w1.cell? ⟨X, 0, none⟩ = some (.int .i64 3) := (Cells.of_block hz1.out) 0 (by show 0 < 142; decide)
  have HZ := hz1
  have HK1 := Lib.hid hk1
  have HX := Lib.hid hX
  clear hz1 hk1 hs1 hX
  go_wp2_with (refine stop_at (o := ⟨none, .store _ _ _, _, _, _, _⟩) ?_)
  refine Stop.mk ?_
  refine wpList_set_cell rfl _ _ rfl size_int X 5 rfl (.int .i64 0) rfl rfl rfl (rcDrop id) 47 HZ.out (by show 5 < 142; decide) ?_
  intro w2 hw2
  have HS : Hid (Cells w2 X 0 (rcZ 3)) := Lib.hid hw2.cells
  have HK2 := Lib.hid (hw2.kept HK1.out (by rw [HX.out]; exact Nat.le_refl _))
  clear hw2 HZ HK1 c0
  have c1 : w2.cell? ⟨X, 1, none⟩ = some (.slice none 0 0) := HS.out 1 (by show 1 < 142; decide)
  have c2 : w2.cell? ⟨X, 2, none⟩ = some (.int .i64 0) := HS.out 2 (by show 2 < 142; decide)
  have c3 : w2.cell? ⟨X, 3, none⟩ = some (.int .i64 0) := HS.out 3 (by show 3 < 142; decide)
  have c4 : w2.cell? ⟨X, 4, none⟩ = some (.slice none 0 0) := HS.out 4 (by show 4 < 142; decide)
  have c5 : w2.cell? ⟨X, 5, none⟩ = some (.int .i64 0) := HS.out 5 (by show 5 < 142; decide)
  have c6 : w2.cell? ⟨X, 6, none⟩ = some (.int .i64 0) := HS.out 6 (by show 6 < 142; decide)
  have c7 : w2.cell? ⟨X, 7, none⟩ = some (.int .i64 0) := HS.out 7 (by show 7 < 142; decide)
  have c8 : w2.cell? ⟨X, 8, none⟩ = some (.int .i64 0) := HS.out 8 (by show 8 < 142; decide)
  have c9 : w2.cell? ⟨X, 9, none⟩ = some (.slice none 0 0) := HS.out 9 (by show 9 < 142; decide)
  have c141 : w2.cell? ⟨X, 141, none⟩ = some (.slice none 0 0) := HS.out 141 (by show 141 < 142; decide)
  have HPL := Lib.hid (rcZ_plug HS.out)
  have HPN := Lib.hid (plv_len zeroPlg_ok)
  have HEZ := Lib.hid eq_zero_plg
  clear HS
  go_wp2_with (refine stop_at (o := ⟨some 69, .load _ _, _, _, _, _⟩) ?_)
  refine Stop.mk ?_
  refine wpList_load_aggW _ rfl ty_plg X 10 rfl _ HPL.out HPN.out rfl ?_
  refine wpList_zero_plg rfl rfl ?_
  refine wpList_eq_plg rfl _ _ rfl zeroPlg zeroPlg zeroPlg_ok zeroPlg_ok rfl rfl ?_
  rw [HEZ.out]
  go_wp2
  go_ret
  exact ⟨rfl, HK2.out⟩
theorem spare_make (x : Gw) (w : World) : Calls Tryz.prog 81 #[.agg (rcMake x).toArray] w fun e w' => e = .returned (.bool true) ∧ Kept w w' := by
  go_enter Tryz.func81, Tryz.ntmps81
  go_wp2_with (refine stop_at (o := ⟨some 1, _, _, _, _, _⟩) ?_)
  refine Stop.mk ?_
  refine wpList_box_rowS rfl _ _ rfl (rcMake x) rfl ?_
  intro w1 hz1 hs1 hk1
  obtain ⟨X, hX⟩ : ∃ X, X = w.heap.size := ⟨_, rfl⟩
  rw [← hX] at hz1 ⊢
  have c0 : w1.cell? ⟨X, 0, none⟩ = some (.int .i64 2) := (Cells.of_block hz1.out) 0 (by show 0 < 142; decide)
  have HZ := hz1
  have HK1 := Lib.hid hk1
  have HX := Lib.hid hX
  clear hz1 hk1 hs1 hX
  go_wp2_with (refine stop_at (o := ⟨none, .store _ _ _, _, _, _, _⟩) ?_)
  refine Stop.mk ?_
  refine wpList_store_agg rfl _ _ rfl agT_grp X 2 rfl [.int .i64 0, .int .i64 0, nilS] rfl rfl (by intro v hv; simp only [List.mem_cons, List.not_mem_nil, or_false] at hv; rcases hv with rfl | rfl | rfl <;> rfl) (rcMake x) 47 HZ.out (by show 2 + 3 ≤ 142; decide) ?_
  intro w2 hw2
  have HS : Hid (Cells w2 X 0 (rcZ 2)) := Lib.hid hw2.cells
  have HK2 := Lib.hid (hw2.kept HK1.out (by rw [HX.out]; exact Nat.le_refl _))
  clear hw2 HZ HK1 c0
  have c1 : w2.cell? ⟨X, 1, none⟩ = some (.slice none 0 0) := HS.out 1 (by show 1 < 142; decide)
  have c2 : w2.cell? ⟨X, 2, none⟩ = some (.int .i64 0) := HS.out 2 (by show 2 < 142; decide)
  have c3 : w2.cell? ⟨X, 3, none⟩ = some (.int .i64 0) := HS.out 3 (by show 3 < 142; decide)
  have c4 : w2.cell? ⟨X, 4, none⟩ = some (.slice none 0 0) := HS.out 4 (by show 4 < 142; decide)
  have c5 : w2.cell? ⟨X, 5, none⟩ = some (.int .i64 0) := HS.out 5 (by show 5 < 142; decide)
  have c6 : w2.cell? ⟨X, 6, none⟩ = some (.int .i64 0) := HS.out 6 (by show 6 < 142; decide)
  have c7 : w2.cell? ⟨X, 7, none⟩ = some (.int .i64 0) := HS.out 7 (by show 7 < 142; decide)
  have c8 : w2.cell? ⟨X, 8, none⟩ = some (.int .i64 0) := HS.out 8 (by show 8 < 142; decide)
  have c9 : w2.cell? ⟨X, 9, none⟩ = some (.slice none 0 0) := HS.out 9 (by show 9 < 142; decide)
  have c141 : w2.cell? ⟨X, 141, none⟩ = some (.slice none 0 0) := HS.out 141 (by show 141 < 142; decide)
  have HPL := Lib.hid (rcZ_plug HS.out)
  have HPN := Lib.hid (plv_len zeroPlg_ok)
  have HEZ := Lib.hid eq_zero_plg
  clear HS
  go_wp2_with (refine stop_at (o := ⟨some 69, .load _ _, _, _, _, _⟩) ?_)
  refine Stop.mk ?_
  refine wpList_load_aggW _ rfl ty_plg X 10 rfl _ HPL.out HPN.out rfl ?_
  refine wpList_zero_plg rfl rfl ?_
  refine wpList_eq_plg rfl _ _ rfl zeroPlg zeroPlg zeroPlg_ok zeroPlg_ok rfl rfl ?_
  rw [HEZ.out]
  go_wp2
  go_ret
  exact ⟨rfl, HK2.out⟩
theorem spare_dirty (vi : Value) (w : World) : Calls Tryz.prog 81 #[.agg (rcDirty vi).toArray] w fun e w' => e = .returned (.bool true) ∧ Kept w w' := by
  go_enter Tryz.func81, Tryz.ntmps81
  go_wp2_with (refine stop_at (o := ⟨some 1, _, _, _, _, _⟩) ?_)
  refine Stop.mk ?_
  refine wpList_box_rowS rfl _ _ rfl (rcDirty vi) rfl ?_
  intro w1 hz1 hs1 hk1
  obtain ⟨X, hX⟩ : ∃ X, X = w.heap.size := ⟨_, rfl⟩
  rw [← hX] at hz1 ⊢
  have c0 : w1.cell? ⟨X, 0, none⟩ = some (.int .i64 5) := (Cells.of_block hz1.out) 0 (by show 0 < 142; decide)
  have HZ := hz1
  have HK1 := Lib.hid hk1
  have HX := Lib.hid hX
  clear hz1 hk1 hs1 hX
  go_wp2_with (refine stop_at (o := ⟨none, .store _ _ _, _, _, _, _⟩) ?_)
  refine Stop.mk ?_
  refine wpList_set_cell rfl _ _ rfl size_intsT X 9 rfl nilS rfl rfl rfl (rcDirty vi) 47 HZ.out (by show 9 < 142; decide) ?_
  intro w2 hw2
  have HS : Hid (Cells w2 X 0 (rcZ 5)) := Lib.hid hw2.cells
  have HK2 := Lib.hid (hw2.kept HK1.out (by rw [HX.out]; exact Nat.le_refl _))
  clear hw2 HZ HK1 c0
  have c1 : w2.cell? ⟨X, 1, none⟩ = some (.slice none 0 0) := HS.out 1 (by show 1 < 142; decide)
  have c2 : w2.cell? ⟨X, 2, none⟩ = some (.int .i64 0) := HS.out 2 (by show 2 < 142; decide)
  have c3 : w2.cell? ⟨X, 3, none⟩ = some (.int .i64 0) := HS.out 3 (by show 3 < 142; decide)
  have c4 : w2.cell? ⟨X, 4, none⟩ = some (.slice none 0 0) := HS.out 4 (by show 4 < 142; decide)
  have c5 : w2.cell? ⟨X, 5, none⟩ = some (.int .i64 0) := HS.out 5 (by show 5 < 142; decide)
  have c6 : w2.cell? ⟨X, 6, none⟩ = some (.int .i64 0) := HS.out 6 (by show 6 < 142; decide)
  have c7 : w2.cell? ⟨X, 7, none⟩ = some (.int .i64 0) := HS.out 7 (by show 7 < 142; decide)
  have c8 : w2.cell? ⟨X, 8, none⟩ = some (.int .i64 0) := HS.out 8 (by show 8 < 142; decide)
  have c9 : w2.cell? ⟨X, 9, none⟩ = some (.slice none 0 0) := HS.out 9 (by show 9 < 142; decide)
  have c141 : w2.cell? ⟨X, 141, none⟩ = some (.slice none 0 0) := HS.out 141 (by show 141 < 142; decide)
  have HPL := Lib.hid (rcZ_plug HS.out)
  have HPN := Lib.hid (plv_len zeroPlg_ok)
  have HEZ := Lib.hid eq_zero_plg
  clear HS
  go_wp2_with (refine stop_at (o := ⟨some 69, .load _ _, _, _, _, _⟩) ?_)
  refine Stop.mk ?_
  refine wpList_load_aggW _ rfl ty_plg X 10 rfl _ HPL.out HPN.out rfl ?_
  refine wpList_zero_plg rfl rfl ?_
  refine wpList_eq_plg rfl _ _ rfl zeroPlg zeroPlg zeroPlg_ok zeroPlg_ok rfl rfl ?_
  rw [HEZ.out]
  go_wp2
  go_ret
  exact ⟨rfl, HK2.out⟩
theorem spare_clean (vi : Value) (w : World) : Calls Tryz.prog 81 #[.agg (rcClean vi).toArray] w fun e w' => e = .returned (.bool true) ∧ Kept w w' := by
  go_enter Tryz.func81, Tryz.ntmps81
  go_wp2_with (refine stop_at (o := ⟨some 1, _, _, _, _, _⟩) ?_)
  refine Stop.mk ?_
  refine wpList_box_rowS rfl _ _ rfl (rcClean vi) rfl ?_
  intro w1 hz1 hs1 hk1
  obtain ⟨X, hX⟩ : ∃ X, X = w.heap.size := ⟨_, rfl⟩
  rw [← hX] at hz1 ⊢
  have c0 : w1.cell? ⟨X, 0, none⟩ = some (.int .i64 6) := (Cells.of_block hz1.out) 0 (by show 0 < 142; decide)
  have HZ := hz1
  have HK1 := Lib.hid hk1
  have HX := Lib.hid hX
  clear hz1 hk1 hs1 hX
  go_wp2_with (refine stop_at (o := ⟨none, .store _ _ _, _, _, _, _⟩) ?_)
  refine Stop.mk ?_
  refine wpList_set_cell rfl _ _ rfl size_intsT X 9 rfl nilS rfl rfl rfl (rcClean vi) 47 HZ.out (by show 9 < 142; decide) ?_
  intro w2 hw2
  have HS : Hid (Cells w2 X 0 (rcZ 6)) := Lib.hid hw2.cells
  have HK2 := Lib.hid (hw2.kept HK1.out (by rw [HX.out]; exact Nat.le_refl _))
  clear hw2 HZ HK1 c0
  have c1 : w2.cell? ⟨X, 1, none⟩ = some (.slice none 0 0) := HS.out 1 (by show 1 < 142; decide)
  have c2 : w2.cell? ⟨X, 2, none⟩ = some (.int .i64 0) := HS.out 2 (by show 2 < 142; decide)
  have c3 : w2.cell? ⟨X, 3, none⟩ = some (.int .i64 0) := HS.out 3 (by show 3 < 142; decide)
  have c4 : w2.cell? ⟨X, 4, none⟩ = some (.slice none 0 0) := HS.out 4 (by show 4 < 142; decide)
  have c5 : w2.cell? ⟨X, 5, none⟩ = some (.int .i64 0) := HS.out 5 (by show 5 < 142; decide)
  have c6 : w2.cell? ⟨X, 6, none⟩ = some (.int .i64 0) := HS.out 6 (by show 6 < 142; decide)
  have c7 : w2.cell? ⟨X, 7, none⟩ = some (.int .i64 0) := HS.out 7 (by show 7 < 142; decide)
  have c8 : w2.cell? ⟨X, 8, none⟩ = some (.int .i64 0) := HS.out 8 (by show 8 < 142; decide)
  have c9 : w2.cell? ⟨X, 9, none⟩ = some (.slice none 0 0) := HS.out 9 (by show 9 < 142; decide)
  have c141 : w2.cell? ⟨X, 141, none⟩ = some (.slice none 0 0) := HS.out 141 (by show 141 < 142; decide)
  have HPL := Lib.hid (rcZ_plug HS.out)
  have HPN := Lib.hid (plv_len zeroPlg_ok)
  have HEZ := Lib.hid eq_zero_plg
  clear HS
  go_wp2_with (refine stop_at (o := ⟨some 69, .load _ _, _, _, _, _⟩) ?_)
  refine Stop.mk ?_
  refine wpList_load_aggW _ rfl ty_plg X 10 rfl _ HPL.out HPN.out rfl ?_
  refine wpList_zero_plg rfl rfl ?_
  refine wpList_eq_plg rfl _ _ rfl zeroPlg zeroPlg zeroPlg_ok zeroPlg_ok rfl rfl ?_
  rw [HEZ.out]
  go_wp2
  go_ret
  exact ⟨rfl, HK2.out⟩
theorem spare_members (vm : Value) (w : World) : Calls Tryz.prog 81 #[.agg (rcMembers vm).toArray] w fun e w' => e = .returned (.bool true) ∧ Kept w w' := by
  go_enter Tryz.func81, Tryz.ntmps81
  go_wp2_with (refine stop_at (o := ⟨some 1, _, _, _, _, _⟩) ?_)
  refine Stop.mk ?_
  refine wpList_box_rowS rfl _ _ rfl (rcMembers vm) rfl ?_
  intro w1 hz1 hs1 hk1
  obtain ⟨X, hX⟩ : ∃ X, X = w.heap.size := ⟨_, rfl⟩
  rw [← hX] at hz1 ⊢
  have c0 : w1.cell? ⟨X, 0, none⟩ = some (.int .i64 9) := (Cells.of_block hz1.out) 0 (by show 0 < 142; decide)
  have HZ := hz1
  have HK1 := Lib.hid hk1
  have HX := Lib.hid hX
  clear hz1 hk1 hs1 hX
  go_wp2_with (refine stop_at (o := ⟨none, .store _ _ _, _, _, _, _⟩) ?_)
  refine Stop.mk ?_
  refine wpList_set_cell rfl _ _ rfl size_mbsT X 141 rfl nilS rfl rfl rfl (rcMembers vm) 47 HZ.out (by show 141 < 142; decide) ?_
  intro w2 hw2
  have HS : Hid (Cells w2 X 0 (rcZ 9)) := Lib.hid hw2.cells
  have HK2 := Lib.hid (hw2.kept HK1.out (by rw [HX.out]; exact Nat.le_refl _))
  clear hw2 HZ HK1 c0
  have c1 : w2.cell? ⟨X, 1, none⟩ = some (.slice none 0 0) := HS.out 1 (by show 1 < 142; decide)
  have c2 : w2.cell? ⟨X, 2, none⟩ = some (.int .i64 0) := HS.out 2 (by show 2 < 142; decide)
  have c3 : w2.cell? ⟨X, 3, none⟩ = some (.int .i64 0) := HS.out 3 (by show 3 < 142; decide)
  have c4 : w2.cell? ⟨X, 4, none⟩ = some (.slice none 0 0) := HS.out 4 (by show 4 < 142; decide)
  have c5 : w2.cell? ⟨X, 5, none⟩ = some (.int .i64 0) := HS.out 5 (by show 5 < 142; decide)
  have c6 : w2.cell? ⟨X, 6, none⟩ = some (.int .i64 0) := HS.out 6 (by show 6 < 142; decide)
  have c7 : w2.cell? ⟨X, 7, none⟩ = some (.int .i64 0) := HS.out 7 (by show 7 < 142; decide)
  have c8 : w2.cell? ⟨X, 8, none⟩ = some (.int .i64 0) := HS.out 8 (by show 8 < 142; decide)
  have c9 : w2.cell? ⟨X, 9, none⟩ = some (.slice none 0 0) := HS.out 9 (by show 9 < 142; decide)
  have c141 : w2.cell? ⟨X, 141, none⟩ = some (.slice none 0 0) := HS.out 141 (by show 141 < 142; decide)
  have HPL := Lib.hid (rcZ_plug HS.out)
  have HPN := Lib.hid (plv_len zeroPlg_ok)
  have HEZ := Lib.hid eq_zero_plg
  clear HS
  go_wp2_with (refine stop_at (o := ⟨some 69, .load _ _, _, _, _, _⟩) ?_)
  refine Stop.mk ?_
  refine wpList_load_aggW _ rfl ty_plg X 10 rfl _ HPL.out HPN.out rfl ?_
  refine wpList_zero_plg rfl rfl ?_
  refine wpList_eq_plg rfl _ _ rfl zeroPlg zeroPlg zeroPlg_ok zeroPlg_ok rfl rfl ?_
  rw [HEZ.out]
  go_wp2
  go_ret
  exact ⟨rfl, HK2.out⟩
end Go.Proofs.YtiijfocdjcjlaaaGreat
/- state.Record at the records that the laws make (gen_rcd.py). -/
namespace Go.Proofs.YtiijfocdjcjlaaaGreat
open Go.RowKit Go.ChangeMaps Go.MapKept
set_option linter.unusedVariables false
set_option linter.unusedSimpArgs false
set_option maxRecDepth 100000
set_option maxHeartbeats 1000000
theorem WrL.cells {W : World} {B n : Nat} {b : Bool} (h : WrL W B n b) : ∃ ax m cc, W.cell? ⟨B, 0, none⟩ = some (.slice ax m cc) ∧ W.cell? ⟨B, 1, none⟩ = some (.bool b) ∧ (b = false → m = n) := by
  obtain ⟨m, ⟨sv, bs, T, hb, hs, hn⟩, h2, h3⟩ := h
  obtain ⟨ax, cc, rfl⟩ := src_form (hs W (But.refl _ _))
  exact ⟨ax, bs.length, cc, (Cells.of_block hb) 0 (by simp), (Cells.of_block hb) 1 (by simp), fun h => hn.trans (h3 h)⟩
theorem WrL.fresh {W : World} {B : Nat} {T : TypeId} (h : W.heap[B]? = some (.cells #[.slice none 0 0, .bool false] T (0, 0))) : WrL W B 0 false :=
  ⟨0, ⟨.slice none 0 0, [], T, h, fun _ _ => Src.nil, rfl⟩, Nat.le_refl _, fun _ => rfl⟩
/-- OK, or ErrArg -/
def argE (b : Bool) : Int := if b then 0 else 1
def okMany (most : Int) (n : Nat) : Bool := !(decide (most < (n : Int)) || !mayPut n 1)
theorem record_drop (id : Int) (w : World) : Calls Tryz.prog 35 #[.agg (rcDrop id).toArray] w fun e w' => (∃ sv, e = .returned (.tuple #[sv, .int .i64 (argE (mayPut id 1))])) ∧ Kept w w' := by
  go_enter Tryz.func35, Tryz.ntmps35
  go_wp2_with (refine stop_at (o := ⟨some 1, _, _, _, _, _⟩) ?_)
  refine Stop.mk ?_
  refine wpList_box_rowS rfl _ _ rfl (rcDrop id) rfl ?_
  intro w1 hz1 hs1 hk1
  obtain ⟨X, hX⟩ : ∃ X, X = w.heap.size := ⟨_, rfl⟩
  rw [← hX] at hz1 ⊢
  have c0 : w1.cell? ⟨X, 0, none⟩ = some (.int .i64 3) := (Cells.of_block hz1.out) 0 (by show 0 < 142; decide)
  have c5 : w1.cell? ⟨X, 5, none⟩ = some (.int .i64 id) := (Cells.of_block hz1.out) 5 (by show 5 < 142; decide)
  have HZ : Hid (Cells w1 X 0 (rcDrop id)) := Lib.hid (Cells.of_block hz1.out)
  have HK1 := Lib.hid hk1
  have HXw := Lib.hid hX
  have HXl : Hid (X < w1.heap.size) := Lib.hid (by omega)
  have HIN := Lib.hid (show inN 3 1 9 = true by decide)
  clear hz1 hk1 hs1 hX
  go_wp2_with (first
    | (refine stop_at (o := ⟨some 12, _, _, _, _, _⟩) ?_)
    | (go_at_call 21; refine (st_in _ _ _ _).mono ?_; rw [HIN.out]; rintro e wi ⟨rfl, rfl⟩))
  refine Stop.mk ?_
  refine wpList_load_aggW _ rfl agT_rec X 0 rfl _ HZ.out (rcv_len _ _ _ _ _ _ _ _ _ _ _) rfl ?_
  go_wp2_with fail
  refine Calls.mono (spare_drop id w1) ?_
  rintro e w2 ⟨rfl, hk2⟩
  replace c0 := hk2.cell' c0; replace c5 := hk2.cell' c5
  have HK2 := Lib.hid (HK1.out.trans hk2)
  have HXl2 : Hid (X < w2.heap.size) := Lib.hid (Nat.lt_of_lt_of_le HXl.out hk2.size)
  clear hk2 HZ HIN
  go_wp2_with (refine stop_at (o := ⟨some 17, _, _, _, _, _⟩) ?_)
  refine Stop.mk ?_
  refine wpList_box_rowS rfl _ _ rfl [.slice none 0 0, .bool false] rfl ?_
  intro w3 hz3 hs3 hk3
  obtain ⟨B, hB⟩ : ∃ B, B = w2.heap.size := ⟨_, rfl⟩
  rw [← hB] at hz3 ⊢
  have H3 := Lib.hid (WrL.fresh hz3.out)
  have HK3 := Lib.hid (HK2.out.trans hk3)
  have HBw : Hid (w.heap.size ≤ B) := Lib.hid (by have := HK2.out.size; omega)
  have HXB : Hid (X ≠ B) := Lib.hid (by have := HXl2.out; omega)
  replace c0 := hk3.cell' c0; replace c5 := hk3.cell' c5
  clear hz3 hs3 hk3 hB HXl HXl2 HK1 HK2
  go_wp2_with fail
  refine Calls.mono (wl_number1 B 0 false 3 w3 H3.out (by omega)) ?_
  rintro e w5 ⟨rfl, h5, o5⟩
  replace c0 := o5.cell (by exact HXB.out) c0; replace c5 := o5.cell (by exact HXB.out) c5
  have H5 : Hid (WrL w5 B 1 false) := Lib.hid (by rw [show (false || !mayPut 3 1) = false by decide] at h5; exact h5)
  have HK5 := Lib.hid (only_kept HK3.out o5 HBw.out)
  clear h5 o5 H3
  go_wp2_with fail
  refine Calls.mono (wl_number1 B 1 _ id w5 H5.out (by omega)) ?_
  rintro e w6 ⟨rfl, h6, o6⟩
  have h6' : WrL w6 B 2 (!(mayPut id 1)) := by simpa using h6
  have HK6 := Lib.hid (only_kept HK5.out o6 HBw.out)
  clear h6 o6 c0 c5
  cases hok : (mayPut id 1) with
  | true =>
    rw [hok] at h6'
    have HOK := Lib.hid hok; clear hok
    obtain ⟨ax, mm, cc, d0, d1, _⟩ := h6'.cells
    clear h6'
    go_wp2
    go_ret2
    exact ⟨⟨_, by rw [HOK.out]; rfl⟩, HK6.out⟩
  | false =>
    rw [hok] at h6'
    have HOK := Lib.hid hok; clear hok
    obtain ⟨ax, mm, cc, d0, d1, _⟩ := h6'.cells
    clear h6'
    go_wp2
    go_ret2
    exact ⟨⟨_, by rw [HOK.out]; rfl⟩, HK6.out⟩
theorem record_make (x : Gw) (g : Grp) (w : World) (hx : GRel w x g) (hfew : g.ext.length ≤ 4096) : Calls Tryz.prog 35 #[.agg (rcMake x).toArray] w fun e w' => (∃ sv, e = .returned (.tuple #[sv, .int .i64 (argE (grW g))])) ∧ Kept w w' := by
  obtain ⟨xid, xk, xe⟩ := x
  obtain ⟨h1, h2, hext, _⟩ := hx
  simp only at h1 h2 hext
  subst h1 h2
  obtain ⟨oe, ce, rfl, _⟩ := hext.form
  have hxx : GRel w (g.id, g.kind, .slice oe g.ext.length ce) g := ⟨rfl, rfl, hext, hfew⟩
  have HX := Lib.hid hxx
  clear hext hxx
  go_enter Tryz.func35, Tryz.ntmps35
  go_wp2_with (refine stop_at (o := ⟨some 1, _, _, _, _, _⟩) ?_)
  refine Stop.mk ?_
  refine wpList_box_rowS rfl _ _ rfl (rcMake (g.id, g.kind, .slice oe g.ext.length ce)) rfl ?_
  intro w1 hz1 hs1 hk1
  obtain ⟨X, hX⟩ : ∃ X, X = w.heap.size := ⟨_, rfl⟩
  rw [← hX] at hz1 ⊢
  have c0 : w1.cell? ⟨X, 0, none⟩ = some (.int .i64 2) := (Cells.of_block hz1.out) 0 (by show 0 < 142; decide)
  have c2 : w1.cell? ⟨X, 2, none⟩ = some (.int .i64 g.id) := (Cells.of_block hz1.out) 2 (by show 2 < 142; decide)
  have c3 : w1.cell? ⟨X, 3, none⟩ = some (.int .i64 g.kind) := (Cells.of_block hz1.out) 3 (by show 3 < 142; decide)
  have c4 : w1.cell? ⟨X, 4, none⟩ = some (.slice oe g.ext.length ce) := (Cells.of_block hz1.out) 4 (by show 4 < 142; decide)
  have HZ : Hid (Cells w1 X 0 (rcMake (g.id, g.kind, .slice oe g.ext.length ce))) := Lib.hid (Cells.of_block hz1.out)
  have HK1 := Lib.hid hk1
  have HXw := Lib.hid hX
  have HXl : Hid (X < w1.heap.size) := Lib.hid (by omega)
  have HIN := Lib.hid (show inN 2 1 9 = true by decide)
  clear hz1 hk1 hs1 hX
  go_wp2_with (first
    | (refine stop_at (o := ⟨some 12, _, _, _, _, _⟩) ?_)
    | (go_at_call 21; refine (st_in _ _ _ _).mono ?_; rw [HIN.out]; rintro e wi ⟨rfl, rfl⟩))
  refine Stop.mk ?_
  refine wpList_load_aggW _ rfl agT_rec X 0 rfl _ HZ.out (rcv_len _ _ _ _ _ _ _ _ _ _ _) rfl ?_
  go_wp2_with fail
  refine Calls.mono (spare_make (g.id, g.kind, .slice oe g.ext.length ce) w1) ?_
  rintro e w2 ⟨rfl, hk2⟩
  replace c0 := hk2.cell' c0; replace c2 := hk2.cell' c2; replace c3 := hk2.cell' c3; replace c4 := hk2.cell' c4
  have HK2 := Lib.hid (HK1.out.trans hk2)
  have HXl2 : Hid (X < w2.heap.size) := Lib.hid (Nat.lt_of_lt_of_le HXl.out hk2.size)
  clear hk2 HZ HIN
  go_wp2_with (refine stop_at (o := ⟨some 17, _, _, _, _, _⟩) ?_)
  refine Stop.mk ?_
  refine wpList_box_rowS rfl _ _ rfl [.slice none 0 0, .bool false] rfl ?_
  intro w3 hz3 hs3 hk3
  obtain ⟨B, hB⟩ : ∃ B, B = w2.heap.size := ⟨_, rfl⟩
  rw [← hB] at hz3 ⊢
  have H3 := Lib.hid (WrL.fresh hz3.out)
  have HK3 := Lib.hid (HK2.out.trans hk3)
  have HBw : Hid (w.heap.size ≤ B) := Lib.hid (by have := HK2.out.size; omega)
  have HXB : Hid (X ≠ B) := Lib.hid (by have := HXl2.out; omega)
  replace c0 := hk3.cell' c0; replace c2 := hk3.cell' c2; replace c3 := hk3.cell' c3; replace c4 := hk3.cell' c4
  clear hz3 hs3 hk3 hB HXl HXl2 HK1 HK2
  go_wp2_with fail
  refine Calls.mono (wl_number1 B 0 false 2 w3 H3.out (by omega)) ?_
  rintro e w5 ⟨rfl, h5, o5⟩
  replace c0 := o5.cell (by exact HXB.out) c0; replace c2 := o5.cell (by exact HXB.out) c2; replace c3 := o5.cell (by exact HXB.out) c3; replace c4 := o5.cell (by exact HXB.out) c4
  have H5 : Hid (WrL w5 B 1 false) := Lib.hid (by rw [show (false || !mayPut 2 1) = false by decide] at h5; exact h5)
  have HK5 := Lib.hid (only_kept HK3.out o5 HBw.out)
  clear h5 o5 H3
  go_wp2_with fail
  refine Calls.mono (wl_group w B 1 _ (g.id, g.kind, .slice oe g.ext.length ce) g w5 H5.out (by omega) HBw.out HK5.out HX.out) ?_
  rintro e w6 ⟨rfl, h6, o6⟩
  have h6' : WrL w6 B (1 + 3 + 3 * g.ext.length) (!(grW g)) := by simpa using h6
  have HK6 := Lib.hid (only_kept HK5.out o6 HBw.out)
  clear h6 o6 c0 c2 c3 c4
  cases hok : (grW g) with
  | true =>
    rw [hok] at h6'
    have HOK := Lib.hid hok; clear hok
    obtain ⟨ax, mm, cc, d0, d1, _⟩ := h6'.cells
    clear h6'
    go_wp2
    go_ret2
    exact ⟨⟨_, by rw [HOK.out]; rfl⟩, HK6.out⟩
  | false =>
    rw [hok] at h6'
    have HOK := Lib.hid hok; clear hok
    obtain ⟨ax, mm, cc, d0, d1, _⟩ := h6'.cells
    clear h6'
    go_wp2
    go_ret2
    exact ⟨⟨_, by rw [HOK.out]; rfl⟩, HK6.out⟩
theorem record_dirty (vi : Value) (l : List Int) (w : World) (hm : RSl oneV 1 w vi l) (hlen : l.length ≤ 4096) : Calls Tryz.prog 35 #[.agg (rcDirty vi).toArray] w fun e w' => (∃ sv, e = .returned (.tuple #[sv, .int .i64 (argE (okMany 24 l.length && l.all (fun x => mayPut x 1)))])) ∧ Kept w w' := by
  obtain ⟨oi, ci, rfl, _⟩ := hm.form
  have HM := Lib.hid hm; clear hm
  go_enter Tryz.func35, Tryz.ntmps35
  go_wp2_with (refine stop_at (o := ⟨some 1, _, _, _, _, _⟩) ?_)
  refine Stop.mk ?_
  refine wpList_box_rowS rfl _ _ rfl (rcDirty (.slice oi l.length ci)) rfl ?_
  intro w1 hz1 hs1 hk1
  obtain ⟨X, hX⟩ : ∃ X, X = w.heap.size := ⟨_, rfl⟩
  rw [← hX] at hz1 ⊢
  have c0 : w1.cell? ⟨X, 0, none⟩ = some (.int .i64 5) := (Cells.of_block hz1.out) 0 (by show 0 < 142; decide)
  have c9 : w1.cell? ⟨X, 9, none⟩ = some (.slice oi l.length ci) := (Cells.of_block hz1.out) 9 (by show 9 < 142; decide)
  have HZ : Hid (Cells w1 X 0 (rcDirty (.slice oi l.length ci))) := Lib.hid (Cells.of_block hz1.out)
  have HK1 := Lib.hid hk1
  have HXw := Lib.hid hX
  have HXl : Hid (X < w1.heap.size) := Lib.hid (by omega)
  have HIN := Lib.hid (show inN 5 1 9 = true by decide)
  clear hz1 hk1 hs1 hX
  go_wp2_with (first
    | (refine stop_at (o := ⟨some 12, _, _, _, _, _⟩) ?_)
    | (go_at_call 21; refine (st_in _ _ _ _).mono ?_; rw [HIN.out]; rintro e wi ⟨rfl, rfl⟩))
  refine Stop.mk ?_
  refine wpList_load_aggW _ rfl agT_rec X 0 rfl _ HZ.out (rcv_len _ _ _ _ _ _ _ _ _ _ _) rfl ?_
  go_wp2_with fail
  refine Calls.mono (spare_dirty (.slice oi l.length ci) w1) ?_
  rintro e w2 ⟨rfl, hk2⟩
  replace c0 := hk2.cell' c0; replace c9 := hk2.cell' c9
  have HK2 := Lib.hid (HK1.out.trans hk2)
  have HXl2 : Hid (X < w2.heap.size) := Lib.hid (Nat.lt_of_lt_of_le HXl.out hk2.size)
  clear hk2 HZ HIN
  go_wp2_with (refine stop_at (o := ⟨some 17, _, _, _, _, _⟩) ?_)
  refine Stop.mk ?_
  refine wpList_box_rowS rfl _ _ rfl [.slice none 0 0, .bool false] rfl ?_
  intro w3 hz3 hs3 hk3
  obtain ⟨B, hB⟩ : ∃ B, B = w2.heap.size := ⟨_, rfl⟩
  rw [← hB] at hz3 ⊢
  have H3 := Lib.hid (WrL.fresh hz3.out)
  have HK3 := Lib.hid (HK2.out.trans hk3)
  have HBw : Hid (w.heap.size ≤ B) := Lib.hid (by have := HK2.out.size; omega)
  have HXB : Hid (X ≠ B) := Lib.hid (by have := HXl2.out; omega)
  replace c0 := hk3.cell' c0; replace c9 := hk3.cell' c9
  clear hz3 hs3 hk3 hB HXl HXl2 HK1 HK2
  go_wp2_with fail
  refine Calls.mono (wl_number1 B 0 false 5 w3 H3.out (by omega)) ?_
  rintro e w5 ⟨rfl, h5, o5⟩
  replace c0 := o5.cell (by exact HXB.out) c0; replace c9 := o5.cell (by exact HXB.out) c9
  have H5 : Hid (WrL w5 B 1 false) := Lib.hid (by rw [show (false || !mayPut 5 1) = false by decide] at h5; exact h5)
  have HK5 := Lib.hid (only_kept HK3.out o5 HBw.out)
  clear h5 o5 H3
  go_wp2_with fail
  refine Calls.mono (wl_count B 1 _ l.length 24 w5 H5.out (by omega)) ?_
  rintro e w5b ⟨rfl, h5b, o5b⟩
  replace c9 := o5b.cell (by exact HXB.out) c9
  have H5b := Lib.hid h5b; have HO5b := Lib.hid o5b
  clear h5b o5b
  go_wp2_with fail
  refine Calls.mono (wl_numbers w B (1 + 1) _ l (.slice oi l.length ci) w5b H5b.out (by omega) HBw.out (only_kept HK5.out HO5b.out HBw.out) (fun W hk _ => HM.out.kept hk)) ?_
  rintro e w6 ⟨rfl, h6, o6⟩
  have h6' : WrL w6 B (1 + 1 + l.length) (!(okMany 24 l.length && l.all (fun x => mayPut x 1))) := by
    have e1 : ((false || (decide ((24 : Int) < l.length) || !mayPut l.length 1)) || !l.all (fun x => mayPut x 1)) = !(okMany 24 l.length && l.all (fun x => mayPut x 1)) := by
      unfold okMany
      cases (decide ((24 : Int) < l.length) || !mayPut l.length 1) <;> cases l.all (fun x => mayPut x 1) <;> rfl
    rw [← e1]; exact h6
  replace o6 := HO5b.out.trans o6
  have HK6 := Lib.hid (only_kept HK5.out o6 HBw.out)
  clear h6 o6 c0 c9
  cases hok : (okMany 24 l.length && l.all (fun x => mayPut x 1)) with
  | true =>
    rw [hok] at h6'
    have HOK := Lib.hid hok; clear hok
    obtain ⟨ax, mm, cc, d0, d1, _⟩ := h6'.cells
    clear h6'
    go_wp2
    go_ret2
    exact ⟨⟨_, by rw [HOK.out]; rfl⟩, HK6.out⟩
  | false =>
    rw [hok] at h6'
    have HOK := Lib.hid hok; clear hok
    obtain ⟨ax, mm, cc, d0, d1, _⟩ := h6'.cells
    clear h6'
    go_wp2
    go_ret2
    exact ⟨⟨_, by rw [HOK.out]; rfl⟩, HK6.out⟩
theorem record_clean (vi : Value) (l : List Int) (w : World) (hm : RSl oneV 1 w vi l) (hlen : l.length ≤ 4096) : Calls Tryz.prog 35 #[.agg (rcClean vi).toArray] w fun e w' => (∃ sv, e = .returned (.tuple #[sv, .int .i64 (argE (okMany 24 l.length && l.all (fun x => mayPut x 1)))])) ∧ Kept w w' := by
  obtain ⟨oi, ci, rfl, _⟩ := hm.form
  have HM := Lib.hid hm; clear hm
  go_enter Tryz.func35, Tryz.ntmps35
  go_wp2_with (refine stop_at (o := ⟨some 1, _, _, _, _, _⟩) ?_)
  refine Stop.mk ?_
  refine wpList_box_rowS rfl _ _ rfl (rcClean (.slice oi l.length ci)) rfl ?_
  intro w1 hz1 hs1 hk1
  obtain ⟨X, hX⟩ : ∃ X, X = w.heap.size := ⟨_, rfl⟩
  rw [← hX] at hz1 ⊢
  have c0 : w1.cell? ⟨X, 0, none⟩ = some (.int .i64 6) := (Cells.of_block hz1.out) 0 (by show 0 < 142; decide)
  have c9 : w1.cell? ⟨X, 9, none⟩ = some (.slice oi l.length ci) := (Cells.of_block hz1.out) 9 (by show 9 < 142; decide)
  have HZ : Hid (Cells w1 X 0 (rcClean (.slice oi l.length ci))) := Lib.hid (Cells.of_block hz1.out)
  have HK1 := Lib.hid hk1
  have HXw := Lib.hid hX
  have HXl : Hid (X < w1.heap.size) := Lib.hid (by omega)
  have HIN := Lib.hid (show inN 6 1 9 = true by decide)
  clear hz1 hk1 hs1 hX
  go_wp2_with (first
    | (refine stop_at (o := ⟨some 12, _, _, _, _, _⟩) ?_)
    | (go_at_call 21; refine (st_in _ _ _ _).mono ?_; rw [HIN.out]; rintro e wi ⟨rfl, rfl⟩))
  refine Stop.mk ?_
  refine wpList_load_aggW _ rfl agT_rec X 0 rfl _ HZ.out (rcv_len _ _ _ _ _ _ _ _ _ _ _) rfl ?_
  go_wp2_with fail
  refine Calls.mono (spare_clean (.slice oi l.length ci) w1) ?_
  rintro e w2 ⟨rfl, hk2⟩
  replace c0 := hk2.cell' c0; replace c9 := hk2.cell' c9
  have HK2 := Lib.hid (HK1.out.trans hk2)
  have HXl2 : Hid (X < w2.heap.size) := Lib.hid (Nat.lt_of_lt_of_le HXl.out hk2.size)
  clear hk2 HZ HIN
  go_wp2_with (refine stop_at (o := ⟨some 17, _, _, _, _, _⟩) ?_)
  refine Stop.mk ?_
  refine wpList_box_rowS rfl _ _ rfl [.slice none 0 0, .bool false] rfl ?_
  intro w3 hz3 hs3 hk3
  obtain ⟨B, hB⟩ : ∃ B, B = w2.heap.size := ⟨_, rfl⟩
  rw [← hB] at hz3 ⊢
  have H3 := Lib.hid (WrL.fresh hz3.out)
  have HK3 := Lib.hid (HK2.out.trans hk3)
  have HBw : Hid (w.heap.size ≤ B) := Lib.hid (by have := HK2.out.size; omega)
  have HXB : Hid (X ≠ B) := Lib.hid (by have := HXl2.out; omega)
  replace c0 := hk3.cell' c0; replace c9 := hk3.cell' c9
  clear hz3 hs3 hk3 hB HXl HXl2 HK1 HK2
  go_wp2_with fail
  refine Calls.mono (wl_number1 B 0 false 6 w3 H3.out (by omega)) ?_
  rintro e w5 ⟨rfl, h5, o5⟩
  replace c0 := o5.cell (by exact HXB.out) c0; replace c9 := o5.cell (by exact HXB.out) c9
  have H5 : Hid (WrL w5 B 1 false) := Lib.hid (by rw [show (false || !mayPut 6 1) = false by decide] at h5; exact h5)
  have HK5 := Lib.hid (only_kept HK3.out o5 HBw.out)
  clear h5 o5 H3
  go_wp2_with fail
  refine Calls.mono (wl_count B 1 _ l.length 24 w5 H5.out (by omega)) ?_
  rintro e w5b ⟨rfl, h5b, o5b⟩
  replace c9 := o5b.cell (by exact HXB.out) c9
  have H5b := Lib.hid h5b; have HO5b := Lib.hid o5b
  clear h5b o5b
  go_wp2_with fail
  refine Calls.mono (wl_numbers w B (1 + 1) _ l (.slice oi l.length ci) w5b H5b.out (by omega) HBw.out (only_kept HK5.out HO5b.out HBw.out) (fun W hk _ => HM.out.kept hk)) ?_
  rintro e w6 ⟨rfl, h6, o6⟩
  have h6' : WrL w6 B (1 + 1 + l.length) (!(okMany 24 l.length && l.all (fun x => mayPut x 1))) := by
    have e1 : ((false || (decide ((24 : Int) < l.length) || !mayPut l.length 1)) || !l.all (fun x => mayPut x 1)) = !(okMany 24 l.length && l.all (fun x => mayPut x 1)) := by
      unfold okMany
      cases (decide ((24 : Int) < l.length) || !mayPut l.length 1) <;> cases l.all (fun x => mayPut x 1) <;> rfl
    rw [← e1]; exact h6
  replace o6 := HO5b.out.trans o6
  have HK6 := Lib.hid (only_kept HK5.out o6 HBw.out)
  clear h6 o6 c0 c9
  cases hok : (okMany 24 l.length && l.all (fun x => mayPut x 1)) with
  | true =>
    rw [hok] at h6'
    have HOK := Lib.hid hok; clear hok
    obtain ⟨ax, mm, cc, d0, d1, _⟩ := h6'.cells
    clear h6'
    go_wp2
    go_ret2
    exact ⟨⟨_, by rw [HOK.out]; rfl⟩, HK6.out⟩
  | false =>
    rw [hok] at h6'
    have HOK := Lib.hid hok; clear hok
    obtain ⟨ax, mm, cc, d0, d1, _⟩ := h6'.cells
    clear h6'
    go_wp2
    go_ret2
    exact ⟨⟨_, by rw [HOK.out]; rfl⟩, HK6.out⟩
theorem record_members (vm : Value) (l : List Mb) (w : World) (hm : RSl trip 3 w vm l) (hlen : l.length ≤ 4096) : Calls Tryz.prog 35 #[.agg (rcMembers vm).toArray] w fun e w' => (∃ sv, e = .returned (.tuple #[sv, .int .i64 (argE (okMany 12 l.length && l.all mbW))])) ∧ Kept w w' := by
  obtain ⟨oi, ci, rfl, _⟩ := hm.form
  have HM := Lib.hid hm; clear hm
  go_enter Tryz.func35, Tryz.ntmps35
  go_wp2_with (refine stop_at (o := ⟨some 1, _, _, _, _, _⟩) ?_)
  refine Stop.mk ?_
  refine wpList_box_rowS rfl _ _ rfl (rcMembers (.slice oi l.length ci)) rfl ?_
  intro w1 hz1 hs1 hk1
  obtain ⟨X, hX⟩ : ∃ X, X = w.heap.size := ⟨_, rfl⟩
  rw [← hX] at hz1 ⊢
  have c0 : w1.cell? ⟨X, 0, none⟩ = some (.int .i64 9) := (Cells.of_block hz1.out) 0 (by show 0 < 142; decide)
  have c141 : w1.cell? ⟨X, 141, none⟩ = some (.slice oi l.length ci) := (Cells.of_block hz1.out) 141 (by show 141 < 142; decide)
  have HZ : Hid (Cells w1 X 0 (rcMembers (.slice oi l.length ci))) := Lib.hid (Cells.of_block hz1.out)
  have HK1 := Lib.hid hk1
  have HXw := Lib.hid hX
  have HXl : Hid (X < w1.heap.size) := Lib.hid (by omega)
  have HIN := Lib.hid (show inN 9 1 9 = true by decide)
  clear hz1 hk1 hs1 hX
  go_wp2_with (first
    | (refine stop_at (o := ⟨some 12, _, _, _, _, _⟩) ?_)
    | (go_at_call 21; refine (st_in _ _ _ _).mono ?_; rw [HIN.out]; rintro e wi ⟨rfl, rfl⟩))
  refine Stop.mk ?_
  refine wpList_load_aggW _ rfl agT_rec X 0 rfl _ HZ.out (rcv_len _ _ _ _ _ _ _ _ _ _ _) rfl ?_
  go_wp2_with fail
  refine Calls.mono (spare_members (.slice oi l.length ci) w1) ?_
  rintro e w2 ⟨rfl, hk2⟩
  replace c0 := hk2.cell' c0; replace c141 := hk2.cell' c141
  have HK2 := Lib.hid (HK1.out.trans hk2)
  have HXl2 : Hid (X < w2.heap.size) := Lib.hid (Nat.lt_of_lt_of_le HXl.out hk2.size)
  clear hk2 HZ HIN
  go_wp2_with (refine stop_at (o := ⟨some 17, _, _, _, _, _⟩) ?_)
  refine Stop.mk ?_
  refine wpList_box_rowS rfl _ _ rfl [.slice none 0 0, .bool false] rfl ?_
  intro w3 hz3 hs3 hk3
  obtain ⟨B, hB⟩ : ∃ B, B = w2.heap.size := ⟨_, rfl⟩
  rw [← hB] at hz3 ⊢
  have H3 := Lib.hid (WrL.fresh hz3.out)
  have HK3 := Lib.hid (HK2.out.trans hk3)
  have HBw : Hid (w.heap.size ≤ B) := Lib.hid (by have := HK2.out.size; omega)
  have HXB : Hid (X ≠ B) := Lib.hid (by have := HXl2.out; omega)
  replace c0 := hk3.cell' c0; replace c141 := hk3.cell' c141
  clear hz3 hs3 hk3 hB HXl HXl2 HK1 HK2
  go_wp2_with fail
  refine Calls.mono (wl_number1 B 0 false 9 w3 H3.out (by omega)) ?_
  rintro e w5 ⟨rfl, h5, o5⟩
  replace c0 := o5.cell (by exact HXB.out) c0; replace c141 := o5.cell (by exact HXB.out) c141
  have H5 : Hid (WrL w5 B 1 false) := Lib.hid (by rw [show (false || !mayPut 9 1) = false by decide] at h5; exact h5)
  have HK5 := Lib.hid (only_kept HK3.out o5 HBw.out)
  clear h5 o5 H3
  go_wp2_with fail
  refine Calls.mono (wl_members w B 1 _ l (.slice oi l.length ci) w5 H5.out (by omega) HBw.out HK5.out HM.out) ?_
  rintro e w6 ⟨rfl, h6, o6⟩
  have h6' : WrL w6 B (1 + 1 + 4 * l.length) (!(okMany 12 l.length && l.all mbW)) := by
    have e1 : ((false || (decide ((12 : Int) < l.length) || !mayPut l.length 1)) || !l.all mbW) = !(okMany 12 l.length && l.all mbW) := by
      unfold okMany
      cases (decide ((12 : Int) < l.length) || !mayPut l.length 1) <;> cases l.all mbW <;> rfl
    rw [← e1]; exact h6
  have HK6 := Lib.hid (only_kept HK5.out o6 HBw.out)
  clear h6 o6 c0 c141
  cases hok : (okMany 12 l.length && l.all mbW) with
  | true =>
    rw [hok] at h6'
    have HOK := Lib.hid hok; clear hok
    obtain ⟨ax, mm, cc, d0, d1, _⟩ := h6'.cells
    clear h6'
    go_wp2
    go_ret2
    exact ⟨⟨_, by rw [HOK.out]; rfl⟩, HK6.out⟩
  | false =>
    rw [hok] at h6'
    have HOK := Lib.hid hok; clear hok
    obtain ⟨ax, mm, cc, d0, d1, _⟩ := h6'.cells
    clear h6'
    go_wp2
    go_ret2
    exact ⟨⟨_, by rw [HOK.out]; rfl⟩, HK6.out⟩
end Go.Proofs.YtiijfocdjcjlaaaGreat
