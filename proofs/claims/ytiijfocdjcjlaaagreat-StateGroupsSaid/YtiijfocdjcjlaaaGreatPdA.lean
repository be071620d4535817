/- PdA: several texts in one: Rim Cmm Rzm Stm. -/
import Derived.Test.YtiijfocdjcjlaaaGreatPaA
import Derived.Deep.CutBlock
import Derived.Deep.DeepCutAuto
import Derived.Test.YtiijfocdjcjlaaaGreatPbA
/- The numbers of []braidwork/api.Member, rises's closures over them, IsSortedFunc (gen_rise.py m). -/
namespace Go.Proofs.YtiijfocdjcjlaaaGreat
open Go.RowKit
set_option linter.unusedVariables false
set_option linter.unusedSimpArgs false
set_option maxRecDepth 100000
set_option maxHeartbeats 1000000

theorem num_m (x : Mb) (w : World) : Calls Tryz.prog 25 #[.agg (trip x).toArray] w fun e w' => e = .returned (.int .i64 x.1) ∧ Kept w w' := by
  have hB : ∀ o, Kept w (w.alloc o) := fun o => (Kept.refl _).alloc o
  have HB := Lib.hid hB; clear hB
  try simp only [trip]
  go_enter Tryz.func25, Tryz.ntmps25
  go_wp2
  go_ret
  exact ⟨rfl, HB.out _⟩
theorem ris1_m (x y : Mb) (nb : Nat) (w : World) (hh : w.cell? ⟨nb, 0, none⟩ = some (.func (.func 25) #[] #[])) :
    Calls Tryz.prog 55 #[.agg (trip x).toArray, .agg (trip y).toArray, .pointer (some ⟨nb, 0, none⟩)] w fun e w' => e = .returned (.int .i64 (cmpI x.1 y.1)) ∧ Kept w w' := by
  have hlt := World.block_lt_of_cell? _ _ hh
  have hB : ∀ o p, Kept w ((w.alloc o).alloc p) := fun o p => ((Kept.refl _).alloc o).alloc p
  have HB := Lib.hid hB; clear hB
  have hN := fun (W : World) => num_m x W
  have hM := fun (W : World) => num_m y W
  try simp only [trip] at hN hM
  have HN := Lib.hid hN; clear hN
  have HM := Lib.hid hM; clear hM
  try simp only [trip]
  go_enter Tryz.func55, Tryz.ntmps55
  go_wp2
  generalize hW : World.alloc (World.alloc w _) _ = W0
  have hk0 : Kept w W0 := by rw [← hW]; exact HB.out _ _
  have c := congrArg (fun W => W.heap[w.heap.size]?) hW
  have d := congrArg (fun W => W.heap[w.heap.size + 1]?) hW
  simp only [heap_alloc2_old, heap_alloc2_new] at c d
  replace c := Cells.of_block c.symm
  replace d := Cells.of_block d.symm
  have c0 := c 0 (by simp)
  have c1 := c 1 (by simp)
  have c2 := c 2 (by simp)
  have d0 := d 0 (by simp)
  have d1 := d 1 (by simp)
  have d2 := d 2 (by simp)
  simp only [Nat.add_zero, Nat.zero_add, List.getElem_cons_zero, List.getElem_cons_succ] at c0 d0 c1 d1 c2 d2
  clear c d hW
  replace hh := hk0.cell' hh
  have hS := (show (fun (W : World) => Kept w W ∧ W.cell? ⟨nb, 0, none⟩ = some (.func (.func 25) #[] #[]) ∧ W.cell? ⟨w.heap.size, 0, none⟩ = some (.int .i64 x.1) ∧ W.cell? ⟨w.heap.size, 1, none⟩ = some (.int .i64 x.2.1) ∧ W.cell? ⟨w.heap.size, 2, none⟩ = some (.int .i64 x.2.2) ∧ W.cell? ⟨w.heap.size + 1, 0, none⟩ = some (.int .i64 y.1) ∧ W.cell? ⟨w.heap.size + 1, 1, none⟩ = some (.int .i64 y.2.1) ∧ W.cell? ⟨w.heap.size + 1, 2, none⟩ = some (.int .i64 y.2.2)) _ from ⟨hk0.drew, hh, c0, c1, c2, d0, d1, d2⟩)
  refine wp_region_calm ?_
  refine wp_region_E (fun (W : World) => Kept w W ∧ W.cell? ⟨nb, 0, none⟩ = some (.func (.func 25) #[] #[]) ∧ W.cell? ⟨w.heap.size, 0, none⟩ = some (.int .i64 x.1) ∧ W.cell? ⟨w.heap.size, 1, none⟩ = some (.int .i64 x.2.1) ∧ W.cell? ⟨w.heap.size, 2, none⟩ = some (.int .i64 x.2.2) ∧ W.cell? ⟨w.heap.size + 1, 0, none⟩ = some (.int .i64 y.1) ∧ W.cell? ⟨w.heap.size + 1, 1, none⟩ = some (.int .i64 y.2.1) ∧ W.cell? ⟨w.heap.size + 1, 2, none⟩ = some (.int .i64 y.2.2)) 100 (by kernel_rfl) ?_
  refine wpAnyE_take (i := 0) (v := .func (.func 25) #[] #[]) (listed' := #[true, false, false, false, false, false, false, false]) (by rfl) (by kernel_rfl) (by kernel_rfl) calm_put hS (by rfl) ?_ ?_
  · intro W hW; obtain ⟨hk0, hh, c0, c1, c2, d0, d1, d2⟩ := hW; go_simp; try (with_reducible rfl)
  simp only [Act.put, List.getElem_toArray, List.getElem_cons_succ, List.getElem_cons_zero, List.setIfInBounds_toArray, List.set_cons_zero, List.set_cons_succ]
  refine wpAnyE_take (i := 1) (v := .agg #[.int .i64 x.1, .int .i64 x.2.1, .int .i64 x.2.2]) (listed' := #[true, true, false, false, false, false, false, false]) (by rfl) (by kernel_rfl) (by kernel_rfl) calm_put hS (by rfl) ?_ ?_
  · intro W hW; obtain ⟨hk0, hh, c0, c1, c2, d0, d1, d2⟩ := hW; go_simp; try (with_reducible rfl)
  simp only [Act.put, List.getElem_toArray, List.getElem_cons_succ, List.getElem_cons_zero, List.setIfInBounds_toArray, List.set_cons_zero, List.set_cons_succ]
  refine wpAnyE_take (i := 3) (v := .func (.func 25) #[] #[]) (listed' := #[true, true, false, true, false, false, false, false]) (by rfl) (by kernel_rfl) (by kernel_rfl) calm_put hS (by rfl) ?_ ?_
  · intro W hW; obtain ⟨hk0, hh, c0, c1, c2, d0, d1, d2⟩ := hW; go_simp; try (with_reducible rfl)
  simp only [Act.put, List.getElem_toArray, List.getElem_cons_succ, List.getElem_cons_zero, List.setIfInBounds_toArray, List.set_cons_zero, List.set_cons_succ]
  refine wpAnyE_take (i := 4) (v := .agg #[.int .i64 y.1, .int .i64 y.2.1, .int .i64 y.2.2]) (listed' := #[true, true, false, true, true, false, false, false]) (by rfl) (by kernel_rfl) (by kernel_rfl) calm_put hS (by rfl) ?_ ?_
  · intro W hW; obtain ⟨hk0, hh, c0, c1, c2, d0, d1, d2⟩ := hW; go_simp; try (with_reducible rfl)
  simp only [Act.put, List.getElem_toArray, List.getElem_cons_succ, List.getElem_cons_zero, List.setIfInBounds_toArray, List.set_cons_zero, List.set_cons_succ]
  refine wpAnyE_one (i := 2) (listed' := #[true, true, true, true, true, false, false, false]) (by rfl) (by kernel_rfl) (by kernel_rfl) (by rfl) (fun K hK => ?_)
  simp only [Act.put, List.getElem_toArray, List.getElem_cons_succ, List.getElem_cons_zero, List.setIfInBounds_toArray, List.set_cons_zero, List.set_cons_succ]
  go_wp2_with fail
  first | (refine Calls.mono (HN.out _) ?_; rintro e w' ⟨rfl, hk⟩; obtain ⟨hk0, hh, c0, c1, c2, d0, d1, d2⟩ := hS; have hS : (fun (W : World) => Kept w W ∧ W.cell? ⟨nb, 0, none⟩ = some (.func (.func 25) #[] #[]) ∧ W.cell? ⟨w.heap.size, 0, none⟩ = some (.int .i64 x.1) ∧ W.cell? ⟨w.heap.size, 1, none⟩ = some (.int .i64 x.2.1) ∧ W.cell? ⟨w.heap.size, 2, none⟩ = some (.int .i64 x.2.2) ∧ W.cell? ⟨w.heap.size + 1, 0, none⟩ = some (.int .i64 y.1) ∧ W.cell? ⟨w.heap.size + 1, 1, none⟩ = some (.int .i64 y.2.1) ∧ W.cell? ⟨w.heap.size + 1, 2, none⟩ = some (.int .i64 y.2.2)) _ := ⟨hk0.trans hk, hk.cell' hh, hk.cell' c0, hk.cell' c1, hk.cell' c2, hk.cell' d0, hk.cell' d1, hk.cell' d2⟩; clear hk hk0 hh c0 c1 c2 d0 d1 d2) | (refine Calls.mono (HM.out _) ?_; rintro e w' ⟨rfl, hk⟩; obtain ⟨hk0, hh, c0, c1, c2, d0, d1, d2⟩ := hS; have hS : (fun (W : World) => Kept w W ∧ W.cell? ⟨nb, 0, none⟩ = some (.func (.func 25) #[] #[]) ∧ W.cell? ⟨w.heap.size, 0, none⟩ = some (.int .i64 x.1) ∧ W.cell? ⟨w.heap.size, 1, none⟩ = some (.int .i64 x.2.1) ∧ W.cell? ⟨w.heap.size, 2, none⟩ = some (.int .i64 x.2.2) ∧ W.cell? ⟨w.heap.size + 1, 0, none⟩ = some (.int .i64 y.1) ∧ W.cell? ⟨w.heap.size + 1, 1, none⟩ = some (.int .i64 y.2.1) ∧ W.cell? ⟨w.heap.size + 1, 2, none⟩ = some (.int .i64 y.2.2)) _ := ⟨hk0.trans hk, hk.cell' hh, hk.cell' c0, hk.cell' c1, hk.cell' c2, hk.cell' d0, hk.cell' d1, hk.cell' d2⟩; clear hk hk0 hh c0 c1 c2 d0 d1 d2) | (refine Calls.mono (cmp_Compare _ _ _) ?_; rintro e w' ⟨rfl, hw⟩; have hk := Kept.of_eq hw; obtain ⟨hk0, hh, c0, c1, c2, d0, d1, d2⟩ := hS; have hS : (fun (W : World) => Kept w W ∧ W.cell? ⟨nb, 0, none⟩ = some (.func (.func 25) #[] #[]) ∧ W.cell? ⟨w.heap.size, 0, none⟩ = some (.int .i64 x.1) ∧ W.cell? ⟨w.heap.size, 1, none⟩ = some (.int .i64 x.2.1) ∧ W.cell? ⟨w.heap.size, 2, none⟩ = some (.int .i64 x.2.2) ∧ W.cell? ⟨w.heap.size + 1, 0, none⟩ = some (.int .i64 y.1) ∧ W.cell? ⟨w.heap.size + 1, 1, none⟩ = some (.int .i64 y.2.1) ∧ W.cell? ⟨w.heap.size + 1, 2, none⟩ = some (.int .i64 y.2.2)) _ := ⟨hk0.trans hk, hk.cell' hh, hk.cell' c0, hk.cell' c1, hk.cell' c2, hk.cell' d0, hk.cell' d1, hk.cell' d2⟩; clear hk hk0 hh c0 c1 c2 d0 d1 d2; clear hw) | skip
  refine hK _ _ (fun _ => hS) ?_; clear hK K
  refine wpAnyE_one (i := 5) (listed' := #[true, true, true, true, true, true, false, false]) (by rfl) (by kernel_rfl) (by kernel_rfl) (by rfl) (fun K hK => ?_)
  simp only [Act.put, List.getElem_toArray, List.getElem_cons_succ, List.getElem_cons_zero, List.setIfInBounds_toArray, List.set_cons_zero, List.set_cons_succ]
  go_wp2_with fail
  first | (refine Calls.mono (HN.out _) ?_; rintro e w' ⟨rfl, hk⟩; obtain ⟨hk0, hh, c0, c1, c2, d0, d1, d2⟩ := hS; have hS : (fun (W : World) => Kept w W ∧ W.cell? ⟨nb, 0, none⟩ = some (.func (.func 25) #[] #[]) ∧ W.cell? ⟨w.heap.size, 0, none⟩ = some (.int .i64 x.1) ∧ W.cell? ⟨w.heap.size, 1, none⟩ = some (.int .i64 x.2.1) ∧ W.cell? ⟨w.heap.size, 2, none⟩ = some (.int .i64 x.2.2) ∧ W.cell? ⟨w.heap.size + 1, 0, none⟩ = some (.int .i64 y.1) ∧ W.cell? ⟨w.heap.size + 1, 1, none⟩ = some (.int .i64 y.2.1) ∧ W.cell? ⟨w.heap.size + 1, 2, none⟩ = some (.int .i64 y.2.2)) _ := ⟨hk0.trans hk, hk.cell' hh, hk.cell' c0, hk.cell' c1, hk.cell' c2, hk.cell' d0, hk.cell' d1, hk.cell' d2⟩; clear hk hk0 hh c0 c1 c2 d0 d1 d2) | (refine Calls.mono (HM.out _) ?_; rintro e w' ⟨rfl, hk⟩; obtain ⟨hk0, hh, c0, c1, c2, d0, d1, d2⟩ := hS; have hS : (fun (W : World) => Kept w W ∧ W.cell? ⟨nb, 0, none⟩ = some (.func (.func 25) #[] #[]) ∧ W.cell? ⟨w.heap.size, 0, none⟩ = some (.int .i64 x.1) ∧ W.cell? ⟨w.heap.size, 1, none⟩ = some (.int .i64 x.2.1) ∧ W.cell? ⟨w.heap.size, 2, none⟩ = some (.int .i64 x.2.2) ∧ W.cell? ⟨w.heap.size + 1, 0, none⟩ = some (.int .i64 y.1) ∧ W.cell? ⟨w.heap.size + 1, 1, none⟩ = some (.int .i64 y.2.1) ∧ W.cell? ⟨w.heap.size + 1, 2, none⟩ = some (.int .i64 y.2.2)) _ := ⟨hk0.trans hk, hk.cell' hh, hk.cell' c0, hk.cell' c1, hk.cell' c2, hk.cell' d0, hk.cell' d1, hk.cell' d2⟩; clear hk hk0 hh c0 c1 c2 d0 d1 d2) | (refine Calls.mono (cmp_Compare _ _ _) ?_; rintro e w' ⟨rfl, hw⟩; have hk := Kept.of_eq hw; obtain ⟨hk0, hh, c0, c1, c2, d0, d1, d2⟩ := hS; have hS : (fun (W : World) => Kept w W ∧ W.cell? ⟨nb, 0, none⟩ = some (.func (.func 25) #[] #[]) ∧ W.cell? ⟨w.heap.size, 0, none⟩ = some (.int .i64 x.1) ∧ W.cell? ⟨w.heap.size, 1, none⟩ = some (.int .i64 x.2.1) ∧ W.cell? ⟨w.heap.size, 2, none⟩ = some (.int .i64 x.2.2) ∧ W.cell? ⟨w.heap.size + 1, 0, none⟩ = some (.int .i64 y.1) ∧ W.cell? ⟨w.heap.size + 1, 1, none⟩ = some (.int .i64 y.2.1) ∧ W.cell? ⟨w.heap.size + 1, 2, none⟩ = some (.int .i64 y.2.2)) _ := ⟨hk0.trans hk, hk.cell' hh, hk.cell' c0, hk.cell' c1, hk.cell' c2, hk.cell' d0, hk.cell' d1, hk.cell' d2⟩; clear hk hk0 hh c0 c1 c2 d0 d1 d2; clear hw) | skip
  refine hK _ _ (fun _ => hS) ?_; clear hK K
  refine wpAnyE_one (i := 6) (listed' := #[true, true, true, true, true, true, true, false]) (by rfl) (by kernel_rfl) (by kernel_rfl) (by rfl) (fun K hK => ?_)
  simp only [Act.put, List.getElem_toArray, List.getElem_cons_succ, List.getElem_cons_zero, List.setIfInBounds_toArray, List.set_cons_zero, List.set_cons_succ]
  go_wp2_with fail
  first | (refine Calls.mono (HN.out _) ?_; rintro e w' ⟨rfl, hk⟩; obtain ⟨hk0, hh, c0, c1, c2, d0, d1, d2⟩ := hS; have hS : (fun (W : World) => Kept w W ∧ W.cell? ⟨nb, 0, none⟩ = some (.func (.func 25) #[] #[]) ∧ W.cell? ⟨w.heap.size, 0, none⟩ = some (.int .i64 x.1) ∧ W.cell? ⟨w.heap.size, 1, none⟩ = some (.int .i64 x.2.1) ∧ W.cell? ⟨w.heap.size, 2, none⟩ = some (.int .i64 x.2.2) ∧ W.cell? ⟨w.heap.size + 1, 0, none⟩ = some (.int .i64 y.1) ∧ W.cell? ⟨w.heap.size + 1, 1, none⟩ = some (.int .i64 y.2.1) ∧ W.cell? ⟨w.heap.size + 1, 2, none⟩ = some (.int .i64 y.2.2)) _ := ⟨hk0.trans hk, hk.cell' hh, hk.cell' c0, hk.cell' c1, hk.cell' c2, hk.cell' d0, hk.cell' d1, hk.cell' d2⟩; clear hk hk0 hh c0 c1 c2 d0 d1 d2) | (refine Calls.mono (HM.out _) ?_; rintro e w' ⟨rfl, hk⟩; obtain ⟨hk0, hh, c0, c1, c2, d0, d1, d2⟩ := hS; have hS : (fun (W : World) => Kept w W ∧ W.cell? ⟨nb, 0, none⟩ = some (.func (.func 25) #[] #[]) ∧ W.cell? ⟨w.heap.size, 0, none⟩ = some (.int .i64 x.1) ∧ W.cell? ⟨w.heap.size, 1, none⟩ = some (.int .i64 x.2.1) ∧ W.cell? ⟨w.heap.size, 2, none⟩ = some (.int .i64 x.2.2) ∧ W.cell? ⟨w.heap.size + 1, 0, none⟩ = some (.int .i64 y.1) ∧ W.cell? ⟨w.heap.size + 1, 1, none⟩ = some (.int .i64 y.2.1) ∧ W.cell? ⟨w.heap.size + 1, 2, none⟩ = some (.int .i64 y.2.2)) _ := ⟨hk0.trans hk, hk.cell' hh, hk.cell' c0, hk.cell' c1, hk.cell' c2, hk.cell' d0, hk.cell' d1, hk.cell' d2⟩; clear hk hk0 hh c0 c1 c2 d0 d1 d2) | (refine Calls.mono (cmp_Compare _ _ _) ?_; rintro e w' ⟨rfl, hw⟩; have hk := Kept.of_eq hw; obtain ⟨hk0, hh, c0, c1, c2, d0, d1, d2⟩ := hS; have hS : (fun (W : World) => Kept w W ∧ W.cell? ⟨nb, 0, none⟩ = some (.func (.func 25) #[] #[]) ∧ W.cell? ⟨w.heap.size, 0, none⟩ = some (.int .i64 x.1) ∧ W.cell? ⟨w.heap.size, 1, none⟩ = some (.int .i64 x.2.1) ∧ W.cell? ⟨w.heap.size, 2, none⟩ = some (.int .i64 x.2.2) ∧ W.cell? ⟨w.heap.size + 1, 0, none⟩ = some (.int .i64 y.1) ∧ W.cell? ⟨w.heap.size + 1, 1, none⟩ = some (.int .i64 y.2.1) ∧ W.cell? ⟨w.heap.size + 1, 2, none⟩ = some (.int .i64 y.2.2)) _ := ⟨hk0.trans hk, hk.cell' hh, hk.cell' c0, hk.cell' c1, hk.cell' c2, hk.cell' d0, hk.cell' d1, hk.cell' d2⟩; clear hk hk0 hh c0 c1 c2 d0 d1 d2; clear hw) | skip
  refine hK _ _ (fun _ => hS) ?_; clear hK K
  refine wpAnyE_one (i := 7) (listed' := #[true, true, true, true, true, true, true, true]) (by rfl) (by kernel_rfl) (by kernel_rfl) (by rfl) (fun K hK => ?_)
  simp only [Act.put, List.getElem_toArray, List.getElem_cons_succ, List.getElem_cons_zero, List.setIfInBounds_toArray, List.set_cons_zero, List.set_cons_succ]
  go_wp2_with fail
  first | (refine Calls.mono (HN.out _) ?_; rintro e w' ⟨rfl, hk⟩; obtain ⟨hk0, hh, c0, c1, c2, d0, d1, d2⟩ := hS; have hS : (fun (W : World) => Kept w W ∧ W.cell? ⟨nb, 0, none⟩ = some (.func (.func 25) #[] #[]) ∧ W.cell? ⟨w.heap.size, 0, none⟩ = some (.int .i64 x.1) ∧ W.cell? ⟨w.heap.size, 1, none⟩ = some (.int .i64 x.2.1) ∧ W.cell? ⟨w.heap.size, 2, none⟩ = some (.int .i64 x.2.2) ∧ W.cell? ⟨w.heap.size + 1, 0, none⟩ = some (.int .i64 y.1) ∧ W.cell? ⟨w.heap.size + 1, 1, none⟩ = some (.int .i64 y.2.1) ∧ W.cell? ⟨w.heap.size + 1, 2, none⟩ = some (.int .i64 y.2.2)) _ := ⟨hk0.trans hk, hk.cell' hh, hk.cell' c0, hk.cell' c1, hk.cell' c2, hk.cell' d0, hk.cell' d1, hk.cell' d2⟩; clear hk hk0 hh c0 c1 c2 d0 d1 d2) | (refine Calls.mono (HM.out _) ?_; rintro e w' ⟨rfl, hk⟩; obtain ⟨hk0, hh, c0, c1, c2, d0, d1, d2⟩ := hS; have hS : (fun (W : World) => Kept w W ∧ W.cell? ⟨nb, 0, none⟩ = some (.func (.func 25) #[] #[]) ∧ W.cell? ⟨w.heap.size, 0, none⟩ = some (.int .i64 x.1) ∧ W.cell? ⟨w.heap.size, 1, none⟩ = some (.int .i64 x.2.1) ∧ W.cell? ⟨w.heap.size, 2, none⟩ = some (.int .i64 x.2.2) ∧ W.cell? ⟨w.heap.size + 1, 0, none⟩ = some (.int .i64 y.1) ∧ W.cell? ⟨w.heap.size + 1, 1, none⟩ = some (.int .i64 y.2.1) ∧ W.cell? ⟨w.heap.size + 1, 2, none⟩ = some (.int .i64 y.2.2)) _ := ⟨hk0.trans hk, hk.cell' hh, hk.cell' c0, hk.cell' c1, hk.cell' c2, hk.cell' d0, hk.cell' d1, hk.cell' d2⟩; clear hk hk0 hh c0 c1 c2 d0 d1 d2) | (refine Calls.mono (cmp_Compare _ _ _) ?_; rintro e w' ⟨rfl, hw⟩; have hk := Kept.of_eq hw; obtain ⟨hk0, hh, c0, c1, c2, d0, d1, d2⟩ := hS; have hS : (fun (W : World) => Kept w W ∧ W.cell? ⟨nb, 0, none⟩ = some (.func (.func 25) #[] #[]) ∧ W.cell? ⟨w.heap.size, 0, none⟩ = some (.int .i64 x.1) ∧ W.cell? ⟨w.heap.size, 1, none⟩ = some (.int .i64 x.2.1) ∧ W.cell? ⟨w.heap.size, 2, none⟩ = some (.int .i64 x.2.2) ∧ W.cell? ⟨w.heap.size + 1, 0, none⟩ = some (.int .i64 y.1) ∧ W.cell? ⟨w.heap.size + 1, 1, none⟩ = some (.int .i64 y.2.1) ∧ W.cell? ⟨w.heap.size + 1, 2, none⟩ = some (.int .i64 y.2.2)) _ := ⟨hk0.trans hk, hk.cell' hh, hk.cell' c0, hk.cell' c1, hk.cell' c2, hk.cell' d0, hk.cell' d1, hk.cell' d2⟩; clear hk hk0 hh c0 c1 c2 d0 d1 d2; clear hw) | skip
  refine hK _ _ (fun _ => hS) ?_; clear hK K
  refine wpAnyE_done (by kernel_rfl) ?_ _
  refine calm_normal ?_
  obtain ⟨hk0, hh, c0, c1, c2, d0, d1, d2⟩ := hS
  go_wp2
  go_ret
  exact ⟨rfl, hk0⟩
theorem ris2_m (x y : Mb) (nb : Nat) (w : World) (hh : w.cell? ⟨nb, 0, none⟩ = some (.func (.func 25) #[] #[])) :
    Calls Tryz.prog 58 #[.agg (trip x).toArray, .agg (trip y).toArray, .pointer (some ⟨nb, 0, none⟩)] w fun e w' => e = .returned (.bool (x.1 == y.1)) ∧ Kept w w' := by
  have hlt := World.block_lt_of_cell? _ _ hh
  have hB : ∀ o p, Kept w ((w.alloc o).alloc p) := fun o p => ((Kept.refl _).alloc o).alloc p
  have HB := Lib.hid hB; clear hB
  have hN := fun (W : World) => num_m x W
  have hM := fun (W : World) => num_m y W
  try simp only [trip] at hN hM
  have HN := Lib.hid hN; clear hN
  have HM := Lib.hid hM; clear hM
  try simp only [trip]
  go_enter Tryz.func58, Tryz.ntmps58
  go_wp2
  generalize hW : World.alloc (World.alloc w _) _ = W0
  have hk0 : Kept w W0 := by rw [← hW]; exact HB.out _ _
  have c := congrArg (fun W => W.heap[w.heap.size]?) hW
  have d := congrArg (fun W => W.heap[w.heap.size + 1]?) hW
  simp only [heap_alloc2_old, heap_alloc2_new] at c d
  replace c := Cells.of_block c.symm
  replace d := Cells.of_block d.symm
  have c0 := c 0 (by simp)
  have c1 := c 1 (by simp)
  have c2 := c 2 (by simp)
  have d0 := d 0 (by simp)
  have d1 := d 1 (by simp)
  have d2 := d 2 (by simp)
  simp only [Nat.add_zero, Nat.zero_add, List.getElem_cons_zero, List.getElem_cons_succ] at c0 d0 c1 d1 c2 d2
  clear c d hW
  replace hh := hk0.cell' hh
  have hS := (show (fun (W : World) => Kept w W ∧ W.cell? ⟨nb, 0, none⟩ = some (.func (.func 25) #[] #[]) ∧ W.cell? ⟨w.heap.size, 0, none⟩ = some (.int .i64 x.1) ∧ W.cell? ⟨w.heap.size, 1, none⟩ = some (.int .i64 x.2.1) ∧ W.cell? ⟨w.heap.size, 2, none⟩ = some (.int .i64 x.2.2) ∧ W.cell? ⟨w.heap.size + 1, 0, none⟩ = some (.int .i64 y.1) ∧ W.cell? ⟨w.heap.size + 1, 1, none⟩ = some (.int .i64 y.2.1) ∧ W.cell? ⟨w.heap.size + 1, 2, none⟩ = some (.int .i64 y.2.2)) _ from ⟨hk0.drew, hh, c0, c1, c2, d0, d1, d2⟩)
  refine wp_region_calm ?_
  refine wp_region_E (fun (W : World) => Kept w W ∧ W.cell? ⟨nb, 0, none⟩ = some (.func (.func 25) #[] #[]) ∧ W.cell? ⟨w.heap.size, 0, none⟩ = some (.int .i64 x.1) ∧ W.cell? ⟨w.heap.size, 1, none⟩ = some (.int .i64 x.2.1) ∧ W.cell? ⟨w.heap.size, 2, none⟩ = some (.int .i64 x.2.2) ∧ W.cell? ⟨w.heap.size + 1, 0, none⟩ = some (.int .i64 y.1) ∧ W.cell? ⟨w.heap.size + 1, 1, none⟩ = some (.int .i64 y.2.1) ∧ W.cell? ⟨w.heap.size + 1, 2, none⟩ = some (.int .i64 y.2.2)) 100 (by kernel_rfl) ?_
  refine wpAnyE_take (i := 0) (v := .func (.func 25) #[] #[]) (listed' := #[true, false, false, false, false, false, false, false]) (by rfl) (by kernel_rfl) (by kernel_rfl) calm_put hS (by rfl) ?_ ?_
  · intro W hW; obtain ⟨hk0, hh, c0, c1, c2, d0, d1, d2⟩ := hW; go_simp; try (with_reducible rfl)
  simp only [Act.put, List.getElem_toArray, List.getElem_cons_succ, List.getElem_cons_zero, List.setIfInBounds_toArray, List.set_cons_zero, List.set_cons_succ]
  refine wpAnyE_take (i := 1) (v := .agg #[.int .i64 x.1, .int .i64 x.2.1, .int .i64 x.2.2]) (listed' := #[true, true, false, false, false, false, false, false]) (by rfl) (by kernel_rfl) (by kernel_rfl) calm_put hS (by rfl) ?_ ?_
  · intro W hW; obtain ⟨hk0, hh, c0, c1, c2, d0, d1, d2⟩ := hW; go_simp; try (with_reducible rfl)
  simp only [Act.put, List.getElem_toArray, List.getElem_cons_succ, List.getElem_cons_zero, List.setIfInBounds_toArray, List.set_cons_zero, List.set_cons_succ]
  refine wpAnyE_take (i := 3) (v := .func (.func 25) #[] #[]) (listed' := #[true, true, false, true, false, false, false, false]) (by rfl) (by kernel_rfl) (by kernel_rfl) calm_put hS (by rfl) ?_ ?_
  · intro W hW; obtain ⟨hk0, hh, c0, c1, c2, d0, d1, d2⟩ := hW; go_simp; try (with_reducible rfl)
  simp only [Act.put, List.getElem_toArray, List.getElem_cons_succ, List.getElem_cons_zero, List.setIfInBounds_toArray, List.set_cons_zero, List.set_cons_succ]
  refine wpAnyE_take (i := 4) (v := .agg #[.int .i64 y.1, .int .i64 y.2.1, .int .i64 y.2.2]) (listed' := #[true, true, false, true, true, false, false, false]) (by rfl) (by kernel_rfl) (by kernel_rfl) calm_put hS (by rfl) ?_ ?_
  · intro W hW; obtain ⟨hk0, hh, c0, c1, c2, d0, d1, d2⟩ := hW; go_simp; try (with_reducible rfl)
  simp only [Act.put, List.getElem_toArray, List.getElem_cons_succ, List.getElem_cons_zero, List.setIfInBounds_toArray, List.set_cons_zero, List.set_cons_succ]
  refine wpAnyE_one (i := 2) (listed' := #[true, true, true, true, true, false, false, false]) (by rfl) (by kernel_rfl) (by kernel_rfl) (by rfl) (fun K hK => ?_)
  simp only [Act.put, List.getElem_toArray, List.getElem_cons_succ, List.getElem_cons_zero, List.setIfInBounds_toArray, List.set_cons_zero, List.set_cons_succ]
  go_wp2_with fail
  first | (refine Calls.mono (HN.out _) ?_; rintro e w' ⟨rfl, hk⟩; obtain ⟨hk0, hh, c0, c1, c2, d0, d1, d2⟩ := hS; have hS : (fun (W : World) => Kept w W ∧ W.cell? ⟨nb, 0, none⟩ = some (.func (.func 25) #[] #[]) ∧ W.cell? ⟨w.heap.size, 0, none⟩ = some (.int .i64 x.1) ∧ W.cell? ⟨w.heap.size, 1, none⟩ = some (.int .i64 x.2.1) ∧ W.cell? ⟨w.heap.size, 2, none⟩ = some (.int .i64 x.2.2) ∧ W.cell? ⟨w.heap.size + 1, 0, none⟩ = some (.int .i64 y.1) ∧ W.cell? ⟨w.heap.size + 1, 1, none⟩ = some (.int .i64 y.2.1) ∧ W.cell? ⟨w.heap.size + 1, 2, none⟩ = some (.int .i64 y.2.2)) _ := ⟨hk0.trans hk, hk.cell' hh, hk.cell' c0, hk.cell' c1, hk.cell' c2, hk.cell' d0, hk.cell' d1, hk.cell' d2⟩; clear hk hk0 hh c0 c1 c2 d0 d1 d2) | (refine Calls.mono (HM.out _) ?_; rintro e w' ⟨rfl, hk⟩; obtain ⟨hk0, hh, c0, c1, c2, d0, d1, d2⟩ := hS; have hS : (fun (W : World) => Kept w W ∧ W.cell? ⟨nb, 0, none⟩ = some (.func (.func 25) #[] #[]) ∧ W.cell? ⟨w.heap.size, 0, none⟩ = some (.int .i64 x.1) ∧ W.cell? ⟨w.heap.size, 1, none⟩ = some (.int .i64 x.2.1) ∧ W.cell? ⟨w.heap.size, 2, none⟩ = some (.int .i64 x.2.2) ∧ W.cell? ⟨w.heap.size + 1, 0, none⟩ = some (.int .i64 y.1) ∧ W.cell? ⟨w.heap.size + 1, 1, none⟩ = some (.int .i64 y.2.1) ∧ W.cell? ⟨w.heap.size + 1, 2, none⟩ = some (.int .i64 y.2.2)) _ := ⟨hk0.trans hk, hk.cell' hh, hk.cell' c0, hk.cell' c1, hk.cell' c2, hk.cell' d0, hk.cell' d1, hk.cell' d2⟩; clear hk hk0 hh c0 c1 c2 d0 d1 d2) | skip
  refine hK _ _ (fun _ => hS) ?_; clear hK K
  refine wpAnyE_one (i := 5) (listed' := #[true, true, true, true, true, true, false, false]) (by rfl) (by kernel_rfl) (by kernel_rfl) (by rfl) (fun K hK => ?_)
  simp only [Act.put, List.getElem_toArray, List.getElem_cons_succ, List.getElem_cons_zero, List.setIfInBounds_toArray, List.set_cons_zero, List.set_cons_succ]
  go_wp2_with fail
  first | (refine Calls.mono (HN.out _) ?_; rintro e w' ⟨rfl, hk⟩; obtain ⟨hk0, hh, c0, c1, c2, d0, d1, d2⟩ := hS; have hS : (fun (W : World) => Kept w W ∧ W.cell? ⟨nb, 0, none⟩ = some (.func (.func 25) #[] #[]) ∧ W.cell? ⟨w.heap.size, 0, none⟩ = some (.int .i64 x.1) ∧ W.cell? ⟨w.heap.size, 1, none⟩ = some (.int .i64 x.2.1) ∧ W.cell? ⟨w.heap.size, 2, none⟩ = some (.int .i64 x.2.2) ∧ W.cell? ⟨w.heap.size + 1, 0, none⟩ = some (.int .i64 y.1) ∧ W.cell? ⟨w.heap.size + 1, 1, none⟩ = some (.int .i64 y.2.1) ∧ W.cell? ⟨w.heap.size + 1, 2, none⟩ = some (.int .i64 y.2.2)) _ := ⟨hk0.trans hk, hk.cell' hh, hk.cell' c0, hk.cell' c1, hk.cell' c2, hk.cell' d0, hk.cell' d1, hk.cell' d2⟩; clear hk hk0 hh c0 c1 c2 d0 d1 d2) | (refine Calls.mono (HM.out _) ?_; rintro e w' ⟨rfl, hk⟩; obtain ⟨hk0, hh, c0, c1, c2, d0, d1, d2⟩ := hS; have hS : (fun (W : World) => Kept w W ∧ W.cell? ⟨nb, 0, none⟩ = some (.func (.func 25) #[] #[]) ∧ W.cell? ⟨w.heap.size, 0, none⟩ = some (.int .i64 x.1) ∧ W.cell? ⟨w.heap.size, 1, none⟩ = some (.int .i64 x.2.1) ∧ W.cell? ⟨w.heap.size, 2, none⟩ = some (.int .i64 x.2.2) ∧ W.cell? ⟨w.heap.size + 1, 0, none⟩ = some (.int .i64 y.1) ∧ W.cell? ⟨w.heap.size + 1, 1, none⟩ = some (.int .i64 y.2.1) ∧ W.cell? ⟨w.heap.size + 1, 2, none⟩ = some (.int .i64 y.2.2)) _ := ⟨hk0.trans hk, hk.cell' hh, hk.cell' c0, hk.cell' c1, hk.cell' c2, hk.cell' d0, hk.cell' d1, hk.cell' d2⟩; clear hk hk0 hh c0 c1 c2 d0 d1 d2) | skip
  refine hK _ _ (fun _ => hS) ?_; clear hK K
  refine wpAnyE_take (i := 6) (v := ?_) (listed' := #[true, true, true, true, true, true, true, false]) (by rfl) (by kernel_rfl) (by kernel_rfl) calm_put hS (by rfl) ?_ ?_
  rotate_left
  · intro W hW; clear hW; go_simp; try (with_reducible rfl)
  simp only [Act.put, List.getElem_toArray, List.getElem_cons_succ, List.getElem_cons_zero, List.setIfInBounds_toArray, List.set_cons_zero, List.set_cons_succ]
  refine wpAnyE_one (i := 7) (listed' := #[true, true, true, true, true, true, true, true]) (by rfl) (by kernel_rfl) (by kernel_rfl) (by rfl) (fun K hK => ?_)
  simp only [Act.put, List.getElem_toArray, List.getElem_cons_succ, List.getElem_cons_zero, List.setIfInBounds_toArray, List.set_cons_zero, List.set_cons_succ]
  go_wp2_with fail
  first | (refine Calls.mono (HN.out _) ?_; rintro e w' ⟨rfl, hk⟩; obtain ⟨hk0, hh, c0, c1, c2, d0, d1, d2⟩ := hS; have hS : (fun (W : World) => Kept w W ∧ W.cell? ⟨nb, 0, none⟩ = some (.func (.func 25) #[] #[]) ∧ W.cell? ⟨w.heap.size, 0, none⟩ = some (.int .i64 x.1) ∧ W.cell? ⟨w.heap.size, 1, none⟩ = some (.int .i64 x.2.1) ∧ W.cell? ⟨w.heap.size, 2, none⟩ = some (.int .i64 x.2.2) ∧ W.cell? ⟨w.heap.size + 1, 0, none⟩ = some (.int .i64 y.1) ∧ W.cell? ⟨w.heap.size + 1, 1, none⟩ = some (.int .i64 y.2.1) ∧ W.cell? ⟨w.heap.size + 1, 2, none⟩ = some (.int .i64 y.2.2)) _ := ⟨hk0.trans hk, hk.cell' hh, hk.cell' c0, hk.cell' c1, hk.cell' c2, hk.cell' d0, hk.cell' d1, hk.cell' d2⟩; clear hk hk0 hh c0 c1 c2 d0 d1 d2) | (refine Calls.mono (HM.out _) ?_; rintro e w' ⟨rfl, hk⟩; obtain ⟨hk0, hh, c0, c1, c2, d0, d1, d2⟩ := hS; have hS : (fun (W : World) => Kept w W ∧ W.cell? ⟨nb, 0, none⟩ = some (.func (.func 25) #[] #[]) ∧ W.cell? ⟨w.heap.size, 0, none⟩ = some (.int .i64 x.1) ∧ W.cell? ⟨w.heap.size, 1, none⟩ = some (.int .i64 x.2.1) ∧ W.cell? ⟨w.heap.size, 2, none⟩ = some (.int .i64 x.2.2) ∧ W.cell? ⟨w.heap.size + 1, 0, none⟩ = some (.int .i64 y.1) ∧ W.cell? ⟨w.heap.size + 1, 1, none⟩ = some (.int .i64 y.2.1) ∧ W.cell? ⟨w.heap.size + 1, 2, none⟩ = some (.int .i64 y.2.2)) _ := ⟨hk0.trans hk, hk.cell' hh, hk.cell' c0, hk.cell' c1, hk.cell' c2, hk.cell' d0, hk.cell' d1, hk.cell' d2⟩; clear hk hk0 hh c0 c1 c2 d0 d1 d2) | skip
  refine hK _ _ (fun _ => hS) ?_; clear hK K
  refine wpAnyE_done (by kernel_rfl) ?_ _
  refine calm_normal ?_
  obtain ⟨hk0, hh, c0, c1, c2, d0, d1, d2⟩ := hS
  go_wp2
  go_ret
  exact ⟨rfl, hk0⟩
theorem srt_m (l : List Mb) (nb : Nat) (v : Value) (w : World) (hlen : l.length ≤ 4096) (hm : RSl trip 3 w v l) (hh : w.cell? ⟨nb, 0, none⟩ = some (.func (.func 25) #[] #[])) :
    Calls Tryz.prog 54 #[v, .func (.func 55) #[] #[.pointer (some ⟨nb, 0, none⟩)]] w fun e w' => e = .returned (.bool (sortedB (l.map fun x => x.1))) ∧ Kept w w' := by
  obtain ⟨oa, cap, rfl, hcap⟩ := hm.form
  have HM := Lib.hid hm; clear hm
  have hC := fun (x y : Mb) (W : World) (hk : Kept w W) => ris1_m x y nb W (hk.cell' hh)
  have HCC := Lib.hid hC; clear hC hh
  go_enter Tryz.func54, Tryz.ntmps54
  go_wp2
  go_loopw [5] (fun i wr => ∃ k : Nat, (k < l.length ∧ i = .int .i64 k ∨ l.length = 0 ∧ i = .int .i64 (-1)) ∧ Kept w wr ∧ ∀ j (h : j + 1 < l.length), k < j + 1 → l[j].1 ≤ l[j + 1].1) (fun i _ => (intOf i + 1).toNat)
  case atStart =>
    rcases Nat.eq_zero_or_pos l.length with h | h
    · exact ⟨0, .inr ⟨h, by rw [h]; rfl⟩, Kept.refl _, fun _ _ h => by omega⟩
    · exact ⟨l.length - 1, .inl ⟨by omega, by congr 1; omega⟩, Kept.refl _, fun _ _ h => by omega⟩
  case round =>
    obtain ⟨k, hk, hbel, hno⟩ := hrel
    have HN := Lib.hid hno; clear hno
    rcases hk with ⟨hk, rfl⟩ | ⟨hl0, rfl⟩
    · rcases Nat.eq_zero_or_pos k with rfl | hk0
      · go_wp2
        go_ret
        exact ⟨by rw [(sortedB_iff _).2 (by intro j h; simp only [List.getElem_map]; simp only [List.length_map] at h; exact HN.out j h (by omega))]; rfl, hbel⟩
      obtain ⟨q, rfl⟩ : ∃ q, k = q + 1 := ⟨k - 1, by omega⟩
      clear hk0
      obtain ⟨b, off, rfl, hb, hcs⟩ := HM.out.at hk
      obtain ⟨b', off', he, hb', hds⟩ := HM.out.at (show q < l.length by omega)
      cases he
      replace hcs := Cells.kept hcs hbel
      replace hds := Cells.kept hds hbel
      have c0 := hcs 0 (by rw [trip_len]; decide)
      have d0 := hds 0 (by rw [trip_len]; decide)
      have c1 := hcs 1 (by rw [trip_len]; decide)
      have d1 := hds 1 (by rw [trip_len]; decide)
      have c2 := hcs 2 (by rw [trip_len]; decide)
      have d2 := hds 2 (by rw [trip_len]; decide)
      simp only [Nat.add_zero, trip, List.getElem_cons_zero, List.getElem_cons_succ] at c0 c1 c2 d0 d1 d2
      clear hcs hds hb'
      have hC := HCC.out l[q + 1] l[q]
      try simp only [trip] at hC
      have HC := Lib.hid hC; clear hC
      have hltl : q < l.length := by omega
      have hwr : IntKind.i64.wrap (q : Int) = (q : Int) := IntWalk.i64_in _ (by omega)
      have hix1 : (0 : Int) ≤ (q : Int) + 1 := by omega
      have hix2 : (q : Int) + 1 < (l.length : Int) := by omega
      have hix3 : (0 : Int) ≤ (q : Int) := by omega
      have hix4 : (q : Int) < (l.length : Int) := by omega
      go_upto_region 4 with fail
      have hS := (show (fun (W : World) => W.cell? ⟨b, off + (q + 1) * 3, none⟩ = some (.int .i64 l[(q + 1)].1) ∧ W.cell? ⟨b, off + (q + 1) * 3 + 1, none⟩ = some (.int .i64 l[(q + 1)].2.1) ∧ W.cell? ⟨b, off + (q + 1) * 3 + 2, none⟩ = some (.int .i64 l[(q + 1)].2.2) ∧ W.cell? ⟨b, off + q * 3, none⟩ = some (.int .i64 l[q].1) ∧ W.cell? ⟨b, off + q * 3 + 1, none⟩ = some (.int .i64 l[q].2.1) ∧ W.cell? ⟨b, off + q * 3 + 2, none⟩ = some (.int .i64 l[q].2.2)) _ from ⟨c0, c1, c2, d0, d1, d2⟩)
      refine wp_region_calm ?_
      refine wp_region_E (fun (W : World) => W.cell? ⟨b, off + (q + 1) * 3, none⟩ = some (.int .i64 l[(q + 1)].1) ∧ W.cell? ⟨b, off + (q + 1) * 3 + 1, none⟩ = some (.int .i64 l[(q + 1)].2.1) ∧ W.cell? ⟨b, off + (q + 1) * 3 + 2, none⟩ = some (.int .i64 l[(q + 1)].2.2) ∧ W.cell? ⟨b, off + q * 3, none⟩ = some (.int .i64 l[q].1) ∧ W.cell? ⟨b, off + q * 3 + 1, none⟩ = some (.int .i64 l[q].2.1) ∧ W.cell? ⟨b, off + q * 3 + 2, none⟩ = some (.int .i64 l[q].2.2)) 100 (by kernel_rfl) ?_
      refine wpAnyE_take (i := 0) (v := ?_) (listed' := #[true, false, false, false, false, false, false, false, false, false, false, false]) (by rfl) (by kernel_rfl) (by kernel_rfl) calm_put hS (by rfl) ?_ ?_
      rotate_left
      · intro W hW; clear hW; go_simp; try (with_reducible rfl)
      simp only [Act.put, List.getElem_toArray, List.getElem_cons_succ, List.getElem_cons_zero, List.setIfInBounds_toArray, List.set_cons_zero, List.set_cons_succ]
      refine wpAnyE_take (i := 1) (v := ?_) (listed' := #[true, true, false, false, false, false, false, false, false, false, false, false]) (by rfl) (by kernel_rfl) (by kernel_rfl) calm_put hS (by rfl) ?_ ?_
      rotate_left
      · intro W hW; clear hW; go_simp; try (with_reducible rfl)
      simp only [Act.put, List.getElem_toArray, List.getElem_cons_succ, List.getElem_cons_zero, List.setIfInBounds_toArray, List.set_cons_zero, List.set_cons_succ]
      refine wpAnyE_take (i := 2) (v := ?_) (listed' := #[true, true, true, false, false, false, false, false, false, false, false, false]) (by rfl) (by kernel_rfl) (by kernel_rfl) calm_put hS (by rfl) ?_ ?_
      rotate_left
      · intro W hW; clear hW; go_simp; try (with_reducible rfl)
      simp only [Act.put, List.getElem_toArray, List.getElem_cons_succ, List.getElem_cons_zero, List.setIfInBounds_toArray, List.set_cons_zero, List.set_cons_succ]
      refine wpAnyE_take (i := 3) (v := .pointer (some ⟨b, off + (q + 1) * 3, none⟩)) (listed' := #[true, true, true, true, false, false, false, false, false, false, false, false]) (by rfl) (by kernel_rfl) (by kernel_rfl) calm_put hS (by rfl) ?_ ?_
      · intro W hW; clear hW; go_simp; try (with_reducible rfl)
      simp only [Act.put, List.getElem_toArray, List.getElem_cons_succ, List.getElem_cons_zero, List.setIfInBounds_toArray, List.set_cons_zero, List.set_cons_succ]
      refine wpAnyE_take (i := 4) (v := .agg #[.int .i64 l[q + 1].1, .int .i64 l[q + 1].2.1, .int .i64 l[q + 1].2.2]) (listed' := #[true, true, true, true, true, false, false, false, false, false, false, false]) (by rfl) (by kernel_rfl) (by kernel_rfl) calm_put hS (by rfl) ?_ ?_
      · intro W hW; obtain ⟨c0, c1, c2, d0, d1, d2⟩ := hW; go_simp; try (with_reducible rfl)
      simp only [Act.put, List.getElem_toArray, List.getElem_cons_succ, List.getElem_cons_zero, List.setIfInBounds_toArray, List.set_cons_zero, List.set_cons_succ]
      refine wpAnyE_take (i := 5) (v := ?_) (listed' := #[true, true, true, true, true, true, false, false, false, false, false, false]) (by rfl) (by kernel_rfl) (by kernel_rfl) calm_put hS (by rfl) ?_ ?_
      rotate_left
      · intro W hW; clear hW; go_simp; try (with_reducible rfl)
      simp only [Act.put, List.getElem_toArray, List.getElem_cons_succ, List.getElem_cons_zero, List.setIfInBounds_toArray, List.set_cons_zero, List.set_cons_succ]
      refine wpAnyE_take (i := 6) (v := ?_) (listed' := #[true, true, true, true, true, true, true, false, false, false, false, false]) (by rfl) (by kernel_rfl) (by kernel_rfl) calm_put hS (by rfl) ?_ ?_
      rotate_left
      · intro W hW; clear hW; go_simp; try (with_reducible rfl)
      simp only [Act.put, List.getElem_toArray, List.getElem_cons_succ, List.getElem_cons_zero, List.setIfInBounds_toArray, List.set_cons_zero, List.set_cons_succ]
      refine wpAnyE_take (i := 7) (v := .int .i64 (q : Int)) (listed' := #[true, true, true, true, true, true, true, true, false, false, false, false]) (by rfl) (by kernel_rfl) (by kernel_rfl) calm_put hS (by rfl) ?_ ?_
      · intro W hW; clear hW; go_simp; try (with_reducible rfl)
      simp only [Act.put, List.getElem_toArray, List.getElem_cons_succ, List.getElem_cons_zero, List.setIfInBounds_toArray, List.set_cons_zero, List.set_cons_succ]
      refine wpAnyE_take (i := 8) (v := .pointer (some ⟨b, off + q * 3, none⟩)) (listed' := #[true, true, true, true, true, true, true, true, true, false, false, false]) (by rfl) (by kernel_rfl) (by kernel_rfl) calm_put hS (by rfl) ?_ ?_
      · intro W hW; clear hW; go_simp; try (with_reducible rfl)
      simp only [Act.put, List.getElem_toArray, List.getElem_cons_succ, List.getElem_cons_zero, List.setIfInBounds_toArray, List.set_cons_zero, List.set_cons_succ]
      refine wpAnyE_take (i := 9) (v := .agg #[.int .i64 l[q].1, .int .i64 l[q].2.1, .int .i64 l[q].2.2]) (listed' := #[true, true, true, true, true, true, true, true, true, true, false, false]) (by rfl) (by kernel_rfl) (by kernel_rfl) calm_put hS (by rfl) ?_ ?_
      · intro W hW; obtain ⟨c0, c1, c2, d0, d1, d2⟩ := hW; go_simp; try (with_reducible rfl)
      simp only [Act.put, List.getElem_toArray, List.getElem_cons_succ, List.getElem_cons_zero, List.setIfInBounds_toArray, List.set_cons_zero, List.set_cons_succ]
      refine wpAnyE_one (i := 10) (listed' := #[true, true, true, true, true, true, true, true, true, true, true, false]) (by rfl) (by kernel_rfl) (by kernel_rfl) (by rfl) (fun K hK => ?_)
      simp only [Act.put, List.getElem_toArray, List.getElem_cons_succ, List.getElem_cons_zero, List.setIfInBounds_toArray, List.set_cons_zero, List.set_cons_succ]
      go_wp2_with fail
      first | (refine Calls.mono (HC.out _ (hbel.drew)) ?_; rintro e w' ⟨rfl, hk⟩; obtain ⟨c0, c1, c2, d0, d1, d2⟩ := hS; have hS : (fun (W : World) => W.cell? ⟨b, off + (q + 1) * 3, none⟩ = some (.int .i64 l[(q + 1)].1) ∧ W.cell? ⟨b, off + (q + 1) * 3 + 1, none⟩ = some (.int .i64 l[(q + 1)].2.1) ∧ W.cell? ⟨b, off + (q + 1) * 3 + 2, none⟩ = some (.int .i64 l[(q + 1)].2.2) ∧ W.cell? ⟨b, off + q * 3, none⟩ = some (.int .i64 l[q].1) ∧ W.cell? ⟨b, off + q * 3 + 1, none⟩ = some (.int .i64 l[q].2.1) ∧ W.cell? ⟨b, off + q * 3 + 2, none⟩ = some (.int .i64 l[q].2.2)) _ := ⟨hk.cell' c0, hk.cell' c1, hk.cell' c2, hk.cell' d0, hk.cell' d1, hk.cell' d2⟩; have hb1 := hbel.drew.trans hk; clear hk c0 c1 c2 d0 d1 d2) | skip
      refine hK _ _ (fun _ => hS) ?_; clear hK K
      refine wpAnyE_take (i := 11) (v := ?_) (listed' := #[true, true, true, true, true, true, true, true, true, true, true, true]) (by rfl) (by kernel_rfl) (by kernel_rfl) calm_put hS (by rfl) ?_ ?_
      rotate_left
      · intro W hW; clear hW; go_simp; try (with_reducible rfl)
      simp only [Act.put, List.getElem_toArray, List.getElem_cons_succ, List.getElem_cons_zero, List.setIfInBounds_toArray, List.set_cons_zero, List.set_cons_succ]
      refine wpAnyE_done (by kernel_rfl) ?_ _
      refine calm_normal ?_
      clear hS hix1 hix2 hix3 hix4 hwr HC HM HCC
      by_cases hab : l[q + 1].1 < l[q].1
      · rw [show cmpI l[q + 1].1 l[q].1 = -1 by unfold cmpI; split <;> (try split) <;> omega]
        have hsf : sortedB (l.map fun x => x.1) = false := by
          cases hs : sortedB (l.map fun x => x.1) with
          | false => rfl
          | true =>
            have := (sortedB_iff _).1 hs q (by simpa using hk)
            simp only [List.getElem_map] at this
            omega
        have HSF := Lib.hid hsf; clear hsf hab
        go_wp2
        go_ret
        exact ⟨by rw [HSF.out]; rfl, hb1⟩
      rcases (show cmpI l[q + 1].1 l[q].1 = 0 ∨ cmpI l[q + 1].1 l[q].1 = 1 by unfold cmpI; split <;> (try split) <;> omega) with hv | hv
      · rw [hv]; clear hv
        go_wp2
        go_roundw
        case rel => exact ⟨q, .inl ⟨hltl, by go_num⟩, hb1, fun j h hj => by
          rcases Nat.lt_or_ge (q + 1) (j + 1) with h' | h'
          · exact HN.out j h h'
          · obtain rfl : j = q := by omega
            omega⟩
        case measure => simp [intOf]; try omega
      · rw [hv]; clear hv
        go_wp2
        go_roundw
        case rel => exact ⟨q, .inl ⟨hltl, by go_num⟩, hb1, fun j h hj => by
          rcases Nat.lt_or_ge (q + 1) (j + 1) with h' | h'
          · exact HN.out j h h'
          · obtain rfl : j = q := by omega
            omega⟩
        case measure => simp [intOf]; try omega
    · go_wp2
      go_ret
      exact ⟨by rw [List.eq_nil_of_length_eq_zero hl0]; rfl, hbel⟩
end Go.Proofs.YtiijfocdjcjlaaaGreat
/- slices.CompactFunc with rises's second closure at []braidwork/api.Member (gen_cmf.py m). -/
namespace Go.Proofs.YtiijfocdjcjlaaaGreat
open Go.RowKit
set_option linter.unusedVariables false
set_option linter.unusedSimpArgs false
set_option maxRecDepth 100000
set_option maxHeartbeats 1000000
theorem agT_m : AggT Tryz.prog 56 3 := ⟨⟨_, Tryz.underlying56, rfl⟩, by kernel_rfl⟩
theorem agS_m : (Tryz.prog.info? 56).map (·.size) = some 3 := by kernel_rfl
theorem zero_m (w : World) : (zeroValue 56).run Tryz.prog w = .ok (.agg #[.int .i64 0, .int .i64 0, .int .i64 0]) w := by kernel_rfl
theorem cmf_m (l : List Mb) (nb g cap : Nat) (junk : List Value) (w : World) (hlen : l.length ≤ 4096) (hcap : l.length ≤ cap) (hmax : cap ≤ maxLen) (hj : l.length * 3 + junk.length = cap * 3) (hb : RBlk trip w g 56 l junk) (hnb : nb ≠ g) (hh : w.cell? ⟨nb, 0, none⟩ = some (.func (.func 25) #[] #[])) (h2 : 2 ≤ l.length) (h1 : ∀ x ∈ l, ∀ u ∈ trip x, u.oneCell' = true) :
    Calls Tryz.prog 57 #[.slice (some ⟨g, 0, none⟩) l.length cap, .func (.func 58) #[] #[.pointer (some ⟨nb, 0, none⟩)]] w fun e w' => ∃ m, e = .returned (.slice (some ⟨g, 0, none⟩) m cap) ∧ (decide (m = l.length) = apartB (l.map fun x => x.1)) ∧ But (fun k => k = g) w w' := by
  have HB := Lib.hid hb; clear hb
  have H1 := Lib.hid h1; clear h1
  unfold maxLen at hmax
  have hC := fun (x y : Mb) (W : World) (hk : But (fun k => k = g) w W) => ris2_m x y nb W (hk.cell (by exact hnb) hh)
  have HCC := Lib.hid hC; clear hC hh
  go_enter Tryz.func57, Tryz.ntmps57
  go_wp2
  go_loopw [5] (fun i wr => ∃ k : Nat, k < l.length ∧ i = .int .i64 ((k + 1 : Nat) : Int) ∧ Kept w wr ∧ ∀ j (h : j + 1 < l.length), j < k → l[j].1 ≠ l[j + 1].1) (fun i _ => (l.length - (intOf i).toNat))
  case atStart => exact ⟨0, by omega, rfl, Kept.refl _, fun _ _ h => by omega⟩
  case round =>
    obtain ⟨q, hk, rfl, hbel, hno⟩ := hrel
    have HN := Lib.hid hno; clear hno
    by_cases hlt : q + 1 < l.length
    · have hcs := Cells.kept (HB.out.cells trip_len hlt) hbel
      have hds := Cells.kept (HB.out.cells trip_len (show q < l.length by omega)) hbel
      have c0 := hcs 0 (by rw [trip_len]; decide)
      have c1 := hcs 1 (by rw [trip_len]; decide)
      have c2 := hcs 2 (by rw [trip_len]; decide)
      have d0 := hds 0 (by rw [trip_len]; decide)
      have d1 := hds 1 (by rw [trip_len]; decide)
      have d2 := hds 2 (by rw [trip_len]; decide)
      simp only [Nat.add_zero, trip, List.getElem_cons_zero, List.getElem_cons_succ] at c0 c1 c2 d0 d1 d2
      clear hcs hds
      have hC := fun (W : World) (hk : Kept w W) => HCC.out l[q + 1] l[q] W (But.kept hk)
      try simp only [trip] at hC
      have HC := Lib.hid hC; clear hC
      have hwr : IntKind.i64.wrap (q : Int) = (q : Int) := IntWalk.i64_in _ (by omega)
      have hix1 : (0 : Int) ≤ (q : Int) + 1 := by omega
      have hix2 : (q : Int) + 1 < (l.length : Int) := by omega
      have hix3 : (0 : Int) ≤ (q : Int) := by omega
      have hix4 : (q : Int) < (l.length : Int) := by omega
      go_upto_region 6 with fail
      have hS := (show (fun (W : World) => W.cell? ⟨g, (q + 1) * 3, none⟩ = some (.int .i64 l[q + 1].1) ∧ W.cell? ⟨g, (q + 1) * 3 + 1, none⟩ = some (.int .i64 l[q + 1].2.1) ∧ W.cell? ⟨g, (q + 1) * 3 + 2, none⟩ = some (.int .i64 l[q + 1].2.2) ∧ W.cell? ⟨g, q * 3, none⟩ = some (.int .i64 l[q].1) ∧ W.cell? ⟨g, q * 3 + 1, none⟩ = some (.int .i64 l[q].2.1) ∧ W.cell? ⟨g, q * 3 + 2, none⟩ = some (.int .i64 l[q].2.2)) _ from ⟨c0, c1, c2, d0, d1, d2⟩)
      refine wp_region_calm ?_
      refine wp_region_E (fun (W : World) => W.cell? ⟨g, (q + 1) * 3, none⟩ = some (.int .i64 l[q + 1].1) ∧ W.cell? ⟨g, (q + 1) * 3 + 1, none⟩ = some (.int .i64 l[q + 1].2.1) ∧ W.cell? ⟨g, (q + 1) * 3 + 2, none⟩ = some (.int .i64 l[q + 1].2.2) ∧ W.cell? ⟨g, q * 3, none⟩ = some (.int .i64 l[q].1) ∧ W.cell? ⟨g, q * 3 + 1, none⟩ = some (.int .i64 l[q].2.1) ∧ W.cell? ⟨g, q * 3 + 2, none⟩ = some (.int .i64 l[q].2.2)) 100 (by kernel_rfl) ?_
      refine wpAnyE_take (i := 0) (v := ?_) (listed' := #[true, false, false, false, false, false, false, false, false, false, false]) (by rfl) (by kernel_rfl) (by kernel_rfl) calm_put hS (by rfl) ?_ ?_
      rotate_left
      · intro W hW; clear hW; go_simp; try (with_reducible rfl)
      simp only [Act.put, List.getElem_toArray, List.getElem_cons_succ, List.getElem_cons_zero, List.setIfInBounds_toArray, List.set_cons_zero, List.set_cons_succ]
      refine wpAnyE_take (i := 1) (v := ?_) (listed' := #[true, true, false, false, false, false, false, false, false, false, false]) (by rfl) (by kernel_rfl) (by kernel_rfl) calm_put hS (by rfl) ?_ ?_
      rotate_left
      · intro W hW; clear hW; go_simp; try (with_reducible rfl)
      simp only [Act.put, List.getElem_toArray, List.getElem_cons_succ, List.getElem_cons_zero, List.setIfInBounds_toArray, List.set_cons_zero, List.set_cons_succ]
      refine wpAnyE_take (i := 2) (v := ?_) (listed' := #[true, true, true, false, false, false, false, false, false, false, false]) (by rfl) (by kernel_rfl) (by kernel_rfl) calm_put hS (by rfl) ?_ ?_
      rotate_left
      · intro W hW; clear hW; go_simp; try (with_reducible rfl)
      simp only [Act.put, List.getElem_toArray, List.getElem_cons_succ, List.getElem_cons_zero, List.setIfInBounds_toArray, List.set_cons_zero, List.set_cons_succ]
      refine wpAnyE_take (i := 3) (v := .pointer (some ⟨g, (q + 1) * 3, none⟩)) (listed' := #[true, true, true, true, false, false, false, false, false, false, false]) (by rfl) (by kernel_rfl) (by kernel_rfl) calm_put hS (by rfl) ?_ ?_
      · intro W hW; clear hW; go_simp; try (with_reducible rfl)
      simp only [Act.put, List.getElem_toArray, List.getElem_cons_succ, List.getElem_cons_zero, List.setIfInBounds_toArray, List.set_cons_zero, List.set_cons_succ]
      refine wpAnyE_take (i := 4) (v := .agg #[.int .i64 l[q + 1].1, .int .i64 l[q + 1].2.1, .int .i64 l[q + 1].2.2]) (listed' := #[true, true, true, true, true, false, false, false, false, false, false]) (by rfl) (by kernel_rfl) (by kernel_rfl) calm_put hS (by rfl) ?_ ?_
      · intro W hW; obtain ⟨c0, c1, c2, d0, d1, d2⟩ := hW; go_simp; try (with_reducible rfl)
      simp only [Act.put, List.getElem_toArray, List.getElem_cons_succ, List.getElem_cons_zero, List.setIfInBounds_toArray, List.set_cons_zero, List.set_cons_succ]
      refine wpAnyE_take (i := 5) (v := ?_) (listed' := #[true, true, true, true, true, true, false, false, false, false, false]) (by rfl) (by kernel_rfl) (by kernel_rfl) calm_put hS (by rfl) ?_ ?_
      rotate_left
      · intro W hW; clear hW; go_simp; try (with_reducible rfl)
      simp only [Act.put, List.getElem_toArray, List.getElem_cons_succ, List.getElem_cons_zero, List.setIfInBounds_toArray, List.set_cons_zero, List.set_cons_succ]
      refine wpAnyE_take (i := 6) (v := ?_) (listed' := #[true, true, true, true, true, true, true, false, false, false, false]) (by rfl) (by kernel_rfl) (by kernel_rfl) calm_put hS (by rfl) ?_ ?_
      rotate_left
      · intro W hW; clear hW; go_simp; try (with_reducible rfl)
      simp only [Act.put, List.getElem_toArray, List.getElem_cons_succ, List.getElem_cons_zero, List.setIfInBounds_toArray, List.set_cons_zero, List.set_cons_succ]
      refine wpAnyE_take (i := 7) (v := .int .i64 (q : Int)) (listed' := #[true, true, true, true, true, true, true, true, false, false, false]) (by rfl) (by kernel_rfl) (by kernel_rfl) calm_put hS (by rfl) ?_ ?_
      · intro W hW; clear hW; go_simp; try (with_reducible rfl)
      simp only [Act.put, List.getElem_toArray, List.getElem_cons_succ, List.getElem_cons_zero, List.setIfInBounds_toArray, List.set_cons_zero, List.set_cons_succ]
      refine wpAnyE_take (i := 8) (v := .pointer (some ⟨g, q * 3, none⟩)) (listed' := #[true, true, true, true, true, true, true, true, true, false, false]) (by rfl) (by kernel_rfl) (by kernel_rfl) calm_put hS (by rfl) ?_ ?_
      · intro W hW; clear hW; go_simp; try (with_reducible rfl)
      simp only [Act.put, List.getElem_toArray, List.getElem_cons_succ, List.getElem_cons_zero, List.setIfInBounds_toArray, List.set_cons_zero, List.set_cons_succ]
      refine wpAnyE_take (i := 9) (v := .agg #[.int .i64 l[q].1, .int .i64 l[q].2.1, .int .i64 l[q].2.2]) (listed' := #[true, true, true, true, true, true, true, true, true, true, false]) (by rfl) (by kernel_rfl) (by kernel_rfl) calm_put hS (by rfl) ?_ ?_
      · intro W hW; obtain ⟨c0, c1, c2, d0, d1, d2⟩ := hW; go_simp; try (with_reducible rfl)
      simp only [Act.put, List.getElem_toArray, List.getElem_cons_succ, List.getElem_cons_zero, List.setIfInBounds_toArray, List.set_cons_zero, List.set_cons_succ]
      refine wpAnyE_one (i := 10) (listed' := #[true, true, true, true, true, true, true, true, true, true, true]) (by rfl) (by kernel_rfl) (by kernel_rfl) (by rfl) (fun K hK => ?_)
      simp only [Act.put, List.getElem_toArray, List.getElem_cons_succ, List.getElem_cons_zero, List.setIfInBounds_toArray, List.set_cons_zero, List.set_cons_succ]
      go_wp2_with fail
      first | (refine Calls.mono (HC.out _ (hbel.drew)) ?_; rintro e w' ⟨rfl, hk⟩; obtain ⟨c0, c1, c2, d0, d1, d2⟩ := hS; have hS : (fun (W : World) => W.cell? ⟨g, (q + 1) * 3, none⟩ = some (.int .i64 l[q + 1].1) ∧ W.cell? ⟨g, (q + 1) * 3 + 1, none⟩ = some (.int .i64 l[q + 1].2.1) ∧ W.cell? ⟨g, (q + 1) * 3 + 2, none⟩ = some (.int .i64 l[q + 1].2.2) ∧ W.cell? ⟨g, q * 3, none⟩ = some (.int .i64 l[q].1) ∧ W.cell? ⟨g, q * 3 + 1, none⟩ = some (.int .i64 l[q].2.1) ∧ W.cell? ⟨g, q * 3 + 2, none⟩ = some (.int .i64 l[q].2.2)) _ := ⟨hk.cell' c0, hk.cell' c1, hk.cell' c2, hk.cell' d0, hk.cell' d1, hk.cell' d2⟩; clear c0 c1 c2 d0 d1 d2) | skip
      refine hK _ _ (fun _ => hS) ?_; clear hK K
      refine wpAnyE_done (by kernel_rfl) ?_ _
      refine calm_normal ?_
      have hb1 := hbel.drew.trans hk
      clear hS hk hix1 hix2 hix3 hix4 hwr HC hbel
      cases heq : (l[q + 1].1 == l[q].1) with
      | false =>
        have HE := Lib.hid heq; clear heq
        go_wp2
        go_roundw
        case rel => exact ⟨q + 1, hlt, by go_num, hb1, fun j h hj => by
          rcases Nat.lt_or_ge j q with h' | h'
          · exact HN.out j h h'
          · obtain rfl : j = q := by omega
            have := HE.out; simp at this; exact fun e => this e.symm⟩
        case measure => simp [intOf]; omega
      | true =>
        have HE := Lib.hid heq; clear heq
        go_wp2
        have hr0 : RBlk trip w' g 56 l junk := hb1.block HB.out
        have HR0 := Lib.hid hr0; clear hr0
        clear c0 c1 c2 d0 d1 d2
        obtain ⟨m2, hm2⟩ : ∃ m2, m2 = l.length - (q + 1) := ⟨_, rfl⟩
        obtain ⟨cp2, hc2⟩ : ∃ cp2, cp2 = cap - (q + 1) := ⟨_, rfl⟩
        rw [← hm2, ← hc2]
        have HM2 := Lib.hid hm2; have HC2 := Lib.hid hc2; clear hm2 hc2
        go_loopw [5, 7] (fun i j wr => ∃ (ki p : Nat) (L : List Mb), i = .int .i64 (ki : Int) ∧ j = .int .i64 ((p + 1 : Nat) : Int) ∧ q + 1 ≤ ki ∧ ki ≤ q + 1 + p ∧ q + 1 + p < l.length ∧ L.length = l.length ∧ (∀ x ∈ L, ∀ u ∈ trip x, u.oneCell' = true) ∧ RBlk trip wr g 56 L junk ∧ But (fun k => k = g) w wr) (fun _ j _ => l.length - (intOf j).toNat)
        case atStart => exact ⟨q + 1, 0, l, by go_num, by go_num, by omega, by omega, by omega, rfl, H1.out, HR0.out, But.kept hb1⟩
        case round =>
          obtain ⟨ki, p, L, rfl, rfl, hk1, hk2, hpl, hL, hO, hR, hbt⟩ := hrel
          have HL := Lib.hid hL; clear hL
          have HO := Lib.hid hO; clear hO
          have HR := Lib.hid hR; clear hR
          by_cases hlt2 : p + 1 < m2
          · have hl1 : q + 1 + (p + 1) < L.length := by rw [HL.out]; have := HM2.out; omega
            have hl2 : q + 1 + p < L.length := by omega
            have hcs := HR.out.cells trip_len hl1
            have hds := HR.out.cells trip_len hl2
            rw [show (q + 1 + (p + 1)) * 3 = (q + 1) * 3 + (p + 1) * 3 by omega] at hcs
            rw [show (q + 1 + p) * 3 = (q + 1) * 3 + p * 3 by omega] at hds
            have c0 := hcs 0 (by rw [trip_len]; decide)
            have c1 := hcs 1 (by rw [trip_len]; decide)
            have c2 := hcs 2 (by rw [trip_len]; decide)
            have d0 := hds 0 (by rw [trip_len]; decide)
            have d1 := hds 1 (by rw [trip_len]; decide)
            have d2 := hds 2 (by rw [trip_len]; decide)
            simp only [Nat.add_zero, trip, List.getElem_cons_zero, List.getElem_cons_succ] at c0 c1 c2 d0 d1 d2
            clear hcs hds
            have hC := fun (W : World) (hk : But (fun k => k = g) w W) => HCC.out L[q + 1 + (p + 1)] L[q + 1 + p] W hk
            try simp only [trip] at hC
            have HC := Lib.hid hC; clear hC
            have hwr : IntKind.i64.wrap (p : Int) = (p : Int) := IntWalk.i64_in _ (by omega)
            have hix1 : (0 : Int) ≤ (p : Int) + 1 := by omega
            have hix2 : (p : Int) + 1 < (m2 : Int) := by omega
            have hix3 : (0 : Int) ≤ (p : Int) := by omega
            have hix4 : (p : Int) < (m2 : Int) := by omega
            have hbt2 := hbt
            go_upto_region 11 with fail
            have hS := (show (fun (W : World) => W.cell? ⟨g, (q + 1) * 3 + (p + 1) * 3, none⟩ = some (.int .i64 L[q + 1 + (p + 1)].1) ∧ W.cell? ⟨g, (q + 1) * 3 + (p + 1) * 3 + 1, none⟩ = some (.int .i64 L[q + 1 + (p + 1)].2.1) ∧ W.cell? ⟨g, (q + 1) * 3 + (p + 1) * 3 + 2, none⟩ = some (.int .i64 L[q + 1 + (p + 1)].2.2) ∧ W.cell? ⟨g, (q + 1) * 3 + p * 3, none⟩ = some (.int .i64 L[q + 1 + p].1) ∧ W.cell? ⟨g, (q + 1) * 3 + p * 3 + 1, none⟩ = some (.int .i64 L[q + 1 + p].2.1) ∧ W.cell? ⟨g, (q + 1) * 3 + p * 3 + 2, none⟩ = some (.int .i64 L[q + 1 + p].2.2)) _ from ⟨c0, c1, c2, d0, d1, d2⟩)
            refine wp_region_calm ?_
            refine wp_region_E (fun (W : World) => W.cell? ⟨g, (q + 1) * 3 + (p + 1) * 3, none⟩ = some (.int .i64 L[q + 1 + (p + 1)].1) ∧ W.cell? ⟨g, (q + 1) * 3 + (p + 1) * 3 + 1, none⟩ = some (.int .i64 L[q + 1 + (p + 1)].2.1) ∧ W.cell? ⟨g, (q + 1) * 3 + (p + 1) * 3 + 2, none⟩ = some (.int .i64 L[q + 1 + (p + 1)].2.2) ∧ W.cell? ⟨g, (q + 1) * 3 + p * 3, none⟩ = some (.int .i64 L[q + 1 + p].1) ∧ W.cell? ⟨g, (q + 1) * 3 + p * 3 + 1, none⟩ = some (.int .i64 L[q + 1 + p].2.1) ∧ W.cell? ⟨g, (q + 1) * 3 + p * 3 + 2, none⟩ = some (.int .i64 L[q + 1 + p].2.2)) 100 (by kernel_rfl) ?_
            refine wpAnyE_take (i := 0) (v := ?_) (listed' := #[true, false, false, false, false, false, false, false, false, false, false, false]) (by rfl) (by kernel_rfl) (by kernel_rfl) calm_put hS (by rfl) ?_ ?_
            rotate_left
            · intro W hW; clear hW; go_simp; try (with_reducible rfl)
            simp only [Act.put, List.getElem_toArray, List.getElem_cons_succ, List.getElem_cons_zero, List.setIfInBounds_toArray, List.set_cons_zero, List.set_cons_succ]
            refine wpAnyE_take (i := 1) (v := ?_) (listed' := #[true, true, false, false, false, false, false, false, false, false, false, false]) (by rfl) (by kernel_rfl) (by kernel_rfl) calm_put hS (by rfl) ?_ ?_
            rotate_left
            · intro W hW; clear hW; go_simp; try (with_reducible rfl)
            simp only [Act.put, List.getElem_toArray, List.getElem_cons_succ, List.getElem_cons_zero, List.setIfInBounds_toArray, List.set_cons_zero, List.set_cons_succ]
            refine wpAnyE_take (i := 2) (v := ?_) (listed' := #[true, true, true, false, false, false, false, false, false, false, false, false]) (by rfl) (by kernel_rfl) (by kernel_rfl) calm_put hS (by rfl) ?_ ?_
            rotate_left
            · intro W hW; clear hW; go_simp; try (with_reducible rfl)
            simp only [Act.put, List.getElem_toArray, List.getElem_cons_succ, List.getElem_cons_zero, List.setIfInBounds_toArray, List.set_cons_zero, List.set_cons_succ]
            refine wpAnyE_take (i := 3) (v := .pointer (some ⟨g, (q + 1) * 3 + (p + 1) * 3, none⟩)) (listed' := #[true, true, true, true, false, false, false, false, false, false, false, false]) (by rfl) (by kernel_rfl) (by kernel_rfl) calm_put hS (by rfl) ?_ ?_
            · intro W hW; clear hW; go_simp; try (with_reducible rfl)
            simp only [Act.put, List.getElem_toArray, List.getElem_cons_succ, List.getElem_cons_zero, List.setIfInBounds_toArray, List.set_cons_zero, List.set_cons_succ]
            refine wpAnyE_take (i := 4) (v := .agg #[.int .i64 L[q + 1 + (p + 1)].1, .int .i64 L[q + 1 + (p + 1)].2.1, .int .i64 L[q + 1 + (p + 1)].2.2]) (listed' := #[true, true, true, true, true, false, false, false, false, false, false, false]) (by rfl) (by kernel_rfl) (by kernel_rfl) calm_put hS (by rfl) ?_ ?_
            · intro W hW; obtain ⟨c0, c1, c2, d0, d1, d2⟩ := hW; go_simp; try (with_reducible rfl)
            simp only [Act.put, List.getElem_toArray, List.getElem_cons_succ, List.getElem_cons_zero, List.setIfInBounds_toArray, List.set_cons_zero, List.set_cons_succ]
            refine wpAnyE_take (i := 5) (v := ?_) (listed' := #[true, true, true, true, true, true, false, false, false, false, false, false]) (by rfl) (by kernel_rfl) (by kernel_rfl) calm_put hS (by rfl) ?_ ?_
            rotate_left
            · intro W hW; clear hW; go_simp; try (with_reducible rfl)
            simp only [Act.put, List.getElem_toArray, List.getElem_cons_succ, List.getElem_cons_zero, List.setIfInBounds_toArray, List.set_cons_zero, List.set_cons_succ]
            refine wpAnyE_take (i := 6) (v := ?_) (listed' := #[true, true, true, true, true, true, true, false, false, false, false, false]) (by rfl) (by kernel_rfl) (by kernel_rfl) calm_put hS (by rfl) ?_ ?_
            rotate_left
            · intro W hW; clear hW; go_simp; try (with_reducible rfl)
            simp only [Act.put, List.getElem_toArray, List.getElem_cons_succ, List.getElem_cons_zero, List.setIfInBounds_toArray, List.set_cons_zero, List.set_cons_succ]
            refine wpAnyE_take (i := 7) (v := .int .i64 (p : Int)) (listed' := #[true, true, true, true, true, true, true, true, false, false, false, false]) (by rfl) (by kernel_rfl) (by kernel_rfl) calm_put hS (by rfl) ?_ ?_
            · intro W hW; clear hW; go_simp; try (with_reducible rfl)
            simp only [Act.put, List.getElem_toArray, List.getElem_cons_succ, List.getElem_cons_zero, List.setIfInBounds_toArray, List.set_cons_zero, List.set_cons_succ]
            refine wpAnyE_take (i := 8) (v := .pointer (some ⟨g, (q + 1) * 3 + p * 3, none⟩)) (listed' := #[true, true, true, true, true, true, true, true, true, false, false, false]) (by rfl) (by kernel_rfl) (by kernel_rfl) calm_put hS (by rfl) ?_ ?_
            · intro W hW; clear hW; go_simp; try (with_reducible rfl)
            simp only [Act.put, List.getElem_toArray, List.getElem_cons_succ, List.getElem_cons_zero, List.setIfInBounds_toArray, List.set_cons_zero, List.set_cons_succ]
            refine wpAnyE_take (i := 9) (v := .agg #[.int .i64 L[q + 1 + p].1, .int .i64 L[q + 1 + p].2.1, .int .i64 L[q + 1 + p].2.2]) (listed' := #[true, true, true, true, true, true, true, true, true, true, false, false]) (by rfl) (by kernel_rfl) (by kernel_rfl) calm_put hS (by rfl) ?_ ?_
            · intro W hW; obtain ⟨c0, c1, c2, d0, d1, d2⟩ := hW; go_simp; try (with_reducible rfl)
            simp only [Act.put, List.getElem_toArray, List.getElem_cons_succ, List.getElem_cons_zero, List.setIfInBounds_toArray, List.set_cons_zero, List.set_cons_succ]
            refine wpAnyE_one (i := 10) (listed' := #[true, true, true, true, true, true, true, true, true, true, true, false]) (by rfl) (by kernel_rfl) (by kernel_rfl) (by rfl) (fun K hK => ?_)
            simp only [Act.put, List.getElem_toArray, List.getElem_cons_succ, List.getElem_cons_zero, List.setIfInBounds_toArray, List.set_cons_zero, List.set_cons_succ]
            go_wp2_with fail
            first | (refine Calls.mono (HC.out _ (hbt2.drew)) ?_; rintro e w' ⟨rfl, hk⟩; obtain ⟨c0, c1, c2, d0, d1, d2⟩ := hS; have hS : (fun (W : World) => W.cell? ⟨g, (q + 1) * 3 + (p + 1) * 3, none⟩ = some (.int .i64 L[q + 1 + (p + 1)].1) ∧ W.cell? ⟨g, (q + 1) * 3 + (p + 1) * 3 + 1, none⟩ = some (.int .i64 L[q + 1 + (p + 1)].2.1) ∧ W.cell? ⟨g, (q + 1) * 3 + (p + 1) * 3 + 2, none⟩ = some (.int .i64 L[q + 1 + (p + 1)].2.2) ∧ W.cell? ⟨g, (q + 1) * 3 + p * 3, none⟩ = some (.int .i64 L[q + 1 + p].1) ∧ W.cell? ⟨g, (q + 1) * 3 + p * 3 + 1, none⟩ = some (.int .i64 L[q + 1 + p].2.1) ∧ W.cell? ⟨g, (q + 1) * 3 + p * 3 + 2, none⟩ = some (.int .i64 L[q + 1 + p].2.2)) _ := ⟨hk.cell' c0, hk.cell' c1, hk.cell' c2, hk.cell' d0, hk.cell' d1, hk.cell' d2⟩; clear c0 c1 c2 d0 d1 d2) | skip
            refine hK _ _ (fun _ => hS) ?_; clear hK K
            refine wpAnyE_take (i := 11) (v := ?_) (listed' := #[true, true, true, true, true, true, true, true, true, true, true, true]) (by rfl) (by kernel_rfl) (by kernel_rfl) calm_put hS (by rfl) ?_ ?_
            rotate_left
            · intro W hW; clear hW; go_simp; try (with_reducible rfl)
            simp only [Act.put, List.getElem_toArray, List.getElem_cons_succ, List.getElem_cons_zero, List.setIfInBounds_toArray, List.set_cons_zero, List.set_cons_succ]
            refine wpAnyE_done (by kernel_rfl) ?_ _
            refine calm_normal ?_
            have hb2 := hbt.keep (Kept.trans (Kept.refl _).drew hk)
            have HR2 := Lib.hid (show RBlk trip w' g 56 L junk from hk.block HR.out)
            obtain ⟨c0, c1, c2, d0, d1, d2⟩ := hS
            clear hk hix1 hix2 hix3 hix4 hwr HC HR hbt d0 d1 d2
            cases heq2 : (L[q + 1 + (p + 1)].1 == L[q + 1 + p].1) with
            | true =>
              clear heq2
              go_wp2
              go_roundw
              case rel => exact ⟨ki, p + 1, L, by go_num, by go_num, by omega, by omega, by have := HM2.out; omega, HL.out, HO.out, HR2.out, hb2⟩
              case measure => simp [intOf]; omega
            | false =>
              clear heq2
              have hkil : ki < l.length := by omega
              have hkiL : ki < L.length := by rw [HL.out]; exact hkil
              have hone := HO.out L[q + 1 + (p + 1)] (List.getElem_mem _)
              have HONE := Lib.hid hone; clear hone
              have hfit : (L.flatMap trip ++ junk).length = l.length * 3 + junk.length := by rw [List.length_append, flat_len trip_len, HL.out]
              have HFIT := Lib.hid hfit; clear hfit
              go_wp2_with (refine wpList_store_agg (o := ⟨none, .store _ _ _, _, _, _, _⟩) rfl _ _ rfl agT_m g (ki * 3) rfl (trip L[q + 1 + (p + 1)]) rfl rfl HONE.out (L.flatMap trip ++ junk) 56 HR2.out (by rw [HFIT.out]; omega) ?_; intro w1 hw1)
              go_roundw
              case rel =>
                rw [flat_splice trip_len _ _ hkiL] at hw1
                refine ⟨ki + 1, p + 1, L.set ki L[q + 1 + (p + 1)], by go_num, by go_num, by omega, by omega, by have := HM2.out; omega, by rw [List.length_set]; exact HL.out, ?_, hw1.blk, hb2.trans (But.wrote hw1 rfl)⟩
                intro x hx
                rcases List.mem_or_eq_of_mem_set hx with h | rfl
                · exact HO.out x h
                · exact HONE.out
              case measure => simp [intOf]; omega
          · have hkil : ki < l.length := by omega
            have hlq : ki ≤ l.length := by omega
            have hlq2 : ki ≤ cap := by omega
            have hfit : (L.flatMap trip ++ junk).length = l.length * 3 + junk.length := by rw [List.length_append, flat_len trip_len, HL.out]
            have HFIT := Lib.hid hfit; clear hfit
            go_wp2_with (refine stop_at (o := ⟨none, .call _, _, _, _, _⟩) ?_)
            refine Stop.mk ?_
            refine wpList_clear_rows (n := 3) rfl _ rfl Tryz.underlying22 zero_m rfl (by intro u hu; simp [Value.cells] at hu; subst hu; rfl) g (ki * 3) (l.length - ki) (cap - ki) rfl (L.flatMap trip ++ junk) 56 HR.out (by rw [HFIT.out]; omega) ?_
            intro w1 zs hzs hw1
            clear hzs
            go_wp2
            go_ret
            refine ⟨ki, rfl, ?_, hbt.trans (But.wrote hw1 rfl)⟩
            have hne : apartB (l.map fun x => x.1) = false := by
              cases hs : apartB (l.map fun x => x.1) with
              | false => rfl
              | true =>
                have := (apartB_iff _).1 hs q (by simpa using hlt)
                have he := HE.out
                simp only [List.getElem_map] at this
                simp at he
                omega
            rw [hne, decide_eq_false_iff_not]
            omega
    · go_wp2
      go_ret
      refine ⟨l.length, rfl, ?_, But.kept hbel⟩
      rw [(apartB_iff _).2 (by intro j h; simp only [List.getElem_map]; simp only [List.length_map] at h; exact HN.out j h (by omega))]
      simp
end Go.Proofs.YtiijfocdjcjlaaaGreat
/- state.rises at []braidwork/api.Member (gen_riz.py m). -/
namespace Go.Proofs.YtiijfocdjcjlaaaGreat
open Go.RowKit
set_option linter.unusedVariables false
set_option linter.unusedSimpArgs false
set_option maxRecDepth 100000
set_option maxHeartbeats 1000000
theorem cmf0_m (l : List Mb) (oa : Option Addr) (cap : Nat) (fv : Value) (w : World) (h2 : l.length < 2) :
    Calls Tryz.prog 57 #[.slice oa l.length cap, fv] w fun e w' => e = .returned (.slice oa l.length cap) ∧ w = w' := by
  go_enter Tryz.func57, Tryz.ntmps57
  go_wp2
  go_ret
  exact ⟨rfl, rfl⟩
/-- CompactFunc of a clone: as long as the list just if no neighbours are the same -/
theorem cmfc_m (l : List Mb) (nb : Nat) (v : Value) (base : Nat) (w : World) (hlen : l.length ≤ 4096) (hm : RSl trip 3 w v l) (ho : 0 < l.length → w.ownsRow base 56 3 v l.length (l.flatMap trip)) (hnb : nb < base) (hbw : base ≤ w.heap.size) (hh : w.cell? ⟨nb, 0, none⟩ = some (.func (.func 25) #[] #[])) (h1 : ∀ x ∈ l, ∀ u ∈ trip x, u.oneCell' = true) :
    Calls Tryz.prog 57 #[v, .func (.func 58) #[] #[.pointer (some ⟨nb, 0, none⟩)]] w fun e w' => ∃ oa m cap, e = .returned (.slice oa m cap) ∧ (decide ((m : Int) = (l.length : Int)) = apartB (l.map fun x => x.1)) ∧ Below base w w' := by
  by_cases h2 : l.length < 2
  · obtain ⟨oa, cap, rfl, _⟩ := hm.form
    refine (cmf0_m l oa cap _ w h2).mono ?_
    rintro e w' ⟨rfl, rfl⟩
    refine ⟨_, _, _, rfl, ?_, Below.refl _ _⟩
    rw [(apartB_iff _).2 (by intro j h; simp only [List.length_map] at h; omega)]
    simp
  · obtain ⟨g, cap, junk, rfl, hg, hb, hj, hc, hmx⟩ := RBlk.of_owns trip_len (ho (by omega)) rfl (by omega)
    refine (cmf_m l nb g cap junk w hlen hc hmx hj hb (by omega) hh (by omega) h1).mono ?_
    rintro e w' ⟨m, rfl, hd, hbt⟩
    refine ⟨_, _, _, rfl, ?_, hbt.below (fun i hi => by subst hi; exact hg) hbw⟩
    rw [← hd]
    by_cases h : m = l.length
    · simp [h]
    · have : ¬ ((m : Int) = (l.length : Int)) := by omega
      simp [h, this]
theorem riz_m (l : List Mb) (v : Value) (w : World) (hlen : l.length ≤ 4096) (hm : RSl trip 3 w v l) (h1 : ∀ x ∈ l, ∀ u ∈ trip x, u.oneCell' = true) :
    Calls Tryz.prog 24 #[v, .func (.func 25) #[] #[]] w fun e w' => e = .returned (.bool (risesB (l.map fun x => x.1))) ∧ Kept w w' := by
  obtain ⟨oa, cap, rfl, hcap⟩ := hm.form
  have hnew : ∀ o : Obj, (w.alloc o).heap[(⟨w.heap.size, 0, none⟩ : Addr).block]? = some o := fun o => heap_alloc_new w o
  have HNEW := Lib.hid hnew; clear hnew
  have HM := Lib.hid hm; clear hm
  have h1' := Lib.hid h1; clear h1
  have hka : ∀ o, Kept w (w.alloc o) := fun o => (Kept.refl _).alloc o
  have HKA := Lib.hid hka; clear hka
  have hsz : ∀ o, (w.alloc o).heap.size = w.heap.size + 1 := fun o => World.size_alloc _ _
  have HSZ := Lib.hid hsz; clear hsz
  have hsrt := fun (W : World) (h : RSl trip 3 W (.slice oa l.length cap) l) (hh : W.cell? ⟨w.heap.size, 0, none⟩ = some (.func (.func 25) #[] #[])) => srt_m l w.heap.size _ W hlen h hh
  cases hs : sortedB (l.map fun x => x.1) with
  | false =>
    have hf : risesB (l.map fun x => x.1) = false := by rw [risesB, hs]; rfl
    rw [hs] at hsrt
    have HS := Lib.hid hsrt; clear hsrt
    rw [hf]
    clear hs hf
    go_enter Tryz.func24, Tryz.ntmps24
    go_wp2_with (go_at_call 54; refine (HS.out _ (HM.out.kept (HKA.out _)) (by unfold World.cell?; rw [HNEW.out]; rfl)).mono ?_; rintro e w1 ⟨rfl, hk1⟩)
    go_ret
    exact ⟨rfl, (HKA.out _).trans hk1⟩
  | true =>
    have hf : risesB (l.map fun x => x.1) = apartB (l.map fun x => x.1) := by rw [risesB, hs]; rfl
    rw [hs] at hsrt
    have HS := Lib.hid hsrt; clear hsrt
    rw [hf]
    clear hs hf
    go_enter Tryz.func24, Tryz.ntmps24
    go_wp2_with (first
      | (go_at_call 54
         generalize hW : World.alloc w _ = W0
         have hk0 : Kept w W0 := by rw [← hW]; exact HKA.out _
         have hz0 : W0.heap.size = w.heap.size + 1 := by rw [← hW]; exact HSZ.out _
         have hh0 : W0.cell? ⟨w.heap.size, 0, none⟩ = some (.func (.func 25) #[] #[]) := by rw [← hW]; unfold World.cell?; rw [HNEW.out]; rfl
         clear hW
         refine (HS.out _ (HM.out.kept hk0) hh0).mono ?_; rintro e w1 ⟨rfl, hk1⟩)
      | (go_at_call 41; refine (cln_m l _ _ hlen (HM.out.kept (hk0.trans hk1))).mono ?_; rintro e w2 ⟨v', rfl, ha2, ho2, hr2, hk2⟩; have HA := Lib.hid hr2; have HO := Lib.hid ho2; clear ha2 ho2; obtain ⟨oa2, cap2, rfl, _⟩ := hr2.form; clear hr2)
      | (go_at_call 57; refine (cmfc_m l w.heap.size _ w1.heap.size _ hlen HA.out HO.out (by have := hk1.size; omega) hk2.size (hk2.cell' (hk1.cell' hh0)) h1'.out).mono ?_; rintro e w3 ⟨oa3, m3, cap3, rfl, hd3, hb3⟩))
    go_ret
    refine ⟨?_, hk0.trans (Below.trans (hk1.trans hk2) (Below.mono hb3 hk1.size))⟩
    rw [← hd3]; rfl
end Go.Proofs.YtiijfocdjcjlaaaGreat
/- state.member; all members. -/
namespace Go.Proofs.YtiijfocdjcjlaaaGreat
open Go.RowKit
set_option linter.unusedVariables false
set_option linter.unusedSimpArgs false
set_option maxRecDepth 100000
set_option maxHeartbeats 1000000
theorem st_member (x : Mb) (w : World) : Calls Tryz.prog 23 #[.agg (trip x).toArray] w fun e w' => e = .returned (.bool (mbB x)) ∧ Kept w w' := by
  have hB : ∀ o, Kept w (w.alloc o) := fun o => (Kept.refl _).alloc o
  have HB := Lib.hid hB; clear hB
  simp only [trip]
  go_enter Tryz.func23, Tryz.ntmps23
  go_wp2_with (go_at_call 21; refine (st_in _ _ _ _).mono ?_; rintro e w' ⟨rfl, rfl⟩)
  all_goals (go_ret; refine ⟨?_, HB.out _⟩; simp [mbB, *])
theorem fn_member (w : World) : FnI Tryz.prog 23 #[] #[] (fun x => .agg (trip x).toArray) (fun (s : Unit) x => (mbB x, s)) (fun _ W => Kept w W) (fun _ => False) :=
  ⟨fun _ _ => rfl, fun s x w1 h => (st_member x w1).mono (by rintro e w' ⟨rfl, hk⟩; exact ⟨rfl, h.trans hk, KeptX.of hk⟩)⟩
theorem all_member (l : List Mb) (v : Value) (w : World) (hlen : l.length ≤ 4096) (hm : RSl trip 3 w v l) :
    Calls Tryz.prog 22 #[v, .func (.func 23) #[] #[]] w fun e w' => e = .returned (.bool (l.all mbB)) ∧ Kept w w' := by
  refine (all_m (fun (s : Unit) x => (mbB x, s)) (fun _ W => Kept w W) (fun _ => False) () l _ #[] #[] v w hlen (fun _ W o h => h.alloc o) (fun b h => h.elim) (fun _ W h => hm.kept h) (Kept.refl w) (fn_member w)).mono ?_
  rintro e w' ⟨rfl, hk, _⟩
  exact ⟨by rw [allF_plain], hk⟩
end Go.Proofs.YtiijfocdjcjlaaaGreat
