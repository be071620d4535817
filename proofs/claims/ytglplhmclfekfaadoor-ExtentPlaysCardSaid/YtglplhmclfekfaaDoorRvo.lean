/- ref06: Clone (gen_rvcl.py). -/
import Derived.Test.YtglplhmclfekfaaDoorRvn
namespace Go.Proofs.YtglplhmclfekfaaDoor
open Go.RowKit
set_option linter.unusedVariables false
set_option linter.unusedSimpArgs false

theorem cells4 {W W' : World} {p1 p2 p3 p4 : Addr} {v1 v2 v3 v4 : Value} (h : W.cell? p1 = some v1 ∧ W.cell? p2 = some v2 ∧ W.cell? p3 = some v3 ∧ W.cell? p4 = some v4) (hk : Kept W W') : W'.cell? p1 = some v1 ∧ W'.cell? p2 = some v2 ∧ W'.cell? p3 = some v3 ∧ W'.cell? p4 = some v4 :=
  ⟨hk.cell' h.1, hk.cell' h.2.1, hk.cell' h.2.2.1, hk.cell' h.2.2.2⟩
theorem Cells.leftX {w : World} {b off : Nat} {xs ys : List Value} (h : Cells w b off (xs ++ ys)) : Cells w b off xs := fun j hj => by
  have h2 := h j (by rw [List.length_append]; omega)
  rw [List.getElem_append_left hj] at h2
  exact h2
theorem RM.take_len {M : RM} {k : Nat} (h : k ≤ M.length) : (M.take k).length = k := by rw [List.length_take]; omega
theorem RM.take_more {M : RM} {k : Nat} (h : k < M.length) : M.take k ++ [((M.m k).1, (M.m k).2)] = M.take (k + 1) := by
  rw [List.take_add_one, List.getElem?_eq_getElem h, RM.m_eq h]; rfl
section
variable {w : World} {q : Nat} {M : RM} {v : Value} {tb : Nat → Nat} {tj : Nat → List Value}
set_option maxHeartbeats 1000000
set_option maxRecDepth 100000
theorem xr_Clone (h : XR w q M v tb tj) (hok : M.Ok) (hl : M.length < 20000) :
    Calls Tryd.prog 17 #[.pointer (some ⟨q, 0, none⟩)] w fun e w' => ∃ q' v' tb' tj', e = .returned (.pointer (some ⟨q', 0, none⟩)) ∧ XR w' q' M v' tb' tj' ∧ Kept w w' ∧ ∀ b, InX M q' v' tb' b → w.heap.size ≤ b := by
  obtain ⟨ao, cap, hv⟩ := h.form
  have HV := Lib.hid hv
  have c0 := h.c0
  rw [hv] at c0
  have H := Lib.hid h
  have HOK := Lib.hid hok
  clear h hv hok
  go_enter Tryd.func17, Tryd.ntmps17
  go_wp2_with fail
  refine Calls.mono (xr_New w) ?_
  rintro e w1 ⟨rfl, hx1, hk1⟩
  obtain ⟨q2, hq2⟩ : ∃ q2, q2 = w.heap.size := ⟨_, rfl⟩
  rw [← hq2] at hx1 ⊢
  have hq2w : w.heap.size ≤ q2 := Nat.le_of_eq hq2.symm
  have HX1 := Lib.hid hx1
  have HK1 := Lib.hid hk1
  have c01 := hk1.cell' c0
  clear hx1 hk1 hq2
  go_wp2
  go_loopw [4] (fun i wr => ∃ (k : Nat) (v2 : Value) (tb2 : Nat → Nat) (tj2 : Nat → List Value), k ≤ M.length ∧ i = .int .i64 k ∧ Hid (XR wr q2 (M.take k) v2 tb2 tj2) ∧ Hid (Kept w wr) ∧ Hid (∀ b, InX (M.take k) q2 v2 tb2 b → w.heap.size ≤ b)) (fun i _ => M.length - (intOf i).toNat)
  case atStart => exact ⟨0, _, _, _, Nat.zero_le _, rfl, HX1, HK1, Lib.hid (fun b hb => by
    rcases hb with rfl | hb | ⟨k, hk, _⟩
    · exact hq2w
    · simp [Value.ownBlock] at hb
    · simp at hk)⟩
  case round =>
    clear HX1 HK1 c01
    obtain ⟨k, v2, tb2, tj2, hk, rfl, HZ, HK, HIN⟩ := hrel
    by_cases hlt : k < M.length
    · have HW := Lib.hid (H.out.kept HK.out)
      obtain ⟨g, cap', hv', c2, c3⟩ := HW.out.at_ hlt
      rw [HV.out] at hv'
      injection hv' with ha _ hcap
      subst ha
      clear hcap
      have hgw : g < w.heap.size := H.out.lt (.inr (.inl (by rw [HV.out]; rfl)))
      have HGW := Lib.hid hgw
      have c0r := HK.out.cell' c0
      have hpl := RM.take_len (M := M) hk
      obtain ⟨ao2, cap2, hv2⟩ := HZ.out.form
      rw [hpl] at hv2
      have HV2 := Lib.hid hv2
      have c4 := HZ.out.c0
      rw [hv2] at c4
      have HPL := Lib.hid hpl
      have hll := HOK.out.bits k
      have hcl : Cells wr (tb k) 0 (boolsV (M.m k).2) := Cells.leftX (by simpa using Cells.of_block (HW.out.tak k hlt))
      have htm := RM.take_more hlt
      generalize (M.m k).1 = x at *
      generalize (M.m k).2 = l at *
      have HLL := Lib.hid hll
      have HCL := Lib.hid hcl
      have HTM := Lib.hid htm
      clear hv2 hpl hll hcl htm hgw
      go_upto_region 5 with fail
      have hS : wr.drew.cell? ⟨q2, 0, none⟩ = some (.slice ao2 k cap2) ∧ wr.drew.cell? ⟨q, 0, none⟩ = some (.slice (some ⟨g, 0, none⟩) M.length cap) ∧ wr.drew.cell? ⟨g, k * 2, none⟩ = some (.int .i64 x) ∧ wr.drew.cell? ⟨g, k * 2 + 1, none⟩ = some (.slice (some ⟨tb k, 0, none⟩) l.length (l.length + (tj k).length)) := ⟨c4, c0r, c2, c3⟩
      refine wp_region_calm ?_
      refine wp_region_E (fun W => W.cell? ⟨q2, 0, none⟩ = some (.slice ao2 k cap2) ∧ W.cell? ⟨q, 0, none⟩ = some (.slice (some ⟨g, 0, none⟩) M.length cap) ∧ W.cell? ⟨g, k * 2, none⟩ = some (.int .i64 x) ∧ W.cell? ⟨g, k * 2 + 1, none⟩ = some (.slice (some ⟨tb k, 0, none⟩) l.length (l.length + (tj k).length))) 28 (by kernel_rfl) ?_
      refine wpAnyE_take (i := 0) (v := ?_) (listed' := #[true, false, false, false, false, false, false, false, false, false, false, false, false, false, false, false, false, false, false, false, false, false, false, false, false, false, false, false, false]) (by rfl) (by kernel_rfl) (by kernel_rfl) calm_put hS (by rfl) ?_ ?_
      rotate_left
      · intro W hW; clear hW; go_simp; try (with_reducible rfl)
      simp only [Act.put, List.getElem_toArray, List.getElem_cons_succ, List.getElem_cons_zero, List.setIfInBounds_toArray, List.set_cons_zero, List.set_cons_succ]
      refine wpAnyE_take (i := 1) (v := ?_) (listed' := #[true, true, false, false, false, false, false, false, false, false, false, false, false, false, false, false, false, false, false, false, false, false, false, false, false, false, false, false, false]) (by rfl) (by kernel_rfl) (by kernel_rfl) calm_put hS (by rfl) ?_ ?_
      rotate_left
      · intro W hW; clear hW; go_simp; try (with_reducible rfl)
      simp only [Act.put, List.getElem_toArray, List.getElem_cons_succ, List.getElem_cons_zero, List.setIfInBounds_toArray, List.set_cons_zero, List.set_cons_succ]
      refine wpAnyE_take (i := 2) (v := ?_) (listed' := #[true, true, true, false, false, false, false, false, false, false, false, false, false, false, false, false, false, false, false, false, false, false, false, false, false, false, false, false, false]) (by rfl) (by kernel_rfl) (by kernel_rfl) calm_put hS (by rfl) ?_ ?_
      rotate_left
      · intro W hW; clear hW; go_simp; try (with_reducible rfl)
      simp only [Act.put, List.getElem_toArray, List.getElem_cons_succ, List.getElem_cons_zero, List.setIfInBounds_toArray, List.set_cons_zero, List.set_cons_succ]
      refine wpAnyE_take (i := 3) (v := ?_) (listed' := #[true, true, true, true, false, false, false, false, false, false, false, false, false, false, false, false, false, false, false, false, false, false, false, false, false, false, false, false, false]) (by rfl) (by kernel_rfl) (by kernel_rfl) calm_put hS (by rfl) ?_ ?_
      rotate_left
      · intro W hW; clear hW; go_simp; try (with_reducible rfl)
      simp only [Act.put, List.getElem_toArray, List.getElem_cons_succ, List.getElem_cons_zero, List.setIfInBounds_toArray, List.set_cons_zero, List.set_cons_succ]
      refine wpAnyE_take (i := 4) (v := ?_) (listed' := #[true, true, true, true, true, false, false, false, false, false, false, false, false, false, false, false, false, false, false, false, false, false, false, false, false, false, false, false, false]) (by rfl) (by kernel_rfl) (by kernel_rfl) calm_put hS (by rfl) ?_ ?_
      rotate_left
      · intro W hW; obtain ⟨c0, c1, c2, c3⟩ := hW; go_simp; try (with_reducible rfl)
      simp only [Act.put, List.getElem_toArray, List.getElem_cons_succ, List.getElem_cons_zero, List.setIfInBounds_toArray, List.set_cons_zero, List.set_cons_succ]
      refine wpAnyE_take (i := 5) (v := ?_) (listed' := #[true, true, true, true, true, true, false, false, false, false, false, false, false, false, false, false, false, false, false, false, false, false, false, false, false, false, false, false, false]) (by rfl) (by kernel_rfl) (by kernel_rfl) calm_put hS (by rfl) ?_ ?_
      rotate_left
      · intro W hW; clear hW; go_simp; try (with_reducible rfl)
      simp only [Act.put, List.getElem_toArray, List.getElem_cons_succ, List.getElem_cons_zero, List.setIfInBounds_toArray, List.set_cons_zero, List.set_cons_succ]
      refine wpAnyE_take (i := 6) (v := ?_) (listed' := #[true, true, true, true, true, true, true, false, false, false, false, false, false, false, false, false, false, false, false, false, false, false, false, false, false, false, false, false, false]) (by rfl) (by kernel_rfl) (by kernel_rfl) calm_put hS (by rfl) ?_ ?_
      rotate_left
      · intro W hW; clear hW; go_simp; try (with_reducible rfl)
      simp only [Act.put, List.getElem_toArray, List.getElem_cons_succ, List.getElem_cons_zero, List.setIfInBounds_toArray, List.set_cons_zero, List.set_cons_succ]
      refine wpAnyE_take (i := 7) (v := ?_) (listed' := #[true, true, true, true, true, true, true, true, false, false, false, false, false, false, false, false, false, false, false, false, false, false, false, false, false, false, false, false, false]) (by rfl) (by kernel_rfl) (by kernel_rfl) calm_put hS (by rfl) ?_ ?_
      rotate_left
      · intro W hW; clear hW; go_simp; try (with_reducible rfl)
      simp only [Act.put, List.getElem_toArray, List.getElem_cons_succ, List.getElem_cons_zero, List.setIfInBounds_toArray, List.set_cons_zero, List.set_cons_succ]
      refine wpAnyE_take (i := 8) (v := ?_) (listed' := #[true, true, true, true, true, true, true, true, true, false, false, false, false, false, false, false, false, false, false, false, false, false, false, false, false, false, false, false, false]) (by rfl) (by kernel_rfl) (by kernel_rfl) calm_put hS (by rfl) ?_ ?_
      rotate_left
      · intro W hW; obtain ⟨c0, c1, c2, c3⟩ := hW; go_simp; try (with_reducible rfl)
      simp only [Act.put, List.getElem_toArray, List.getElem_cons_succ, List.getElem_cons_zero, List.setIfInBounds_toArray, List.set_cons_zero, List.set_cons_succ]
      refine wpAnyE_take (i := 9) (v := ?_) (listed' := #[true, true, true, true, true, true, true, true, true, true, false, false, false, false, false, false, false, false, false, false, false, false, false, false, false, false, false, false, false]) (by rfl) (by kernel_rfl) (by kernel_rfl) calm_put hS (by rfl) ?_ ?_
      rotate_left
      · intro W hW; clear hW; go_simp; try (with_reducible rfl)
      simp only [Act.put, List.getElem_toArray, List.getElem_cons_succ, List.getElem_cons_zero, List.setIfInBounds_toArray, List.set_cons_zero, List.set_cons_succ]
      refine wpAnyE_take (i := 10) (v := ?_) (listed' := #[true, true, true, true, true, true, true, true, true, true, true, false, false, false, false, false, false, false, false, false, false, false, false, false, false, false, false, false, false]) (by rfl) (by kernel_rfl) (by kernel_rfl) calm_put hS (by rfl) ?_ ?_
      rotate_left
      · intro W hW; clear hW; go_simp; try (with_reducible rfl)
      simp only [Act.put, List.getElem_toArray, List.getElem_cons_succ, List.getElem_cons_zero, List.setIfInBounds_toArray, List.set_cons_zero, List.set_cons_succ]
      refine wpAnyE_take (i := 11) (v := ?_) (listed' := #[true, true, true, true, true, true, true, true, true, true, true, true, false, false, false, false, false, false, false, false, false, false, false, false, false, false, false, false, false]) (by rfl) (by kernel_rfl) (by kernel_rfl) calm_put hS (by rfl) ?_ ?_
      rotate_left
      · intro W hW; clear hW; go_simp; try (with_reducible rfl)
      simp only [Act.put, List.getElem_toArray, List.getElem_cons_succ, List.getElem_cons_zero, List.setIfInBounds_toArray, List.set_cons_zero, List.set_cons_succ]
      refine wpAnyE_take (i := 12) (v := ?_) (listed' := #[true, true, true, true, true, true, true, true, true, true, true, true, true, false, false, false, false, false, false, false, false, false, false, false, false, false, false, false, false]) (by rfl) (by kernel_rfl) (by kernel_rfl) calm_put hS (by rfl) ?_ ?_
      rotate_left
      · intro W hW; obtain ⟨c0, c1, c2, c3⟩ := hW; go_simp; try (with_reducible rfl)
      simp only [Act.put, List.getElem_toArray, List.getElem_cons_succ, List.getElem_cons_zero, List.setIfInBounds_toArray, List.set_cons_zero, List.set_cons_succ]
      refine wpAnyE_take (i := 14) (v := ?_) (listed' := #[true, true, true, true, true, true, true, true, true, true, true, true, true, false, true, false, false, false, false, false, false, false, false, false, false, false, false, false, false]) (by rfl) (by kernel_rfl) (by kernel_rfl) calm_put hS (by rfl) ?_ ?_
      rotate_left
      · intro W hW; clear hW; go_simp; try (with_reducible rfl)
      simp only [Act.put, List.getElem_toArray, List.getElem_cons_succ, List.getElem_cons_zero, List.setIfInBounds_toArray, List.set_cons_zero, List.set_cons_succ]
      refine wpAnyE_take (i := 15) (v := ?_) (listed' := #[true, true, true, true, true, true, true, true, true, true, true, true, true, false, true, true, false, false, false, false, false, false, false, false, false, false, false, false, false]) (by rfl) (by kernel_rfl) (by kernel_rfl) calm_put hS (by rfl) ?_ ?_
      rotate_left
      · intro W hW; clear hW; go_simp; try (with_reducible rfl)
      simp only [Act.put, List.getElem_toArray, List.getElem_cons_succ, List.getElem_cons_zero, List.setIfInBounds_toArray, List.set_cons_zero, List.set_cons_succ]
      refine wpAnyE_take (i := 16) (v := ?_) (listed' := #[true, true, true, true, true, true, true, true, true, true, true, true, true, false, true, true, true, false, false, false, false, false, false, false, false, false, false, false, false]) (by rfl) (by kernel_rfl) (by kernel_rfl) calm_put hS (by rfl) ?_ ?_
      rotate_left
      · intro W hW; clear hW; go_simp; try (with_reducible rfl)
      simp only [Act.put, List.getElem_toArray, List.getElem_cons_succ, List.getElem_cons_zero, List.setIfInBounds_toArray, List.set_cons_zero, List.set_cons_succ]
      refine wpAnyE_take (i := 17) (v := ?_) (listed' := #[true, true, true, true, true, true, true, true, true, true, true, true, true, false, true, true, true, true, false, false, false, false, false, false, false, false, false, false, false]) (by rfl) (by kernel_rfl) (by kernel_rfl) calm_put hS (by rfl) ?_ ?_
      rotate_left
      · intro W hW; obtain ⟨c0, c1, c2, c3⟩ := hW; go_simp; try (with_reducible rfl)
      simp only [Act.put, List.getElem_toArray, List.getElem_cons_succ, List.getElem_cons_zero, List.setIfInBounds_toArray, List.set_cons_zero, List.set_cons_succ]
      refine wpAnyE_take (i := 18) (v := ?_) (listed' := #[true, true, true, true, true, true, true, true, true, true, true, true, true, false, true, true, true, true, true, false, false, false, false, false, false, false, false, false, false]) (by rfl) (by kernel_rfl) (by kernel_rfl) calm_put hS (by rfl) ?_ ?_
      rotate_left
      · intro W hW; clear hW; go_simp; try (with_reducible rfl)
      simp only [Act.put, List.getElem_toArray, List.getElem_cons_succ, List.getElem_cons_zero, List.setIfInBounds_toArray, List.set_cons_zero, List.set_cons_succ]
      refine wpAnyE_take (i := 19) (v := ?_) (listed' := #[true, true, true, true, true, true, true, true, true, true, true, true, true, false, true, true, true, true, true, true, false, false, false, false, false, false, false, false, false]) (by rfl) (by kernel_rfl) (by kernel_rfl) calm_put hS (by rfl) ?_ ?_
      rotate_left
      · intro W hW; clear hW; go_simp; try (with_reducible rfl)
      simp only [Act.put, List.getElem_toArray, List.getElem_cons_succ, List.getElem_cons_zero, List.setIfInBounds_toArray, List.set_cons_zero, List.set_cons_succ]
      refine wpAnyE_take (i := 20) (v := ?_) (listed' := #[true, true, true, true, true, true, true, true, true, true, true, true, true, false, true, true, true, true, true, true, true, false, false, false, false, false, false, false, false]) (by rfl) (by kernel_rfl) (by kernel_rfl) calm_put hS (by rfl) ?_ ?_
      rotate_left
      · intro W hW; clear hW; go_simp; try (with_reducible rfl)
      simp only [Act.put, List.getElem_toArray, List.getElem_cons_succ, List.getElem_cons_zero, List.setIfInBounds_toArray, List.set_cons_zero, List.set_cons_succ]
      refine wpAnyE_take (i := 21) (v := ?_) (listed' := #[true, true, true, true, true, true, true, true, true, true, true, true, true, false, true, true, true, true, true, true, true, true, false, false, false, false, false, false, false]) (by rfl) (by kernel_rfl) (by kernel_rfl) calm_put hS (by rfl) ?_ ?_
      rotate_left
      · intro W hW; obtain ⟨c0, c1, c2, c3⟩ := hW; go_simp; try (with_reducible rfl)
      simp only [Act.put, List.getElem_toArray, List.getElem_cons_succ, List.getElem_cons_zero, List.setIfInBounds_toArray, List.set_cons_zero, List.set_cons_succ]
      refine wpAnyE_one (i := 13) (listed' := #[true, true, true, true, true, true, true, true, true, true, true, true, true, true, true, true, true, true, true, true, true, true, false, false, false, false, false, false, false]) (by rfl) (by kernel_rfl) (by kernel_rfl) (by rfl) (fun K hK => ?_)
      simp only [Act.put, List.getElem_toArray, List.getElem_cons_succ, List.getElem_cons_zero, List.setIfInBounds_toArray, List.set_cons_zero, List.set_cons_succ]
      go_wp2
      have hkA := ((Kept.refl wr).alloc (Obj.cells #[] 4)).drew
      have hbA : (wr.alloc (Obj.cells #[] 4)).drew.heap[wr.heap.size]? = some (.cells #[] 4 (0, 0)) := heap_alloc_new wr (Obj.cells #[] 4)
      have hS := cells4 (W := wr) ⟨c4, c0r, c2, c3⟩ hkA
      refine hK _ _ (fun _ => hS) ?_; clear hK K
      obtain ⟨B0, hB0⟩ : ∃ B0, B0 = wr.heap.size := ⟨_, rfl⟩
      rw [← hB0] at hbA ⊢
      have hB0s : wr.heap.size ≤ B0 := Nat.le_of_eq hB0.symm
      generalize (wr.alloc (Obj.cells #[] 4)).drew = wA at *
      clear hB0
      obtain ⟨B, rest, wB, hrun, hbB, hBge, hkB⟩ := run_clone_bools wA l HLL.out B0 (tb k) (l.length + (tj k).length) hbA (Nat.le_add_right _ _) (HCL.out.kept hkA) 69
      have HRUN := Lib.hid hrun
      have HBB := Lib.hid hbB
      have hBs : wr.heap.size ≤ B := by rcases hBge with h | h; (rw [h]; exact hB0s); exact Nat.le_trans hkA.size h
      have HKB := Lib.hid (hkA.trans hkB)
      clear hrun hbB hBge hbA
      refine wpAnyE_one (i := 22) (listed' := #[true, true, true, true, true, true, true, true, true, true, true, true, true, true, true, true, true, true, true, true, true, true, true, false, false, false, false, false, false]) (by rfl) (by kernel_rfl) (by kernel_rfl) (by rfl) (fun K hK => ?_)
      simp only [Act.put, List.getElem_toArray, List.getElem_cons_succ, List.getElem_cons_zero, List.setIfInBounds_toArray, List.set_cons_zero, List.set_cons_succ]
      refine wp_append_runX rfl rfl rfl HRUN.out ?_
      have hS := cells4 hS hkB
      refine hK _ _ (fun _ => hS) ?_; clear hK K
      clear HRUN hkB hkA
      refine wpAnyE_take (i := 23) (v := ?_) (listed' := #[true, true, true, true, true, true, true, true, true, true, true, true, true, true, true, true, true, true, true, true, true, true, true, true, false, false, false, false, false]) (by rfl) (by kernel_rfl) (by kernel_rfl) calm_put hS (by rfl) ?_ ?_
      rotate_left
      · intro W hW; clear hW; go_simp; try (with_reducible rfl)
      simp only [Act.put, List.getElem_toArray, List.getElem_cons_succ, List.getElem_cons_zero, List.setIfInBounds_toArray, List.set_cons_zero, List.set_cons_succ]
      refine wpAnyE_one (i := 24) (listed' := #[true, true, true, true, true, true, true, true, true, true, true, true, true, true, true, true, true, true, true, true, true, true, true, true, true, false, false, false, false]) (by rfl) (by kernel_rfl) (by kernel_rfl) (by rfl) (fun K hK => ?_)
      simp only [Act.put, List.getElem_toArray, List.getElem_cons_succ, List.getElem_cons_zero, List.setIfInBounds_toArray, List.set_cons_zero, List.set_cons_succ]
      go_wp2
      have hk4 := (Kept.refl wB).alloc (Obj.cells #[Value.int .i64 x, .slice (some ⟨B, 0, none⟩) l.length (l.length + rest.length)] 71)
      have hb4 := heap_alloc_new wB (Obj.cells #[Value.int .i64 x, .slice (some ⟨B, 0, none⟩) l.length (l.length + rest.length)] 71)
      have hS := cells4 hS hk4
      refine hK _ _ (fun _ => hS) ?_; clear hK K
      generalize hw4 : wB.alloc (Obj.cells #[Value.int .i64 x, .slice (some ⟨B, 0, none⟩) l.length (l.length + rest.length)] 71) = w4 at *
      clear hw4
      have HK4 := Lib.hid (HKB.out.trans hk4)
      have HB4 := Lib.hid (hk4.block HBB.out)
      have hrow := (HZ.out.kept HK4.out).row
      rw [HPL.out] at hrow
      obtain ⟨v3, w5, hrun, hown, hgrw⟩ := own_append ty_membs hrow (by omega) (by decide) [Value.int .i64 x, .slice (some ⟨B, 0, none⟩) l.length (l.length + rest.length)] rfl (b := wB.heap.size) (fun j u hu => by rw [cell_of_row _ _ j _ _ _ hb4]; simpa using hu) (by intro u hu; simp at hu; rcases hu with rfl | rfl <;> rfl) 66
      obtain ⟨ao', cap', hv'⟩ := own_form hown
      have HV' := Lib.hid hv'
      have hvq : v2.ownBlock ≠ some q2 := fun e => by
        obtain ⟨cur, hc⟩ := own_type HZ.out.row e
        rw [HZ.out.top] at hc
        injection hc with hc
        injection hc with _ h2
        exact absurd h2 (by decide)
      have hqs := HZ.out.lt (b := q2) (.inl rfl)
      have hsz4 := HK4.out.size
      have hszw := HK.out.size
      have hqw := H.out.lt (b := q) (.inl rfl)
      have hgw2 := HGW.out
      have hvo : ∀ b, b < w.heap.size → v2.ownBlock ≠ some b := fun b hb e => by have := HIN.out b (.inr (.inl e)); omega
      have HB5 := Lib.hid ((hgrw.blk (b := q2) (by omega) hvq).trans (HK4.out.block HZ.out.top))
      have hS := (⟨(World.cell?_of_block (a := ⟨q2, 0, none⟩) (hgrw.blk (b := q2) (by omega) hvq)).trans hS.1, (World.cell?_of_block (a := ⟨q, 0, none⟩) (hgrw.blk (b := q) (by omega) (hvo q hqw))).trans hS.2.1, (World.cell?_of_block (a := ⟨g, k * 2, none⟩) (hgrw.blk (b := g) (by omega) (hvo g HGW.out))).trans hS.2.2.1, (World.cell?_of_block (a := ⟨g, k * 2 + 1, none⟩) (hgrw.blk (b := g) (by omega) (hvo g HGW.out))).trans hS.2.2.2⟩ : _ ∧ _ ∧ _ ∧ _)
      rw [HV2.out] at hrun
      have HRUN := Lib.hid hrun
      have HOWN := Lib.hid hown
      have HGRW := Lib.hid hgrw
      clear hrun hown hgrw hv' hvq hk4 hb4 HBB HKB hqs hsz4 hszw hqw hvo hrow
      refine wpAnyE_one (i := 25) (listed' := #[true, true, true, true, true, true, true, true, true, true, true, true, true, true, true, true, true, true, true, true, true, true, true, true, true, true, false, false, false]) (by rfl) (by kernel_rfl) (by kernel_rfl) (by rfl) (fun K hK => ?_)
      simp only [Act.put, List.getElem_toArray, List.getElem_cons_succ, List.getElem_cons_zero, List.setIfInBounds_toArray, List.set_cons_zero, List.set_cons_succ]
      refine wp_append_runX rfl rfl rfl HRUN.out ?_
      refine hK _ _ (fun _ => hS) ?_; clear hK K
      refine wpAnyE_one (i := 26) (listed' := #[true, true, true, true, true, true, true, true, true, true, true, true, true, true, true, true, true, true, true, true, true, true, true, true, true, true, true, false, false]) (by rfl) (by kernel_rfl) (by kernel_rfl) (by rfl) (fun K hK => ?_)
      simp only [Act.put, List.getElem_toArray, List.getElem_cons_succ, List.getElem_cons_zero, List.setIfInBounds_toArray, List.set_cons_zero, List.set_cons_succ]
      go_wp2
      refine hK _ _ (fun _ => hS) ?_; clear hK K
      refine wpAnyE_take (i := 27) (v := ?_) (listed' := #[true, true, true, true, true, true, true, true, true, true, true, true, true, true, true, true, true, true, true, true, true, true, true, true, true, true, true, true, false]) (by rfl) (by kernel_rfl) (by kernel_rfl) calm_put hS (by rfl) ?_ ?_
      rotate_left
      · intro W hW; clear hW; go_simp; try (with_reducible rfl)
      simp only [Act.put, List.getElem_toArray, List.getElem_cons_succ, List.getElem_cons_zero, List.setIfInBounds_toArray, List.set_cons_zero, List.set_cons_succ]
      refine wpAnyE_one (i := 28) (listed' := #[true, true, true, true, true, true, true, true, true, true, true, true, true, true, true, true, true, true, true, true, true, true, true, true, true, true, true, true, true]) (by rfl) (by kernel_rfl) (by kernel_rfl) (by rfl) (fun K hK => ?_)
      simp only [Act.put, List.getElem_toArray, List.getElem_cons_succ, List.getElem_cons_zero, List.setIfInBounds_toArray, List.set_cons_zero, List.set_cons_succ]
      refine wp_set_cellX _ _ rfl size_membs q2 0 rfl v3 rfl (by rw [HV'.out]; rfl) (by rw [HV'.out]; rfl) [v2] _ HB5.out (by simp) ?_
      intro w6 hw6
      refine hK _ _ (fun h => absurd rfl h) ?_; clear hK K
      refine wpAnyE_done (by kernel_rfl) ?_ _
      refine calm_normal ?_
      have hw6 : Wrote w5 w6 q2 [v3] 68 := hw6
      have hres := HZ.out.app (l := l) (jl := rest) (B := B) (d := x) (v' := v3) HK4.out hBs HB4.out (by rw [HPL.out]; exact HOWN.out) HGRW.out hw6
      rw [HTM.out] at hres
      obtain ⟨r1, r2, r3⟩ := hres
      have HZ2 := Lib.hid r1
      have HK2 := Lib.hid (But.to_kept HK.out r2 (fun b hb => HIN.out b hb))
      have HIN2 := Lib.hid (fun b hb => (r3 b hb).elim (fun h => HIN.out b h) (fun h => Nat.le_trans HK.out.size h))
      clear hw6 hS r1 r2 r3 HZ HIN HK4 HB4 HOWN HGRW
      go_wp2
      go_roundw
      case rel => exact ⟨k + 1, _, _, _, hlt, by go_num, HZ2, HK2, HIN2⟩
      case measure => simp [intOf]; omega
    · have hkk : k = M.length := by omega
      subst hkk
      rw [List.take_length] at HZ HIN
      have c0r := HK.out.cell' c0
      go_wp2
      go_ret
      exact ⟨q2, v2, tb2, tj2, rfl, HZ.out, HK.out, HIN.out⟩
end
end Go.Proofs.YtglplhmclfekfaaDoor
