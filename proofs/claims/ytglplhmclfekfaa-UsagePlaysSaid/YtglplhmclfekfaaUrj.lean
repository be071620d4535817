/- ref14: Clone (gen_urcl.py). -/
import Derived.Test.YtglplhmclfekfaaUri
namespace Go.Proofs.Ytglplhmclfekfaa
open Go.RowKit
set_option linter.unusedVariables false
set_option linter.unusedSimpArgs false

theorem own_at {W : World} {base e sz n : Nat} {v : Value} {xs : List Value} (h : W.ownsRow base e sz v n xs) {b : Nat} (hb : v.ownBlock = some b) : base ≤ b := by
  rcases h.2 with ⟨rfl, _⟩ | ⟨g, cap, cur, rfl, hbg, _⟩
  · simp [Value.ownBlock] at hb
  · simp only [Value.ownBlock, Option.some.injEq] at hb
    subst hb; exact hbg
theorem ne_made {W : World} {a b : Nat} {t t' : Nat} {cs cs' : Array Value} (h : W.heap[a]? = some (.cells cs t (0, 0))) (k : W.heap[b]? = some (.cells cs' t' (0, 0))) (ht : t ≠ t') : a ≠ b := fun e => by
  rw [e, k] at h
  injection h with h; injection h with _ h
  exact ht h.symm
theorem own_apart {W W' : World} {base e sz n : Nat} {v : Value} {xs : List Value} (ho : W.ownsRow base e sz v n xs) {B t' : Nat} {cs : Array Value} (hb : W.heap[B]? = some (.cells cs t' (0, 0))) (ht : t' ≠ e) (hbut : But (fun k => k = B) W W') : W'.ownsRow base e sz v n xs :=
  own_same ho fun g hg => hbut.block g (own_lt ho hg) fun e' => by
    obtain ⟨cur, hc⟩ := own_typeU ho hg
    exact ne_made hb hc ht e'.symm
/-- a row behind a row without elements -/
theorem run_clone_row {P : Program} {t e size bytes : Nat} (E : ElemT P t e size bytes) {W : World} {B0 : Nat} (hb : W.heap[B0]? = some (.cells #[] e (0, 0))) {v : Value} {n : Nat} {xs : List Value} (hv : W.ownsRow 0 e size v n xs) (h1 : ∀ u ∈ xs, u.oneCell' = true) (hn : n ≤ 20000) (hby : bytes ≤ 1000000) (ty : TypeId) :
    ∃ v' W', (Builtin.append_ #[t, t] ty #[.slice (some ⟨B0, 0, none⟩) 0 0, v]).run P W = .ok v' W' ∧ W'.ownsRow B0 e size v' n xs ∧ But (fun k => k = B0) W W' := by
  have hsrc : Src W size v n xs := by
    refine ⟨hv.1, ?_⟩
    rcases hv.2 with ⟨rfl, h0⟩ | ⟨g, cap, cur, rfl, hbg, hh, hnc, hcm, hcs, htk⟩
    · subst h0; exact ⟨none, 0, rfl, Nat.le_refl _, fun _ => ⟨rfl, rfl⟩, fun b hb => by cases hb⟩
    · refine ⟨some ⟨g, 0, none⟩, cap, rfl, hnc, (fun h => by cases h), fun b hb j u hu => ?_⟩
      cases hb
      have hj : j < xs.length := by
        rcases Nat.lt_or_ge j xs.length with h | h
        · exact h
        · rw [List.getElem?_eq_none h] at hu; cases hu
      have hcl : cur = cur.toList.toArray := by simp
      rw [hcl] at hh
      have hj2 : j < n * size := by rw [← hv.1]; exact hj
      rw [Addr.add_mid, Nat.zero_add, cell_of_row _ _ _ _ _ _ hh, ← hu, ← htk, List.getElem?_take, if_pos hj2]
      simp
  have ho : W.ownsRow B0 e size (.slice (some ⟨B0, 0, none⟩) 0 0) 0 [] := own_ge (own_made hb) fun B hB => by simp [Value.ownBlock] at hB; omega
  have hlt : B0 < W.heap.size := (Array.getElem?_eq_some_iff.1 hb).1
  obtain ⟨v', W', hr, _, hg, _, hown⟩ := run_append_app (P := P) W E ty B0 _ 0 [] (.inl ho) v n xs hsrc h1 (by simp only [maxLen]; omega) (Nat.le_trans (Nat.mul_le_mul (show 0 + n ≤ 20000 by omega) hby) (by decide)) (Nat.le_of_lt hlt)
  have := hown (.inr ho)
  rw [Nat.zero_add, List.nil_append] at this
  exact ⟨v', W', hr, this, (But.refl _ _).grown hg fun k hk => .inl (by simp [Value.ownBlock] at hk; exact hk.symm)⟩
theorem gV_one (G : UG) : ∀ u ∈ gV G, u.oneCell' = true := by
  intro u hu
  simp only [gV, List.mem_flatMap] at hu
  obtain ⟨p, _, hu⟩ := hu
  simp at hu; rcases hu with rfl | rfl <;> rfl
theorem lV_one (L : UL) : ∀ u ∈ lV L, u.oneCell' = true := by
  intro u hu
  simp only [lV, List.mem_flatMap] at hu
  obtain ⟨p, _, hu⟩ := hu
  simp at hu; rcases hu with rfl | rfl | rfl <;> rfl
section
variable {P : Program} {ops : Array Oper} {Q : Exit → Act → World → Prop} {md : Region.Mode} {S : World → Prop} {s : Nat}
/-- two may come up -/
theorem wpAnyE_two {i j : Nat} {oi oj : Oper} {fuel : Nat} {listed li lj : Array Bool} {a : Act} {w : World} (hi : ops[i]? = some oi) (hj : ops[j]? = some oj) (hr : Region.ready md ops listed = [i, j]) (hli : listed.setIfInBounds i true = li) (hlj : listed.setIfInBounds j true = lj) (gi : oi.guard = none) (gj : oj.guard = none)
    (h1 : ∀ K : Act → World → Prop, (∀ a' w', (i ≠ s → S w') → wpAnyE P md ops Q S s fuel li a' w' → K a' w') → oi.wp P a w K Q)
    (h2 : ∀ K : Act → World → Prop, (∀ a' w', (j ≠ s → S w') → wpAnyE P md ops Q S s fuel lj a' w' → K a' w') → oj.wp P a w K Q) : wpAnyE P md ops Q S s (fuel + 1) listed a w := by
  subst hli hlj
  refine ⟨(fun h0 => (by rw [h0] at hr; cases hr)), fun k hk => ?_⟩
  rw [hr] at hk
  have hw1 : Region.wanted oi (yielded ops a.tmps) = true := by simp [Region.wanted, gi]
  have hw2 : Region.wanted oj (yielded ops a.tmps) = true := by simp [Region.wanted, gj]
  simp only [List.mem_cons, List.mem_nil_iff, or_false] at hk
  unfold wpOp
  rcases hk with rfl | rfl
  · simp only [hi, hw1, if_true]
    exact .inl (h1 _ fun a' w' h1 h2 => ⟨h1, h2⟩)
  · simp only [hj, hw2, if_true]
    exact .inl (h2 _ fun a' w' h1 h2 => ⟨h1, h2⟩)
end
section
variable {w : World} {q c : Nat} {G : UG} {L : UL} {T : Tab} {vg vl : Value}
set_option maxHeartbeats 2000000
set_option maxRecDepth 100000
theorem ur_Clone (h : UD w q G L vg vl) (hg : G.length ≤ 20000) (hl : L.length ≤ 20000) :
    Calls Try.prog 23 #[.pointer (some ⟨q, 0, none⟩)] w fun e w' => ∃ q' vg' vl', e = .returned (.pointer (some ⟨q', 0, none⟩)) ∧ UD w' q' G L vg' vl' ∧ Kept w w' ∧ ∀ b, InU q' vg' vl' b → w.heap.size ≤ b := by
  have H := Lib.hid h
  obtain ⟨ag, cg, hvg⟩ := h.formG
  obtain ⟨al, cl, hvl⟩ := h.formL
  have HVG := Lib.hid hvg
  have HVL := Lib.hid hvl
  have c0 := h.c0
  have c1 := h.c1
  rw [hvg] at c0
  rw [hvl] at c1
  have HGL := Lib.hid hg
  have HLL := Lib.hid hl
  clear h hvg hvl hg hl
  go_enter Try.func23, Try.ntmps23
  go_upto_region 1 with fail
  have hS : w.drew.cell? ⟨q, 0, none⟩ = some (.slice ag G.length cg) ∧ w.drew.cell? ⟨q, 1, none⟩ = some (.slice al L.length cl) := ⟨c0, c1⟩
  have HK := Lib.hid (Kept.refl w)
  have HK0 := HK
  have HKp := HK
  refine wp_region_calm ?_
  refine wp_region_E (fun W => W.cell? ⟨q, 0, none⟩ = some (.slice ag G.length cg) ∧ W.cell? ⟨q, 1, none⟩ = some (.slice al L.length cl)) 100 (by kernel_rfl) ?_
  refine wpAnyE_take (i := 1) (v := ?_) (listed' := #[false, true, false, false, false, false, false, false, false, false, false, false, false, false, false]) (by rfl) (by kernel_rfl) (by kernel_rfl) calm_put hS (by rfl) ?_ ?_
  rotate_left
  · intro W hW; clear hW; go_simp; try (with_reducible rfl)
  simp only [Act.put, List.getElem_toArray, List.getElem_cons_succ, List.getElem_cons_zero, List.setIfInBounds_toArray, List.set_cons_zero, List.set_cons_succ]
  refine wpAnyE_take (i := 2) (v := ?_) (listed' := #[false, true, true, false, false, false, false, false, false, false, false, false, false, false, false]) (by rfl) (by kernel_rfl) (by kernel_rfl) calm_put hS (by rfl) ?_ ?_
  rotate_left
  · intro W hW; clear hW; go_simp; try (with_reducible rfl)
  simp only [Act.put, List.getElem_toArray, List.getElem_cons_succ, List.getElem_cons_zero, List.setIfInBounds_toArray, List.set_cons_zero, List.set_cons_succ]
  refine wpAnyE_take (i := 3) (v := ?_) (listed' := #[false, true, true, true, false, false, false, false, false, false, false, false, false, false, false]) (by rfl) (by kernel_rfl) (by kernel_rfl) calm_put hS (by rfl) ?_ ?_
  rotate_left
  · intro W hW; clear hW; go_simp; try (with_reducible rfl)
  simp only [Act.put, List.getElem_toArray, List.getElem_cons_succ, List.getElem_cons_zero, List.setIfInBounds_toArray, List.set_cons_zero, List.set_cons_succ]
  refine wpAnyE_take (i := 4) (v := ?_) (listed' := #[false, true, true, true, true, false, false, false, false, false, false, false, false, false, false]) (by rfl) (by kernel_rfl) (by kernel_rfl) calm_put hS (by rfl) ?_ ?_
  rotate_left
  · intro W hW; obtain ⟨c0, c1⟩ := hW; go_simp; try (with_reducible rfl)
  simp only [Act.put, List.getElem_toArray, List.getElem_cons_succ, List.getElem_cons_zero, List.setIfInBounds_toArray, List.set_cons_zero, List.set_cons_succ]
  refine wpAnyE_take (i := 7) (v := ?_) (listed' := #[false, true, true, true, true, false, false, true, false, false, false, false, false, false, false]) (by rfl) (by kernel_rfl) (by kernel_rfl) calm_put hS (by rfl) ?_ ?_
  rotate_left
  · intro W hW; clear hW; go_simp; try (with_reducible rfl)
  simp only [Act.put, List.getElem_toArray, List.getElem_cons_succ, List.getElem_cons_zero, List.setIfInBounds_toArray, List.set_cons_zero, List.set_cons_succ]
  refine wpAnyE_take (i := 8) (v := ?_) (listed' := #[false, true, true, true, true, false, false, true, true, false, false, false, false, false, false]) (by rfl) (by kernel_rfl) (by kernel_rfl) calm_put hS (by rfl) ?_ ?_
  rotate_left
  · intro W hW; clear hW; go_simp; try (with_reducible rfl)
  simp only [Act.put, List.getElem_toArray, List.getElem_cons_succ, List.getElem_cons_zero, List.setIfInBounds_toArray, List.set_cons_zero, List.set_cons_succ]
  refine wpAnyE_take (i := 9) (v := ?_) (listed' := #[false, true, true, true, true, false, false, true, true, true, false, false, false, false, false]) (by rfl) (by kernel_rfl) (by kernel_rfl) calm_put hS (by rfl) ?_ ?_
  rotate_left
  · intro W hW; clear hW; go_simp; try (with_reducible rfl)
  simp only [Act.put, List.getElem_toArray, List.getElem_cons_succ, List.getElem_cons_zero, List.setIfInBounds_toArray, List.set_cons_zero, List.set_cons_succ]
  refine wpAnyE_take (i := 10) (v := ?_) (listed' := #[false, true, true, true, true, false, false, true, true, true, true, false, false, false, false]) (by rfl) (by kernel_rfl) (by kernel_rfl) calm_put hS (by rfl) ?_ ?_
  rotate_left
  · intro W hW; obtain ⟨c0, c1⟩ := hW; go_simp; try (with_reducible rfl)
  simp only [Act.put, List.getElem_toArray, List.getElem_cons_succ, List.getElem_cons_zero, List.setIfInBounds_toArray, List.set_cons_zero, List.set_cons_succ]
  refine wpAnyE_two (i := 0) (j := 6) (li := #[true, true, true, true, true, false, false, true, true, true, true, false, false, false, false]) (lj := #[false, true, true, true, true, false, true, true, true, true, true, false, false, false, false]) (by rfl) (by rfl) (by kernel_rfl) (by kernel_rfl) (by kernel_rfl) (by rfl) (by rfl) (fun K hK => ?_) (fun K hK => ?_)
  · simp only [Act.put, List.getElem_toArray, List.getElem_cons_succ, List.getElem_cons_zero, List.setIfInBounds_toArray, List.set_cons_zero, List.set_cons_succ]
    go_wp2
    have hkA := ((Kept.refl w).alloc (Obj.cells #[] 172)).drew
    have HBG : Hid (((w.alloc (Obj.cells #[] 172)).drew).heap[w.heap.size]? = some (.cells #[] 172 (0, 0))) := Lib.hid (heap_alloc_new w (Obj.cells #[] 172))
    have hS := (⟨hkA.cell' hS.1, hkA.cell' hS.2⟩ : _ ∧ _)
    have HK := Lib.hid (HK.out.trans hkA)
    refine hK _ _ (fun _ => hS) ?_; clear hK K
    obtain ⟨BG, hBG⟩ : ∃ B, B = w.heap.size := ⟨_, rfl⟩
    rw [← hBG] at HBG ⊢
    have hGG : w.heap.size ≤ BG := by have := HK0.out.size; omega
    generalize (w.alloc (Obj.cells #[] 172)).drew = W1 at *
    clear hkA hBG
    have HKp := HK
    refine wpAnyE_two (i := 5) (j := 6) (li := #[true, true, true, true, true, true, false, true, true, true, true, false, false, false, false]) (lj := #[true, true, true, true, true, false, true, true, true, true, true, false, false, false, false]) (by rfl) (by rfl) (by kernel_rfl) (by kernel_rfl) (by kernel_rfl) (by rfl) (by rfl) (fun K hK => ?_) (fun K hK => ?_)
    · simp only [Act.put, List.getElem_toArray, List.getElem_cons_succ, List.getElem_cons_zero, List.setIfInBounds_toArray, List.set_cons_zero, List.set_cons_succ]
      obtain ⟨vG, W2, hrun, hown, hbut⟩ := run_clone_row ty_grps HBG.out (H.out.kept HK.out).gr (gV_one G) HGL.out (by decide) 122
      rw [HVG.out] at hrun
      have HBx := HBG
      have hk2 : Kept w W2 := But.to_kept HK.out hbut (fun b hb => by rw [hb]; exact hGG)
      have HOG := Lib.hid hown
      have HK := Lib.hid hk2
      have hd := H.out.kept hk2
      refine wp_append_runU rfl rfl rfl hrun ?_
      have hS := (⟨hd.c0.trans (by rw [HVG.out]), hd.c1.trans (by rw [HVL.out])⟩ : W2.cell? ⟨q, 0, none⟩ = some (.slice ag G.length cg) ∧ W2.cell? ⟨q, 1, none⟩ = some (.slice al L.length cl))
      refine hK _ _ (fun _ => hS) ?_; clear hK K
      clear hrun hown hbut hk2 hd HBx HBG
      have HKp := HK
      refine wpAnyE_one (i := 6) (listed' := #[true, true, true, true, true, true, true, true, true, true, true, false, false, false, false]) (by rfl) (by kernel_rfl) (by kernel_rfl) (by rfl) (fun K hK => ?_)
      simp only [Act.put, List.getElem_toArray, List.getElem_cons_succ, List.getElem_cons_zero, List.setIfInBounds_toArray, List.set_cons_zero, List.set_cons_succ]
      go_wp2
      have hkA := ((Kept.refl W2).alloc (Obj.cells #[] 175))
      have HBL : Hid ((W2.alloc (Obj.cells #[] 175)).heap[W2.heap.size]? = some (.cells #[] 175 (0, 0))) := Lib.hid (heap_alloc_new W2 (Obj.cells #[] 175))
      have HOG := Lib.hid (own_same HOG.out fun g hg => hkA.block_eq (own_lt HOG.out hg))
      have hS := (⟨hkA.cell' hS.1, hkA.cell' hS.2⟩ : _ ∧ _)
      have HK := Lib.hid (HK.out.trans hkA)
      refine hK _ _ (fun _ => hS) ?_; clear hK K
      obtain ⟨BL, hBL⟩ : ∃ B, B = W2.heap.size := ⟨_, rfl⟩
      rw [← hBL] at HBL ⊢
      have hGL : w.heap.size ≤ BL := by have := HKp.out.size; omega
      generalize W2.alloc (Obj.cells #[] 175) = W4 at *
      clear hkA hBL
      have HKp := HK
      refine wpAnyE_one (i := 11) (listed' := #[true, true, true, true, true, true, true, true, true, true, true, true, false, false, false]) (by rfl) (by kernel_rfl) (by kernel_rfl) (by rfl) (fun K hK => ?_)
      simp only [Act.put, List.getElem_toArray, List.getElem_cons_succ, List.getElem_cons_zero, List.setIfInBounds_toArray, List.set_cons_zero, List.set_cons_succ]
      obtain ⟨vL, W5, hrun, hown, hbut⟩ := run_clone_row ty_livs HBL.out (H.out.kept HK.out).lr (lV_one L) HLL.out (by decide) 123
      rw [HVL.out] at hrun
      have HBx := HBL
      have hk2 : Kept w W5 := But.to_kept HK.out hbut (fun b hb => by rw [hb]; exact hGL)
      have HOG := Lib.hid (own_apart HOG.out HBx.out (by decide) hbut)
      have HOL := Lib.hid hown
      have HK := Lib.hid hk2
      have hd := H.out.kept hk2
      refine wp_append_runU rfl rfl rfl hrun ?_
      have hS := (⟨hd.c0.trans (by rw [HVG.out]), hd.c1.trans (by rw [HVL.out])⟩ : W5.cell? ⟨q, 0, none⟩ = some (.slice ag G.length cg) ∧ W5.cell? ⟨q, 1, none⟩ = some (.slice al L.length cl))
      refine hK _ _ (fun _ => hS) ?_; clear hK K
      clear hrun hown hbut hk2 hd HBx HBL
      have HKp := HK
      obtain ⟨a1, e1, rfl⟩ := own_form HOG.out
      obtain ⟨a2, e2, rfl⟩ := own_form HOL.out
      refine wpAnyE_take (i := 12) (v := ?_) (listed' := #[true, true, true, true, true, true, true, true, true, true, true, true, true, false, false]) (by rfl) (by kernel_rfl) (by kernel_rfl) calm_put hS (by rfl) ?_ ?_
      rotate_left
      · intro W hW; clear hW; go_simp; try (with_reducible rfl)
      simp only [Act.put, List.getElem_toArray, List.getElem_cons_succ, List.getElem_cons_zero, List.setIfInBounds_toArray, List.set_cons_zero, List.set_cons_succ]
      refine wpAnyE_one (i := 13) (listed' := #[true, true, true, true, true, true, true, true, true, true, true, true, true, true, false]) (by rfl) (by kernel_rfl) (by kernel_rfl) (by rfl) (fun K hK => ?_)
      simp only [Act.put, List.getElem_toArray, List.getElem_cons_succ, List.getElem_cons_zero, List.setIfInBounds_toArray, List.set_cons_zero, List.set_cons_succ]
      go_wp2
      have hkE := (Kept.refl W5).alloc (Obj.cells #[.slice a1 G.length e1, .slice a2 L.length e2] 125)
      have hbE := heap_alloc_new W5 (Obj.cells #[.slice a1 G.length e1, .slice a2 L.length e2] 125)
      have hS := (⟨hkE.cell' hS.1, hkE.cell' hS.2⟩ : _ ∧ _)
      refine hK _ _ (fun _ => hS) ?_; clear hK K
      refine wpAnyE_one (i := 14) (listed' := #[true, true, true, true, true, true, true, true, true, true, true, true, true, true, true]) (by rfl) (by kernel_rfl) (by kernel_rfl) (by rfl) (fun K hK => ?_)
      simp only [Act.put, List.getElem_toArray, List.getElem_cons_succ, List.getElem_cons_zero, List.setIfInBounds_toArray, List.set_cons_zero, List.set_cons_succ]
      go_wp2
      refine hK _ _ (fun _ => hS) ?_; clear hK K
      refine wpAnyE_done (by kernel_rfl) ?_ _
      refine calm_normal ?_
      go_wp2
      go_ret
      have hsz := HK.out.size
      refine ⟨_, _, _, rfl, ⟨hbE, own_same (ownsRow_base HOG.out (Nat.zero_le _)) fun g hg => hkE.block_eq (own_lt HOG.out hg), own_same (ownsRow_base HOL.out (Nat.zero_le _)) fun g hg => hkE.block_eq (own_lt HOL.out hg)⟩, HK.out.trans hkE, fun b hb => ?_⟩
      rcases hb with rfl | hb | hb
      · exact hsz
      · have := own_at HOG.out hb
        omega
      · have := own_at HOL.out hb
        omega
    · simp only [Act.put, List.getElem_toArray, List.getElem_cons_succ, List.getElem_cons_zero, List.setIfInBounds_toArray, List.set_cons_zero, List.set_cons_succ]
      go_wp2
      have hkA := ((Kept.refl W1).alloc (Obj.cells #[] 175))
      have HBL : Hid ((W1.alloc (Obj.cells #[] 175)).heap[W1.heap.size]? = some (.cells #[] 175 (0, 0))) := Lib.hid (heap_alloc_new W1 (Obj.cells #[] 175))
      have HBG := Lib.hid (hkA.block HBG.out)
      have hS := (⟨hkA.cell' hS.1, hkA.cell' hS.2⟩ : _ ∧ _)
      have HK := Lib.hid (HK.out.trans hkA)
      refine hK _ _ (fun _ => hS) ?_; clear hK K
      obtain ⟨BL, hBL⟩ : ∃ B, B = W1.heap.size := ⟨_, rfl⟩
      rw [← hBL] at HBL ⊢
      have hGL : w.heap.size ≤ BL := by have := HKp.out.size; omega
      generalize W1.alloc (Obj.cells #[] 175) = W3 at *
      clear hkA hBL
      have HKp := HK
      refine wpAnyE_one (i := 5) (listed' := #[true, true, true, true, true, true, true, true, true, true, true, false, false, false, false]) (by rfl) (by kernel_rfl) (by kernel_rfl) (by rfl) (fun K hK => ?_)
      simp only [Act.put, List.getElem_toArray, List.getElem_cons_succ, List.getElem_cons_zero, List.setIfInBounds_toArray, List.set_cons_zero, List.set_cons_succ]
      obtain ⟨vG, W6, hrun, hown, hbut⟩ := run_clone_row ty_grps HBG.out (H.out.kept HK.out).gr (gV_one G) HGL.out (by decide) 122
      rw [HVG.out] at hrun
      have HBx := HBG
      have hk2 : Kept w W6 := But.to_kept HK.out hbut (fun b hb => by rw [hb]; exact hGG)
      have HBL := Lib.hid ((hbut.block _ (Array.getElem?_eq_some_iff.1 HBL.out).1 (fun e => ne_made HBL.out HBx.out (by decide) e)).trans HBL.out)
      have HOG := Lib.hid hown
      have HK := Lib.hid hk2
      have hd := H.out.kept hk2
      refine wp_append_runU rfl rfl rfl hrun ?_
      have hS := (⟨hd.c0.trans (by rw [HVG.out]), hd.c1.trans (by rw [HVL.out])⟩ : W6.cell? ⟨q, 0, none⟩ = some (.slice ag G.length cg) ∧ W6.cell? ⟨q, 1, none⟩ = some (.slice al L.length cl))
      refine hK _ _ (fun _ => hS) ?_; clear hK K
      clear hrun hown hbut hk2 hd HBx HBG
      have HKp := HK
      refine wpAnyE_one (i := 11) (listed' := #[true, true, true, true, true, true, true, true, true, true, true, true, false, false, false]) (by rfl) (by kernel_rfl) (by kernel_rfl) (by rfl) (fun K hK => ?_)
      simp only [Act.put, List.getElem_toArray, List.getElem_cons_succ, List.getElem_cons_zero, List.setIfInBounds_toArray, List.set_cons_zero, List.set_cons_succ]
      obtain ⟨vL, W7, hrun, hown, hbut⟩ := run_clone_row ty_livs HBL.out (H.out.kept HK.out).lr (lV_one L) HLL.out (by decide) 123
      rw [HVL.out] at hrun
      have HBx := HBL
      have hk2 : Kept w W7 := But.to_kept HK.out hbut (fun b hb => by rw [hb]; exact hGL)
      have HOG := Lib.hid (own_apart HOG.out HBx.out (by decide) hbut)
      have HOL := Lib.hid hown
      have HK := Lib.hid hk2
      have hd := H.out.kept hk2
      refine wp_append_runU rfl rfl rfl hrun ?_
      have hS := (⟨hd.c0.trans (by rw [HVG.out]), hd.c1.trans (by rw [HVL.out])⟩ : W7.cell? ⟨q, 0, none⟩ = some (.slice ag G.length cg) ∧ W7.cell? ⟨q, 1, none⟩ = some (.slice al L.length cl))
      refine hK _ _ (fun _ => hS) ?_; clear hK K
      clear hrun hown hbut hk2 hd HBx HBL
      have HKp := HK
      obtain ⟨a1, e1, rfl⟩ := own_form HOG.out
      obtain ⟨a2, e2, rfl⟩ := own_form HOL.out
      refine wpAnyE_take (i := 12) (v := ?_) (listed' := #[true, true, true, true, true, true, true, true, true, true, true, true, true, false, false]) (by rfl) (by kernel_rfl) (by kernel_rfl) calm_put hS (by rfl) ?_ ?_
      rotate_left
      · intro W hW; clear hW; go_simp; try (with_reducible rfl)
      simp only [Act.put, List.getElem_toArray, List.getElem_cons_succ, List.getElem_cons_zero, List.setIfInBounds_toArray, List.set_cons_zero, List.set_cons_succ]
      refine wpAnyE_one (i := 13) (listed' := #[true, true, true, true, true, true, true, true, true, true, true, true, true, true, false]) (by rfl) (by kernel_rfl) (by kernel_rfl) (by rfl) (fun K hK => ?_)
      simp only [Act.put, List.getElem_toArray, List.getElem_cons_succ, List.getElem_cons_zero, List.setIfInBounds_toArray, List.set_cons_zero, List.set_cons_succ]
      go_wp2
      have hkE := (Kept.refl W7).alloc (Obj.cells #[.slice a1 G.length e1, .slice a2 L.length e2] 125)
      have hbE := heap_alloc_new W7 (Obj.cells #[.slice a1 G.length e1, .slice a2 L.length e2] 125)
      have hS := (⟨hkE.cell' hS.1, hkE.cell' hS.2⟩ : _ ∧ _)
      refine hK _ _ (fun _ => hS) ?_; clear hK K
      refine wpAnyE_one (i := 14) (listed' := #[true, true, true, true, true, true, true, true, true, true, true, true, true, true, true]) (by rfl) (by kernel_rfl) (by kernel_rfl) (by rfl) (fun K hK => ?_)
      simp only [Act.put, List.getElem_toArray, List.getElem_cons_succ, List.getElem_cons_zero, List.setIfInBounds_toArray, List.set_cons_zero, List.set_cons_succ]
      go_wp2
      refine hK _ _ (fun _ => hS) ?_; clear hK K
      refine wpAnyE_done (by kernel_rfl) ?_ _
      refine calm_normal ?_
      go_wp2
      go_ret
      have hsz := HK.out.size
      refine ⟨_, _, _, rfl, ⟨hbE, own_same (ownsRow_base HOG.out (Nat.zero_le _)) fun g hg => hkE.block_eq (own_lt HOG.out hg), own_same (ownsRow_base HOL.out (Nat.zero_le _)) fun g hg => hkE.block_eq (own_lt HOL.out hg)⟩, HK.out.trans hkE, fun b hb => ?_⟩
      rcases hb with rfl | hb | hb
      · exact hsz
      · have := own_at HOG.out hb
        omega
      · have := own_at HOL.out hb
        omega
  · simp only [Act.put, List.getElem_toArray, List.getElem_cons_succ, List.getElem_cons_zero, List.setIfInBounds_toArray, List.set_cons_zero, List.set_cons_succ]
    go_wp2
    have hkA := ((Kept.refl w).alloc (Obj.cells #[] 175)).drew
    have HBL : Hid (((w.alloc (Obj.cells #[] 175)).drew).heap[w.heap.size]? = some (.cells #[] 175 (0, 0))) := Lib.hid (heap_alloc_new w (Obj.cells #[] 175))
    have hS := (⟨hkA.cell' hS.1, hkA.cell' hS.2⟩ : _ ∧ _)
    have HK := Lib.hid (HK.out.trans hkA)
    refine hK _ _ (fun _ => hS) ?_; clear hK K
    obtain ⟨BL, hBL⟩ : ∃ B, B = w.heap.size := ⟨_, rfl⟩
    rw [← hBL] at HBL ⊢
    have hGL : w.heap.size ≤ BL := by have := HK0.out.size; omega
    generalize (w.alloc (Obj.cells #[] 175)).drew = W8 at *
    clear hkA hBL
    have HKp := HK
    refine wpAnyE_one (i := 0) (listed' := #[true, true, true, true, true, false, true, true, true, true, true, false, false, false, false]) (by rfl) (by kernel_rfl) (by kernel_rfl) (by rfl) (fun K hK => ?_)
    simp only [Act.put, List.getElem_toArray, List.getElem_cons_succ, List.getElem_cons_zero, List.setIfInBounds_toArray, List.set_cons_zero, List.set_cons_succ]
    go_wp2
    have hkA := ((Kept.refl W8).alloc (Obj.cells #[] 172))
    have HBG : Hid ((W8.alloc (Obj.cells #[] 172)).heap[W8.heap.size]? = some (.cells #[] 172 (0, 0))) := Lib.hid (heap_alloc_new W8 (Obj.cells #[] 172))
    have HBL := Lib.hid (hkA.block HBL.out)
    have hS := (⟨hkA.cell' hS.1, hkA.cell' hS.2⟩ : _ ∧ _)
    have HK := Lib.hid (HK.out.trans hkA)
    refine hK _ _ (fun _ => hS) ?_; clear hK K
    obtain ⟨BG, hBG⟩ : ∃ B, B = W8.heap.size := ⟨_, rfl⟩
    rw [← hBG] at HBG ⊢
    have hGG : w.heap.size ≤ BG := by have := HKp.out.size; omega
    generalize W8.alloc (Obj.cells #[] 172) = W9 at *
    clear hkA hBG
    have HKp := HK
    refine wpAnyE_one (i := 5) (listed' := #[true, true, true, true, true, true, true, true, true, true, true, false, false, false, false]) (by rfl) (by kernel_rfl) (by kernel_rfl) (by rfl) (fun K hK => ?_)
    simp only [Act.put, List.getElem_toArray, List.getElem_cons_succ, List.getElem_cons_zero, List.setIfInBounds_toArray, List.set_cons_zero, List.set_cons_succ]
    obtain ⟨vG, W10, hrun, hown, hbut⟩ := run_clone_row ty_grps HBG.out (H.out.kept HK.out).gr (gV_one G) HGL.out (by decide) 122
    rw [HVG.out] at hrun
    have HBx := HBG
    have hk2 : Kept w W10 := But.to_kept HK.out hbut (fun b hb => by rw [hb]; exact hGG)
    have HBL := Lib.hid ((hbut.block _ (Array.getElem?_eq_some_iff.1 HBL.out).1 (fun e => ne_made HBL.out HBx.out (by decide) e)).trans HBL.out)
    have HOG := Lib.hid hown
    have HK := Lib.hid hk2
    have hd := H.out.kept hk2
    refine wp_append_runU rfl rfl rfl hrun ?_
    have hS := (⟨hd.c0.trans (by rw [HVG.out]), hd.c1.trans (by rw [HVL.out])⟩ : W10.cell? ⟨q, 0, none⟩ = some (.slice ag G.length cg) ∧ W10.cell? ⟨q, 1, none⟩ = some (.slice al L.length cl))
    refine hK _ _ (fun _ => hS) ?_; clear hK K
    clear hrun hown hbut hk2 hd HBx HBG
    have HKp := HK
    refine wpAnyE_one (i := 11) (listed' := #[true, true, true, true, true, true, true, true, true, true, true, true, false, false, false]) (by rfl) (by kernel_rfl) (by kernel_rfl) (by rfl) (fun K hK => ?_)
    simp only [Act.put, List.getElem_toArray, List.getElem_cons_succ, List.getElem_cons_zero, List.setIfInBounds_toArray, List.set_cons_zero, List.set_cons_succ]
    obtain ⟨vL, W11, hrun, hown, hbut⟩ := run_clone_row ty_livs HBL.out (H.out.kept HK.out).lr (lV_one L) HLL.out (by decide) 123
    rw [HVL.out] at hrun
    have HBx := HBL
    have hk2 : Kept w W11 := But.to_kept HK.out hbut (fun b hb => by rw [hb]; exact hGL)
    have HOG := Lib.hid (own_apart HOG.out HBx.out (by decide) hbut)
    have HOL := Lib.hid hown
    have HK := Lib.hid hk2
    have hd := H.out.kept hk2
    refine wp_append_runU rfl rfl rfl hrun ?_
    have hS := (⟨hd.c0.trans (by rw [HVG.out]), hd.c1.trans (by rw [HVL.out])⟩ : W11.cell? ⟨q, 0, none⟩ = some (.slice ag G.length cg) ∧ W11.cell? ⟨q, 1, none⟩ = some (.slice al L.length cl))
    refine hK _ _ (fun _ => hS) ?_; clear hK K
    clear hrun hown hbut hk2 hd HBx HBL
    have HKp := HK
    obtain ⟨a1, e1, rfl⟩ := own_form HOG.out
    obtain ⟨a2, e2, rfl⟩ := own_form HOL.out
    refine wpAnyE_take (i := 12) (v := ?_) (listed' := #[true, true, true, true, true, true, true, true, true, true, true, true, true, false, false]) (by rfl) (by kernel_rfl) (by kernel_rfl) calm_put hS (by rfl) ?_ ?_
    rotate_left
    · intro W hW; clear hW; go_simp; try (with_reducible rfl)
    simp only [Act.put, List.getElem_toArray, List.getElem_cons_succ, List.getElem_cons_zero, List.setIfInBounds_toArray, List.set_cons_zero, List.set_cons_succ]
    refine wpAnyE_one (i := 13) (listed' := #[true, true, true, true, true, true, true, true, true, true, true, true, true, true, false]) (by rfl) (by kernel_rfl) (by kernel_rfl) (by rfl) (fun K hK => ?_)
    simp only [Act.put, List.getElem_toArray, List.getElem_cons_succ, List.getElem_cons_zero, List.setIfInBounds_toArray, List.set_cons_zero, List.set_cons_succ]
    go_wp2
    have hkE := (Kept.refl W11).alloc (Obj.cells #[.slice a1 G.length e1, .slice a2 L.length e2] 125)
    have hbE := heap_alloc_new W11 (Obj.cells #[.slice a1 G.length e1, .slice a2 L.length e2] 125)
    have hS := (⟨hkE.cell' hS.1, hkE.cell' hS.2⟩ : _ ∧ _)
    refine hK _ _ (fun _ => hS) ?_; clear hK K
    refine wpAnyE_one (i := 14) (listed' := #[true, true, true, true, true, true, true, true, true, true, true, true, true, true, true]) (by rfl) (by kernel_rfl) (by kernel_rfl) (by rfl) (fun K hK => ?_)
    simp only [Act.put, List.getElem_toArray, List.getElem_cons_succ, List.getElem_cons_zero, List.setIfInBounds_toArray, List.set_cons_zero, List.set_cons_succ]
    go_wp2
    refine hK _ _ (fun _ => hS) ?_; clear hK K
    refine wpAnyE_done (by kernel_rfl) ?_ _
    refine calm_normal ?_
    go_wp2
    go_ret
    have hsz := HK.out.size
    refine ⟨_, _, _, rfl, ⟨hbE, own_same (ownsRow_base HOG.out (Nat.zero_le _)) fun g hg => hkE.block_eq (own_lt HOG.out hg), own_same (ownsRow_base HOL.out (Nat.zero_le _)) fun g hg => hkE.block_eq (own_lt HOL.out hg)⟩, HK.out.trans hkE, fun b hb => ?_⟩
    rcases hb with rfl | hb | hb
    · exact hsz
    · have := own_at HOG.out hb
      omega
    · have := own_at HOL.out hb
      omega
end
end Go.Proofs.Ytglplhmclfekfaa
