/- law06: does (gen_does06.py). -/
import Derived.Test.YtglplhmclfekfaaDoorRvt
namespace Go.Proofs.YtglplhmclfekfaaDoor
open Go.RowKit
set_option linter.unusedVariables false
set_option linter.unusedSimpArgs false

theorem exec_load_ext {W : World} {a : Act} {o : Oper} (x : Operand) (ho : o.op = .load 33 x) (b : Nat) (hx : a.eval x = .pointer (some ⟨b, 0, none⟩)) (d n : Int) (hc : Cells W b 0 [.int .i64 d, .int .i64 n]) :
    (execOp a.eval o).run Tryd.prog W = .ok (.value (.agg #[.int .i64 d, .int .i64 n])) W := by
  obtain ⟨⟨dd, hd1, hd2⟩, hs⟩ := ty_ext
  unfold execOp
  simp only [ho, hx, Instr.loadAt, Instr.sureAddr, Sem.run_bind, Sem.run_pure, Result.andThen_ok, run_loadVar_mid W b 0 33 [.int .i64 d, .int .i64 n] dd (rangeAt_of_cells hc) hd1 hd2 (by rw [hs]; rfl)]
section
variable {w0 W : World} {R : Nat → Prop} {q q2 c : Nat} {E : XT} {M : RM} {v : Value} {tb : Nat → Nat} {tj : Nat → List Value}
set_option maxHeartbeats 2000000
set_option maxRecDepth 100000
theorem law_does06 (h : PX w0 R W q q2 E c M v tb tj) (hT : DbAt w0) (hc : c ≤ 1000) (kd d n : Int) (hd : IsI64 d) (hn : IsI64 n) :
    Calls Tryd.prog 19 #[.pointer (some ⟨q, 0, none⟩), .pointer (some ⟨q2, 0, none⟩), .agg #[.int .i64 kd, .int .i64 d, .int .i64 n]] W fun e w' => e = .returned (.bool true) ∧ ∃ E' M' v' tb' tj', PX w0 R w' q q2 E' (c + 1) M' v' tb' tj' ∧ SameR R W w' := by
  have HT := Lib.hid hT
  have HD := Lib.hid hd
  have HN := Lib.hid hn
  have hk1 := (Kept.refl W).alloc (Obj.cells #[.int .i64 kd, .int .i64 d, .int .i64 n] 43)
  have hb1 : _ = some (Obj.cells [Value.int .i64 kd, .int .i64 d, .int .i64 n].toArray 43 (0, 0)) := heap_alloc_new W (Obj.cells #[.int .i64 kd, .int .i64 d, .int .i64 n] 43)
  have HS1 := Lib.hid (h.kept hk1).2
  have HP1 := Lib.hid (h.more hk1 W.heap.size (Nat.le_refl _) (Array.getElem?_eq_some_iff.1 hb1).1)
  have p0 := cell_of_row _ _ 0 _ _ _ hb1
  have p1 := cell_of_row _ _ 1 _ _ _ hb1
  have p2 := cell_of_row _ _ 2 _ _ _ hb1
  have HB1 := Lib.hid hb1
  clear h hT hd hn hk1 hb1
  go_enter Tryd.func19, Tryd.ntmps19
  go_wp2_with (refine stop_at (o := ⟨some 7, _, _, _, _, _⟩) ?_)
  obtain ⟨Bo, hBo⟩ : ∃ Bo, Bo = W.heap.size := ⟨_, rfl⟩
  rw [← hBo] at p0 p1 p2 HB1 HP1 ⊢
  generalize W.alloc (Obj.cells #[.int .i64 kd, .int .i64 d, .int .i64 n] 43) = w1 at *
  clear hBo
  refine Stop.mk ?_
  refine wpList_new_agg rfl rfl _ _ rfl rfl ty_ext [Value.int .i64 0, .int .i64 0] zero_ext rfl [Value.int .i64 d, .int .i64 n] rfl rfl (by simp [Value.oneCell']) rfl ?_
  intro w2 hz2 hs2 hk2
  have HB := Lib.hid (⟨hk2.block HB1.out, hz2.out⟩ : _ ∧ _)
  have HP2 := Lib.hid (HP1.out.more hk2 w1.heap.size (Nat.le_refl _) hs2)
  have HS0 := Lib.hid (fun k (hk : R k) => ((HP1.out.kept hk2).2 k (.inl hk)).trans (HS1.out k hk))
  have p0 := hk2.cell' p0
  obtain ⟨Be, hBe⟩ : ∃ Be, Be = w1.heap.size := ⟨_, rfl⟩
  rw [← hBe] at HB HP2 ⊢
  have HP := HP2
  clear hz2 hs2 hk2 p1 p2 HB1 HP1 HP2 HS1 hBe
  have LESS : Hid (∀ k, R k → (R k ∨ k = Bo) ∨ k = Be) := Lib.hid fun k hk => .inl (.inl hk)
  by_cases e1 : kd = 1
  · subst e1
    go_upto_region 4 with fail
    have HPD := Lib.hid (HP.out.kept (Kept.refl w2).drew).1
    have hS := HB.out
    refine wp_region_calm ?_
    refine wp_region_E (fun W => W.heap[Bo]? = some (.cells [.int .i64 1, .int .i64 d, .int .i64 n].toArray 43 (0, 0)) ∧ W.heap[Be]? = some (.cells [.int .i64 d, .int .i64 n].toArray 33 (0, 0))) 100 (by kernel_rfl) ?_
    refine wpAnyE_take (i := 0) (v := ?_) (listed' := #[true, false, false, false, false, false, false, false, false, false, false, false, false, false]) (by rfl) (by kernel_rfl) (by kernel_rfl) calm_put hS (by rfl) ?_ ?_
    rotate_left
    · intro W hW; clear hW; go_simp; try (with_reducible rfl)
    simp only [Act.put, List.getElem_toArray, List.getElem_cons_succ, List.getElem_cons_zero, List.setIfInBounds_toArray, List.set_cons_zero, List.set_cons_succ]
    refine wpAnyE_take (i := 1) (v := ?_) (listed' := #[true, true, false, false, false, false, false, false, false, false, false, false, false, false]) (by rfl) (by kernel_rfl) (by kernel_rfl) calm_put hS (by rfl) ?_ ?_
    rotate_left
    · intro W hW; clear hW; go_simp; try (with_reducible rfl)
    simp only [Act.put, List.getElem_toArray, List.getElem_cons_succ, List.getElem_cons_zero, List.setIfInBounds_toArray, List.set_cons_zero, List.set_cons_succ]
    refine wpAnyE_take (i := 2) (v := ?_) (listed' := #[true, true, true, false, false, false, false, false, false, false, false, false, false, false]) (by rfl) (by kernel_rfl) (by kernel_rfl) calm_put hS (by rfl) ?_ ?_
    rotate_left
    · intro W hW; obtain ⟨hb, he⟩ := hW; have c1 := cell_of_row _ _ 1 _ _ _ hb; have c2 := cell_of_row _ _ 2 _ _ _ hb; clear hb he; go_simp; try (with_reducible rfl)
    simp only [Act.put, List.getElem_toArray, List.getElem_cons_succ, List.getElem_cons_zero, List.setIfInBounds_toArray, List.set_cons_zero, List.set_cons_succ]
    refine wpAnyE_take (i := 3) (v := ?_) (listed' := #[true, true, true, true, false, false, false, false, false, false, false, false, false, false]) (by rfl) (by kernel_rfl) (by kernel_rfl) calm_put hS (by rfl) ?_ ?_
    rotate_left
    · intro W hW; clear hW; go_simp; try (with_reducible rfl)
    simp only [Act.put, List.getElem_toArray, List.getElem_cons_succ, List.getElem_cons_zero, List.setIfInBounds_toArray, List.set_cons_zero, List.set_cons_succ]
    refine wpAnyE_take (i := 4) (v := ?_) (listed' := #[true, true, true, true, true, false, false, false, false, false, false, false, false, false]) (by rfl) (by kernel_rfl) (by kernel_rfl) calm_put hS (by rfl) ?_ ?_
    rotate_left
    · intro W hW; obtain ⟨hb, he⟩ := hW; have c1 := cell_of_row _ _ 1 _ _ _ hb; have c2 := cell_of_row _ _ 2 _ _ _ hb; clear hb he; go_simp; try (with_reducible rfl)
    simp only [Act.put, List.getElem_toArray, List.getElem_cons_succ, List.getElem_cons_zero, List.setIfInBounds_toArray, List.set_cons_zero, List.set_cons_succ]
    refine wpAnyE_take (i := 6) (v := ?_) (listed' := #[true, true, true, true, true, false, true, false, false, false, false, false, false, false]) (by rfl) (by kernel_rfl) (by kernel_rfl) calm_put hS (by rfl) ?_ ?_
    rotate_left
    · intro W hW; clear hW; go_simp; try (with_reducible rfl)
    simp only [Act.put, List.getElem_toArray, List.getElem_cons_succ, List.getElem_cons_zero, List.setIfInBounds_toArray, List.set_cons_zero, List.set_cons_succ]
    refine wpAnyE_take (i := 7) (v := ?_) (listed' := #[true, true, true, true, true, false, true, true, false, false, false, false, false, false]) (by rfl) (by kernel_rfl) (by kernel_rfl) calm_put hS (by rfl) ?_ ?_
    rotate_left
    · intro W hW; clear hW; go_simp; try (with_reducible rfl)
    simp only [Act.put, List.getElem_toArray, List.getElem_cons_succ, List.getElem_cons_zero, List.setIfInBounds_toArray, List.set_cons_zero, List.set_cons_succ]
    refine wpAnyE_take (i := 8) (v := ?_) (listed' := #[true, true, true, true, true, false, true, true, true, false, false, false, false, false]) (by rfl) (by kernel_rfl) (by kernel_rfl) calm_put hS (by rfl) ?_ ?_
    rotate_left
    · intro W hW; obtain ⟨hb, he⟩ := hW; have c1 := cell_of_row _ _ 1 _ _ _ hb; have c2 := cell_of_row _ _ 2 _ _ _ hb; clear hb he; go_simp; try (with_reducible rfl)
    simp only [Act.put, List.getElem_toArray, List.getElem_cons_succ, List.getElem_cons_zero, List.setIfInBounds_toArray, List.set_cons_zero, List.set_cons_succ]
    refine wpAnyE_take (i := 9) (v := ?_) (listed' := #[true, true, true, true, true, false, true, true, true, true, false, false, false, false]) (by rfl) (by kernel_rfl) (by kernel_rfl) calm_put hS (by rfl) ?_ ?_
    rotate_left
    · intro W hW; clear hW; go_simp; try (with_reducible rfl)
    simp only [Act.put, List.getElem_toArray, List.getElem_cons_succ, List.getElem_cons_zero, List.setIfInBounds_toArray, List.set_cons_zero, List.set_cons_succ]
    refine wpAnyE_take (i := 10) (v := ?_) (listed' := #[true, true, true, true, true, false, true, true, true, true, true, false, false, false]) (by rfl) (by kernel_rfl) (by kernel_rfl) calm_put hS (by rfl) ?_ ?_
    rotate_left
    · intro W hW; obtain ⟨hb, he⟩ := hW; have c1 := cell_of_row _ _ 1 _ _ _ hb; have c2 := cell_of_row _ _ 2 _ _ _ hb; clear hb he; go_simp; try (with_reducible rfl)
    simp only [Act.put, List.getElem_toArray, List.getElem_cons_succ, List.getElem_cons_zero, List.setIfInBounds_toArray, List.set_cons_zero, List.set_cons_succ]
    refine wpAnyE_one (i := 5) (listed' := #[true, true, true, true, true, true, true, true, true, true, true, false, false, false]) (by rfl) (by kernel_rfl) (by kernel_rfl) (by rfl) (fun K hK => ?_)
    simp only [Act.put, List.getElem_toArray, List.getElem_cons_succ, List.getElem_cons_zero, List.setIfInBounds_toArray, List.set_cons_zero, List.set_cons_succ]
    go_wp2_with fail
    refine Calls.mono (px_Add HPD.out d n) ?_
    rintro e w3 ⟨rfl, hp3, hs3⟩
    have HP3 := Lib.hid hp3
    have HS3 := Lib.hid hs3
    have hS := (⟨(hs3 Bo (.inl (.inr rfl))).trans hS.1, (hs3 Be (.inr rfl)).trans hS.2⟩ : _ ∧ _)
    refine hK _ _ (fun _ => hS) ?_; clear hK K
    clear hp3 hs3
    refine wpAnyE_one (i := 11) (listed' := #[true, true, true, true, true, true, true, true, true, true, true, true, false, false]) (by rfl) (by kernel_rfl) (by kernel_rfl) (by rfl) (fun K hK => ?_)
    simp only [Act.put, List.getElem_toArray, List.getElem_cons_succ, List.getElem_cons_zero, List.setIfInBounds_toArray, List.set_cons_zero, List.set_cons_succ]
    go_wp2_with fail
    refine Calls.mono (px_Add2 HP3.out HD.out hc) ?_
    rintro e w4 ⟨rfl, E4, M4, v4, tb4, tj4, hp4, hs4⟩
    have HP4 := Lib.hid hp4
    have HS4 := Lib.hid hs4
    have hS := (⟨(hs4 Bo (.inl (.inr rfl))).trans hS.1, (hs4 Be (.inr rfl)).trans hS.2⟩ : _ ∧ _)
    refine hK _ _ (fun _ => hS) ?_; clear hK K
    clear hp4 hs4
    refine wpAnyE_take (i := 12) (v := ?_) (listed' := #[true, true, true, true, true, true, true, true, true, true, true, true, true, false]) (by rfl) (by kernel_rfl) (by kernel_rfl) calm_put hS (by rfl) ?_ ?_
    rotate_left
    · intro W hW; clear hW; go_simp; try (with_reducible rfl)
    simp only [Act.put, List.getElem_toArray, List.getElem_cons_succ, List.getElem_cons_zero, List.setIfInBounds_toArray, List.set_cons_zero, List.set_cons_succ]
    refine wpAnyE_one (i := 13) (listed' := #[true, true, true, true, true, true, true, true, true, true, true, true, true, true]) (by rfl) (by kernel_rfl) (by kernel_rfl) (by rfl) (fun K hK => ?_)
    simp only [Act.put, List.getElem_toArray, List.getElem_cons_succ, List.getElem_cons_zero, List.setIfInBounds_toArray, List.set_cons_zero, List.set_cons_succ]
    go_wp2
    refine hK _ _ (fun _ => hS) ?_; clear hK K
    refine wpAnyE_done (by kernel_rfl) ?_ _
    refine calm_normal ?_
    clear hS
    go_wp2
    go_ret
    exact ⟨by simp, E4, M4, v4, tb4, tj4, HP4.out.less LESS.out, fun k hk => (HS4.out k (.inl (.inl hk))).trans ((HS3.out k (.inl (.inl hk))).trans (HS0.out k hk))⟩
  have k1 : (kd == 1) = false := by simpa using e1
  clear e1
  by_cases e1 : kd = 3
  · subst e1
    go_upto_region 6 with fail
    have HPD := Lib.hid (HP.out.kept (Kept.refl w2).drew).1
    have hS := HB.out
    refine wp_region_calm ?_
    refine wp_region_E (fun W => W.heap[Bo]? = some (.cells [.int .i64 3, .int .i64 d, .int .i64 n].toArray 43 (0, 0)) ∧ W.heap[Be]? = some (.cells [.int .i64 d, .int .i64 n].toArray 33 (0, 0))) 100 (by kernel_rfl) ?_
    refine wpAnyE_take (i := 0) (v := ?_) (listed' := #[true, false, false, false, false, false, false, false]) (by rfl) (by kernel_rfl) (by kernel_rfl) calm_put hS (by rfl) ?_ ?_
    rotate_left
    · intro W hW; clear hW; go_simp; try (with_reducible rfl)
    simp only [Act.put, List.getElem_toArray, List.getElem_cons_succ, List.getElem_cons_zero, List.setIfInBounds_toArray, List.set_cons_zero, List.set_cons_succ]
    refine wpAnyE_take (i := 1) (v := .agg #[.int .i64 d, .int .i64 n]) (listed' := #[true, true, false, false, false, false, false, false]) (by rfl) (by kernel_rfl) (by kernel_rfl) calm_put hS (by rfl) ?_ ?_
    · intro W hW; have hc0 := Cells.of_block hW.2; obtain ⟨hb, he⟩ := hW; have c1 := cell_of_row _ _ 1 _ _ _ hb; have c2 := cell_of_row _ _ 2 _ _ _ hb; clear hb he; exact exec_load_ext _ rfl Be rfl d n hc0
    simp only [Act.put, List.getElem_toArray, List.getElem_cons_succ, List.getElem_cons_zero, List.setIfInBounds_toArray, List.set_cons_zero, List.set_cons_succ]
    refine wpAnyE_take (i := 3) (v := ?_) (listed' := #[true, true, false, true, false, false, false, false]) (by rfl) (by kernel_rfl) (by kernel_rfl) calm_put hS (by rfl) ?_ ?_
    rotate_left
    · intro W hW; clear hW; go_simp; try (with_reducible rfl)
    simp only [Act.put, List.getElem_toArray, List.getElem_cons_succ, List.getElem_cons_zero, List.setIfInBounds_toArray, List.set_cons_zero, List.set_cons_succ]
    refine wpAnyE_take (i := 4) (v := .agg #[.int .i64 d, .int .i64 n]) (listed' := #[true, true, false, true, true, false, false, false]) (by rfl) (by kernel_rfl) (by kernel_rfl) calm_put hS (by rfl) ?_ ?_
    · intro W hW; have hc0 := Cells.of_block hW.2; obtain ⟨hb, he⟩ := hW; have c1 := cell_of_row _ _ 1 _ _ _ hb; have c2 := cell_of_row _ _ 2 _ _ _ hb; clear hb he; exact exec_load_ext _ rfl Be rfl d n hc0
    simp only [Act.put, List.getElem_toArray, List.getElem_cons_succ, List.getElem_cons_zero, List.setIfInBounds_toArray, List.set_cons_zero, List.set_cons_succ]
    refine wpAnyE_one (i := 2) (listed' := #[true, true, true, true, true, false, false, false]) (by rfl) (by kernel_rfl) (by kernel_rfl) (by rfl) (fun K hK => ?_)
    simp only [Act.put, List.getElem_toArray, List.getElem_cons_succ, List.getElem_cons_zero, List.setIfInBounds_toArray, List.set_cons_zero, List.set_cons_succ]
    go_wp2_with fail
    refine Calls.mono (px_TakeAt HPD.out d n HN.out) ?_
    rintro e w3 ⟨rfl, hp3, hs3⟩
    have HP3 := Lib.hid hp3
    have HS3 := Lib.hid hs3
    have hS := (⟨(hs3 Bo (.inl (.inr rfl))).trans hS.1, (hs3 Be (.inr rfl)).trans hS.2⟩ : _ ∧ _)
    refine hK _ _ (fun _ => hS) ?_; clear hK K
    clear hp3 hs3
    refine wpAnyE_one (i := 5) (listed' := #[true, true, true, true, true, true, false, false]) (by rfl) (by kernel_rfl) (by kernel_rfl) (by rfl) (fun K hK => ?_)
    simp only [Act.put, List.getElem_toArray, List.getElem_cons_succ, List.getElem_cons_zero, List.setIfInBounds_toArray, List.set_cons_zero, List.set_cons_succ]
    go_wp2_with fail
    refine Calls.mono (px_TakeAt2 HP3.out) ?_
    rintro e w4 ⟨rfl, E4, M4, hp4, hs4⟩
    have HP4 := Lib.hid hp4
    have HS4 := Lib.hid hs4
    have hS := (⟨(hs4 Bo (.inl (.inr rfl))).trans hS.1, (hs4 Be (.inr rfl)).trans hS.2⟩ : _ ∧ _)
    refine hK _ _ (fun _ => hS) ?_; clear hK K
    clear hp4 hs4
    refine wpAnyE_take (i := 6) (v := ?_) (listed' := #[true, true, true, true, true, true, true, false]) (by rfl) (by kernel_rfl) (by kernel_rfl) calm_put hS (by rfl) ?_ ?_
    rotate_left
    · intro W hW; clear hW; go_simp; try (with_reducible rfl)
    simp only [Act.put, List.getElem_toArray, List.getElem_cons_succ, List.getElem_cons_zero, List.setIfInBounds_toArray, List.set_cons_zero, List.set_cons_succ]
    refine wpAnyE_one (i := 7) (listed' := #[true, true, true, true, true, true, true, true]) (by rfl) (by kernel_rfl) (by kernel_rfl) (by rfl) (fun K hK => ?_)
    simp only [Act.put, List.getElem_toArray, List.getElem_cons_succ, List.getElem_cons_zero, List.setIfInBounds_toArray, List.set_cons_zero, List.set_cons_succ]
    go_wp2
    refine hK _ _ (fun _ => hS) ?_; clear hK K
    refine wpAnyE_done (by kernel_rfl) ?_ _
    refine calm_normal ?_
    clear hS
    go_wp2
    go_ret
    exact ⟨by simp, E4, M4, v, tb, tj, (HP4.out.less LESS.out).c1, fun k hk => (HS4.out k (.inl (.inl hk))).trans ((HS3.out k (.inl (.inl hk))).trans (HS0.out k hk))⟩
  have k3 : (kd == 3) = false := by simpa using e1
  clear e1
  by_cases e1 : kd = 4
  · subst e1
    go_upto_region 8 with fail
    have HPD := Lib.hid (HP.out.kept (Kept.refl w2).drew).1
    have hS := HB.out
    refine wp_region_calm ?_
    refine wp_region_E (fun W => W.heap[Bo]? = some (.cells [.int .i64 4, .int .i64 d, .int .i64 n].toArray 43 (0, 0)) ∧ W.heap[Be]? = some (.cells [.int .i64 d, .int .i64 n].toArray 33 (0, 0))) 100 (by kernel_rfl) ?_
    refine wpAnyE_take (i := 0) (v := ?_) (listed' := #[true, false, false, false, false, false, false, false]) (by rfl) (by kernel_rfl) (by kernel_rfl) calm_put hS (by rfl) ?_ ?_
    rotate_left
    · intro W hW; clear hW; go_simp; try (with_reducible rfl)
    simp only [Act.put, List.getElem_toArray, List.getElem_cons_succ, List.getElem_cons_zero, List.setIfInBounds_toArray, List.set_cons_zero, List.set_cons_succ]
    refine wpAnyE_take (i := 1) (v := .agg #[.int .i64 d, .int .i64 n]) (listed' := #[true, true, false, false, false, false, false, false]) (by rfl) (by kernel_rfl) (by kernel_rfl) calm_put hS (by rfl) ?_ ?_
    · intro W hW; have hc0 := Cells.of_block hW.2; obtain ⟨hb, he⟩ := hW; have c1 := cell_of_row _ _ 1 _ _ _ hb; have c2 := cell_of_row _ _ 2 _ _ _ hb; clear hb he; exact exec_load_ext _ rfl Be rfl d n hc0
    simp only [Act.put, List.getElem_toArray, List.getElem_cons_succ, List.getElem_cons_zero, List.setIfInBounds_toArray, List.set_cons_zero, List.set_cons_succ]
    refine wpAnyE_take (i := 3) (v := ?_) (listed' := #[true, true, false, true, false, false, false, false]) (by rfl) (by kernel_rfl) (by kernel_rfl) calm_put hS (by rfl) ?_ ?_
    rotate_left
    · intro W hW; clear hW; go_simp; try (with_reducible rfl)
    simp only [Act.put, List.getElem_toArray, List.getElem_cons_succ, List.getElem_cons_zero, List.setIfInBounds_toArray, List.set_cons_zero, List.set_cons_succ]
    refine wpAnyE_take (i := 4) (v := .agg #[.int .i64 d, .int .i64 n]) (listed' := #[true, true, false, true, true, false, false, false]) (by rfl) (by kernel_rfl) (by kernel_rfl) calm_put hS (by rfl) ?_ ?_
    · intro W hW; have hc0 := Cells.of_block hW.2; obtain ⟨hb, he⟩ := hW; have c1 := cell_of_row _ _ 1 _ _ _ hb; have c2 := cell_of_row _ _ 2 _ _ _ hb; clear hb he; exact exec_load_ext _ rfl Be rfl d n hc0
    simp only [Act.put, List.getElem_toArray, List.getElem_cons_succ, List.getElem_cons_zero, List.setIfInBounds_toArray, List.set_cons_zero, List.set_cons_succ]
    refine wpAnyE_one (i := 2) (listed' := #[true, true, true, true, true, false, false, false]) (by rfl) (by kernel_rfl) (by kernel_rfl) (by rfl) (fun K hK => ?_)
    simp only [Act.put, List.getElem_toArray, List.getElem_cons_succ, List.getElem_cons_zero, List.setIfInBounds_toArray, List.set_cons_zero, List.set_cons_succ]
    go_wp2_with fail
    refine Calls.mono (px_Free HPD.out d n HN.out) ?_
    rintro e w3 ⟨rfl, hp3, hs3⟩
    have HP3 := Lib.hid hp3
    have HS3 := Lib.hid hs3
    have hS := (⟨(hs3 Bo (.inl (.inr rfl))).trans hS.1, (hs3 Be (.inr rfl)).trans hS.2⟩ : _ ∧ _)
    refine hK _ _ (fun _ => hS) ?_; clear hK K
    clear hp3 hs3
    refine wpAnyE_one (i := 5) (listed' := #[true, true, true, true, true, true, false, false]) (by rfl) (by kernel_rfl) (by kernel_rfl) (by rfl) (fun K hK => ?_)
    simp only [Act.put, List.getElem_toArray, List.getElem_cons_succ, List.getElem_cons_zero, List.setIfInBounds_toArray, List.set_cons_zero, List.set_cons_succ]
    go_wp2_with fail
    refine Calls.mono (px_Free2 HP3.out) ?_
    rintro e w4 ⟨rfl, E4, M4, hp4, hs4⟩
    have HP4 := Lib.hid hp4
    have HS4 := Lib.hid hs4
    have hS := (⟨(hs4 Bo (.inl (.inr rfl))).trans hS.1, (hs4 Be (.inr rfl)).trans hS.2⟩ : _ ∧ _)
    refine hK _ _ (fun _ => hS) ?_; clear hK K
    clear hp4 hs4
    refine wpAnyE_take (i := 6) (v := ?_) (listed' := #[true, true, true, true, true, true, true, false]) (by rfl) (by kernel_rfl) (by kernel_rfl) calm_put hS (by rfl) ?_ ?_
    rotate_left
    · intro W hW; clear hW; go_simp; try (with_reducible rfl)
    simp only [Act.put, List.getElem_toArray, List.getElem_cons_succ, List.getElem_cons_zero, List.setIfInBounds_toArray, List.set_cons_zero, List.set_cons_succ]
    refine wpAnyE_one (i := 7) (listed' := #[true, true, true, true, true, true, true, true]) (by rfl) (by kernel_rfl) (by kernel_rfl) (by rfl) (fun K hK => ?_)
    simp only [Act.put, List.getElem_toArray, List.getElem_cons_succ, List.getElem_cons_zero, List.setIfInBounds_toArray, List.set_cons_zero, List.set_cons_succ]
    go_wp2
    refine hK _ _ (fun _ => hS) ?_; clear hK K
    refine wpAnyE_done (by kernel_rfl) ?_ _
    refine calm_normal ?_
    clear hS
    go_wp2
    go_ret
    exact ⟨by simp, E4, M4, v, tb, tj, (HP4.out.less LESS.out).c1, fun k hk => (HS4.out k (.inl (.inl hk))).trans ((HS3.out k (.inl (.inl hk))).trans (HS0.out k hk))⟩
  have k4 : (kd == 4) = false := by simpa using e1
  clear e1
  by_cases e1 : kd = 5
  · subst e1
    go_upto_region 10 with fail
    have HPD := Lib.hid (HP.out.kept (Kept.refl w2).drew).1
    have hS := HB.out
    refine wp_region_calm ?_
    refine wp_region_E (fun W => W.heap[Bo]? = some (.cells [.int .i64 5, .int .i64 d, .int .i64 n].toArray 43 (0, 0)) ∧ W.heap[Be]? = some (.cells [.int .i64 d, .int .i64 n].toArray 33 (0, 0))) 100 (by kernel_rfl) ?_
    refine wpAnyE_take (i := 0) (v := ?_) (listed' := #[true, false, false, false, false, false, false, false]) (by rfl) (by kernel_rfl) (by kernel_rfl) calm_put hS (by rfl) ?_ ?_
    rotate_left
    · intro W hW; clear hW; go_simp; try (with_reducible rfl)
    simp only [Act.put, List.getElem_toArray, List.getElem_cons_succ, List.getElem_cons_zero, List.setIfInBounds_toArray, List.set_cons_zero, List.set_cons_succ]
    refine wpAnyE_take (i := 1) (v := .agg #[.int .i64 d, .int .i64 n]) (listed' := #[true, true, false, false, false, false, false, false]) (by rfl) (by kernel_rfl) (by kernel_rfl) calm_put hS (by rfl) ?_ ?_
    · intro W hW; have hc0 := Cells.of_block hW.2; obtain ⟨hb, he⟩ := hW; have c1 := cell_of_row _ _ 1 _ _ _ hb; have c2 := cell_of_row _ _ 2 _ _ _ hb; clear hb he; exact exec_load_ext _ rfl Be rfl d n hc0
    simp only [Act.put, List.getElem_toArray, List.getElem_cons_succ, List.getElem_cons_zero, List.setIfInBounds_toArray, List.set_cons_zero, List.set_cons_succ]
    refine wpAnyE_take (i := 3) (v := ?_) (listed' := #[true, true, false, true, false, false, false, false]) (by rfl) (by kernel_rfl) (by kernel_rfl) calm_put hS (by rfl) ?_ ?_
    rotate_left
    · intro W hW; clear hW; go_simp; try (with_reducible rfl)
    simp only [Act.put, List.getElem_toArray, List.getElem_cons_succ, List.getElem_cons_zero, List.setIfInBounds_toArray, List.set_cons_zero, List.set_cons_succ]
    refine wpAnyE_take (i := 4) (v := .agg #[.int .i64 d, .int .i64 n]) (listed' := #[true, true, false, true, true, false, false, false]) (by rfl) (by kernel_rfl) (by kernel_rfl) calm_put hS (by rfl) ?_ ?_
    · intro W hW; have hc0 := Cells.of_block hW.2; obtain ⟨hb, he⟩ := hW; have c1 := cell_of_row _ _ 1 _ _ _ hb; have c2 := cell_of_row _ _ 2 _ _ _ hb; clear hb he; exact exec_load_ext _ rfl Be rfl d n hc0
    simp only [Act.put, List.getElem_toArray, List.getElem_cons_succ, List.getElem_cons_zero, List.setIfInBounds_toArray, List.set_cons_zero, List.set_cons_succ]
    refine wpAnyE_one (i := 2) (listed' := #[true, true, true, true, true, false, false, false]) (by rfl) (by kernel_rfl) (by kernel_rfl) (by rfl) (fun K hK => ?_)
    simp only [Act.put, List.getElem_toArray, List.getElem_cons_succ, List.getElem_cons_zero, List.setIfInBounds_toArray, List.set_cons_zero, List.set_cons_succ]
    go_wp2_with fail
    refine Calls.mono (px_Has HPD.out d n HN.out) ?_
    rintro e w3 ⟨rfl, hp3, hs3⟩
    have HP3 := Lib.hid hp3
    have HS3 := Lib.hid hs3
    have hS := (⟨(hs3 Bo (.inl (.inr rfl))).trans hS.1, (hs3 Be (.inr rfl)).trans hS.2⟩ : _ ∧ _)
    refine hK _ _ (fun _ => hS) ?_; clear hK K
    clear hp3 hs3
    refine wpAnyE_one (i := 5) (listed' := #[true, true, true, true, true, true, false, false]) (by rfl) (by kernel_rfl) (by kernel_rfl) (by rfl) (fun K hK => ?_)
    simp only [Act.put, List.getElem_toArray, List.getElem_cons_succ, List.getElem_cons_zero, List.setIfInBounds_toArray, List.set_cons_zero, List.set_cons_succ]
    go_wp2_with fail
    refine Calls.mono (px_Has2 HP3.out) ?_
    rintro e w4 ⟨rfl, E4, M4, hp4, hs4⟩
    have HP4 := Lib.hid hp4
    have HS4 := Lib.hid hs4
    have hS := (⟨(hs4 Bo (.inl (.inr rfl))).trans hS.1, (hs4 Be (.inr rfl)).trans hS.2⟩ : _ ∧ _)
    refine hK _ _ (fun _ => hS) ?_; clear hK K
    clear hp4 hs4
    refine wpAnyE_take (i := 6) (v := ?_) (listed' := #[true, true, true, true, true, true, true, false]) (by rfl) (by kernel_rfl) (by kernel_rfl) calm_put hS (by rfl) ?_ ?_
    rotate_left
    · intro W hW; clear hW; go_simp; try (with_reducible rfl)
    simp only [Act.put, List.getElem_toArray, List.getElem_cons_succ, List.getElem_cons_zero, List.setIfInBounds_toArray, List.set_cons_zero, List.set_cons_succ]
    refine wpAnyE_one (i := 7) (listed' := #[true, true, true, true, true, true, true, true]) (by rfl) (by kernel_rfl) (by kernel_rfl) (by rfl) (fun K hK => ?_)
    simp only [Act.put, List.getElem_toArray, List.getElem_cons_succ, List.getElem_cons_zero, List.setIfInBounds_toArray, List.set_cons_zero, List.set_cons_succ]
    go_wp2
    refine hK _ _ (fun _ => hS) ?_; clear hK K
    refine wpAnyE_done (by kernel_rfl) ?_ _
    refine calm_normal ?_
    clear hS
    go_wp2
    go_ret
    exact ⟨by simp, E4, M4, v, tb, tj, (HP4.out.less LESS.out).c1, fun k hk => (HS4.out k (.inl (.inl hk))).trans ((HS3.out k (.inl (.inl hk))).trans (HS0.out k hk))⟩
  have k5 : (kd == 5) = false := by simpa using e1
  clear e1
  have p1 := cell_of_row _ _ 1 _ _ _ HB.out.1
  go_wp2_with fail
  refine Calls.mono (px_Take HP.out HT.out d) ?_
  rintro e w3 ⟨x, E3, rfl, ht, hp3, hs3⟩
  obtain ⟨a1, a2, a3, rfl⟩ := ht.form
  have HTK := Lib.hid ht
  have HP3 := Lib.hid hp3
  have HS3 := Lib.hid (fun k (hk : R k) => (hs3 k (.inl (.inl hk))).trans (HS0.out k hk))
  have p1 := (World.cell?_of_block (a := ⟨Bo, 1, none⟩) (hs3 Bo (.inl (.inr rfl)))).trans p1
  clear p0 ht hp3 hs3 HS0
  simp only [extV, exV]
  go_wp2_with (refine stop_at (o := ⟨some 8, _, _, _, _, _⟩) ?_)
  refine Stop.mk ?_
  refine wpList_new_agg rfl rfl _ _ rfl rfl ty_ext [Value.int .i64 0, .int .i64 0] zero_ext rfl [Value.int .i64 a1, .int .i64 a2] rfl rfl (by simp [Value.oneCell']) rfl ?_
  intro w4 hz4 hs4 hk4
  have hl3 : Hid (PXm w0 (fun k => ((R k ∨ k = Bo) ∨ k = Be) ∨ k = w3.heap.size) w4 q q2 E3 c M v tb tj) := Lib.hid (HP3.out.more hk4 w3.heap.size (Nat.le_refl _) hs4)
  have HS4 := Lib.hid (fun k (hk : R k) => ((HP3.out.kept hk4).2 k (.inl (.inl hk))).trans (HS3.out k hk))
  have p1 := hk4.cell' p1
  obtain ⟨Bx, hBx⟩ : ∃ Bx, Bx = w3.heap.size := ⟨_, rfl⟩
  rw [← hBx] at hz4 hl3 ⊢
  clear hs4 hk4 hBx HP3 HS3
  go_wp2_with fail
  refine Calls.mono (px_Take2 hl3.out HTK.out) ?_
  rintro e w5 ⟨rfl, M5, hp5, hs5⟩
  have HP5 := Lib.hid hp5
  have HX := Lib.hid ((hs5 Bx (.inr rfl)).trans hz4.out)
  have HS5 := Lib.hid (fun k (hk : R k) => (hs5 k (.inl (.inl (.inl hk)))).trans (HS4.out k hk))
  clear hp5 hs5 hl3 HS4 hz4 p1
  simp only [extV, exV]
  go_wp2_with (refine stop_at (o := ⟨some 10, _, _, _, _, _⟩) ?_)
  refine Stop.mk ?_
  refine wpList_new_agg rfl rfl _ _ rfl rfl ty_ext [Value.int .i64 0, .int .i64 0] zero_ext rfl [Value.int .i64 a1, .int .i64 a2] rfl rfl (by simp [Value.oneCell']) rfl ?_
  intro w6 hz6 hs6 hk6
  have HP6 := Lib.hid (HP5.out.kept hk6).1
  have HS6 := Lib.hid (fun k (hk : R k) => ((HP5.out.kept hk6).2 k (.inl (.inl (.inl hk)))).trans (HS5.out k hk))
  have HX6 := Lib.hid (hk6.block HX.out)
  obtain ⟨By, hBy⟩ : ∃ By, By = w5.heap.size := ⟨_, rfl⟩
  rw [← hBy] at hz6 ⊢
  clear hs6 hk6 hBy HP5 HS5 HX
  go_wp2_with (refine stop_at (o := ⟨some 75, _, _, _, _, _⟩) ?_)
  refine Stop.mk ?_
  refine wpList_load_agg rfl _ rfl ty_ext Bx 0 rfl _ (by simpa using Cells.of_block HX6.out) rfl ?_
  go_wp2_with (refine stop_at (o := ⟨some 76, _, _, _, _, _⟩) ?_)
  refine Stop.mk ?_
  refine wpList_load_agg rfl _ rfl ty_ext By 0 rfl _ (by simpa using Cells.of_block hz6.out) rfl ?_
  go_wp2
  go_ret
  exact ⟨by simp, E3, M5, v, tb, tj, (HP6.out.less fun k hk => .inl (.inl (.inl hk))).c1, HS6.out⟩
end
end Go.Proofs.YtglplhmclfekfaaDoor
