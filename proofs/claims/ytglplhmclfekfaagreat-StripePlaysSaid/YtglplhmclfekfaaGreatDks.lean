/- A disk.Bank: Add (gen_add.py). -/
import Derived.Test.YtglplhmclfekfaaGreatDkt
namespace Go.Proofs.YtglplhmclfekfaaGreat
open Go.RowKit
set_option linter.unusedVariables false
set_option linter.unusedSimpArgs false

theorem size_ptrs : (Tryz.prog.info? 75).map (·.size) = some 1 := by kernel_rfl
theorem wp_append_run {P : Program} {o : Oper} {a : Act} {w w' : World} {K : Act → World → Prop} {Q : Exit → Act → World → Prop} {s x : Operand} {t : TypeId} {v u v' : Value} (ho : o.op = .call { callee := .builtin .append, args := #[s, x], argTypes := #[t, t] }) (hs : a.eval s = v) (hx : a.eval x = u)
    (hr : (Builtin.append_ #[t, t] o.type #[v, u]).run P w = .ok v' w') (h : K (a.put o.dst v') w') : o.wp P a w K Q := by
  unfold Oper.wp execOp
  simp only [ho, resolve, invoke, builtin, Sem.run_bind, Sem.run_pure, Result.andThen_ok, List.map_toArray, List.map_cons, List.map_nil, hs, hx, hr]
  exact h
/-- One cell is set, in a drawn region. -/
theorem wp_set_cell {P : Program} {o : Oper} {a : Act} {w : World} {K : Act → World → Prop} {Q : Exit → Act → World → Prop} {T : Nat} (x y : Operand) (ho : o.op = .store T x y) (hT : (P.info? T).map (·.size) = some 1)
    (b off : Nat) (hx : a.eval x = .pointer (some ⟨b, off, none⟩)) (v : Value) (hy : a.eval y = v) (hv : v.cells = #[v]) (h1 : v.oneCell' = true)
    (cur : List Value) (t : TypeId) (hb : w.heap[b]? = some (.cells cur.toArray t (0, 0))) (hfit : off < cur.length)
    (h : ∀ w1, Wrote w w1 b (cur.set off v) t → K (a.put o.dst undef) w1) : o.wp P a w K Q := by
  have hst := run_storeCells_at P b off t [v] 0 cur.toArray w hb (by simp; omega) (by simpa using h1)
  cases hq : P.info? T with
  | none => simp [hq] at hT
  | some i =>
    have hi : i.size = 1 := by simpa [hq] using hT
    unfold Oper.wp execOp
    simp only [ho, hx, hy, Instr.storeAt, Instr.sureAddr, Sem.run_bind, Sem.run_pure, Result.andThen_ok, storeVar, sizeOf, typeInfo, run_program, hq, hv, hi, List.size_toArray, List.length_cons, List.length_nil, Nat.zero_add, ne_eq, not_true_eq_false, if_false, show (#[v] : Array Value).size = 1 from rfl, show (#[v] : Array Value) = [v].toArray from rfl, hst]
    refine h _ ⟨?_, ?_, ?_, rfl, rfl, rfl⟩
    · rw [setRow_heap w b _ _ t _ hb]
      simp [List.set_eq_take_append_cons_drop, hfit]
    · intro k hk; exact setRow_other w b k _ hk
    · simp
section
variable {w : World} {Y : Lay} {T : BankT}
set_option maxHeartbeats 1000000
set_option maxRecDepth 100000
theorem bank_Add (h : BankD w Y T) (hl : T.l.length < 32) (n : Nat) (hn1 : 1 ≤ n) (hn2 : n ≤ 4096) :
    Calls Tryz.prog 25 #[.pointer (some ⟨Y.A 0, 0, none⟩), .int .i64 (n : Int)] w fun e w' =>
      e = .returned (.tuple #[.int .i64 (T.l.length : Int), .int .i64 0]) ∧ ∃ Y' : Lay, BankD w' Y' (T.add n) ∧ Y'.A 0 = Y.A 0 ∧ (∀ b, Y'.In (T.l.length + 1) b → Y.In T.l.length b ∨ w.heap.size ≤ b) ∧ But (Y.In T.l.length) w w' := by
  obtain ⟨ao, cap, hli⟩ : ∃ ao cap, Y.list T.l.length = .slice ao T.l.length cap := by
    by_cases h0 : T.l.length = 0
    · exact ⟨none, 0, by simp [Lay.list, h0]⟩
    · exact ⟨some ⟨Y.A 1, 0, none⟩, Y.c, by simp [Lay.list, h0]⟩
  have b0 : w.cell? ⟨Y.A 0, 0, none⟩ = some (.slice ao T.l.length cap) := by
    rw [cell_of_row _ _ _ _ _ _ h.bank]; simp [bankVals, hli]
  have H := Lib.hid h
  have HLI := Lib.hid hli
  clear h hli
  go_enter Tryz.func25, Tryz.ntmps25
  go_upto_region 5 with fail
  have hS : w.drew.cell? ⟨Y.A 0, 0, none⟩ = some (.slice ao T.l.length cap) := b0
  refine wp_region_calm ?_
  refine wp_region_E (fun W => W.cell? ⟨Y.A 0, 0, none⟩ = some (.slice ao T.l.length cap)) 18 (by kernel_rfl) ?_
  refine wpAnyE_take (i := 0) (v := ?_) (listed' := #[true, false, false, false, false, false, false, false, false, false, false, false, false, false, false, false, false, false, false]) (by rfl) (by kernel_rfl) (by kernel_rfl) calm_put hS (by rfl) ?_ ?_
  rotate_left
  · intro W hW; clear hW; go_simp; try (with_reducible rfl)
  simp only [Act.put, List.getElem_toArray, List.getElem_cons_succ, List.getElem_cons_zero, List.setIfInBounds_toArray, List.set_cons_zero, List.set_cons_succ]
  refine wpAnyE_take (i := 1) (v := ?_) (listed' := #[true, true, false, false, false, false, false, false, false, false, false, false, false, false, false, false, false, false, false]) (by rfl) (by kernel_rfl) (by kernel_rfl) calm_put hS (by rfl) ?_ ?_
  rotate_left
  · intro W hW; clear hW; go_simp; try (with_reducible rfl)
  simp only [Act.put, List.getElem_toArray, List.getElem_cons_succ, List.getElem_cons_zero, List.setIfInBounds_toArray, List.set_cons_zero, List.set_cons_succ]
  refine wpAnyE_take (i := 2) (v := ?_) (listed' := #[true, true, true, false, false, false, false, false, false, false, false, false, false, false, false, false, false, false, false]) (by rfl) (by kernel_rfl) (by kernel_rfl) calm_put hS (by rfl) ?_ ?_
  rotate_left
  · intro W hW; clear hW; go_simp; try (with_reducible rfl)
  simp only [Act.put, List.getElem_toArray, List.getElem_cons_succ, List.getElem_cons_zero, List.setIfInBounds_toArray, List.set_cons_zero, List.set_cons_succ]
  refine wpAnyE_take (i := 3) (v := ?_) (listed' := #[true, true, true, true, false, false, false, false, false, false, false, false, false, false, false, false, false, false, false]) (by rfl) (by kernel_rfl) (by kernel_rfl) calm_put hS (by rfl) ?_ ?_
  rotate_left
  · intro W hW; clear hW; go_simp; try (with_reducible rfl)
  simp only [Act.put, List.getElem_toArray, List.getElem_cons_succ, List.getElem_cons_zero, List.setIfInBounds_toArray, List.set_cons_zero, List.set_cons_succ]
  refine wpAnyE_take (i := 4) (v := ?_) (listed' := #[true, true, true, true, true, false, false, false, false, false, false, false, false, false, false, false, false, false, false]) (by rfl) (by kernel_rfl) (by kernel_rfl) calm_put hS (by rfl) ?_ ?_
  rotate_left
  · intro W hW; have c0 := hW; go_simp; try (with_reducible rfl)
  simp only [Act.put, List.getElem_toArray, List.getElem_cons_succ, List.getElem_cons_zero, List.setIfInBounds_toArray, List.set_cons_zero, List.set_cons_succ]
  refine wpAnyE_take (i := 5) (v := ?_) (listed' := #[true, true, true, true, true, true, false, false, false, false, false, false, false, false, false, false, false, false, false]) (by rfl) (by kernel_rfl) (by kernel_rfl) calm_put hS (by rfl) ?_ ?_
  rotate_left
  · intro W hW; clear hW; go_simp; try (with_reducible rfl)
  simp only [Act.put, List.getElem_toArray, List.getElem_cons_succ, List.getElem_cons_zero, List.setIfInBounds_toArray, List.set_cons_zero, List.set_cons_succ]
  refine wpAnyE_take (i := 7) (v := ?_) (listed' := #[true, true, true, true, true, true, false, true, false, false, false, false, false, false, false, false, false, false, false]) (by rfl) (by kernel_rfl) (by kernel_rfl) calm_put hS (by rfl) ?_ ?_
  rotate_left
  · intro W hW; clear hW; go_simp; try (with_reducible rfl)
  simp only [Act.put, List.getElem_toArray, List.getElem_cons_succ, List.getElem_cons_zero, List.setIfInBounds_toArray, List.set_cons_zero, List.set_cons_succ]
  refine wpAnyE_take (i := 9) (v := ?_) (listed' := #[true, true, true, true, true, true, false, true, false, true, false, false, false, false, false, false, false, false, false]) (by rfl) (by kernel_rfl) (by kernel_rfl) calm_put hS (by rfl) ?_ ?_
  rotate_left
  · intro W hW; clear hW; go_simp; try (with_reducible rfl)
  simp only [Act.put, List.getElem_toArray, List.getElem_cons_succ, List.getElem_cons_zero, List.setIfInBounds_toArray, List.set_cons_zero, List.set_cons_succ]
  refine wpAnyE_makes (i := 6) (j := 8) (k := 10) (di := 26) (dj := 28) (dk := 30) (mi := 25) (mj := 27) (mk := 29) (n := n) (Li := #[true, true, true, true, true, true, true, true, false, true, false, false, false, false, false, false, false, false, false]) (Lj := #[true, true, true, true, true, true, false, true, true, true, false, false, false, false, false, false, false, false, false]) (Lk := #[true, true, true, true, true, true, false, true, false, true, true, false, false, false, false, false, false, false, false]) (Lij := #[true, true, true, true, true, true, true, true, true, true, false, false, false, false, false, false, false, false, false]) (Lik := #[true, true, true, true, true, true, true, true, false, true, true, false, false, false, false, false, false, false, false]) (Ljk := #[true, true, true, true, true, true, false, true, true, true, true, false, false, false, false, false, false, false, false]) (L3 := #[true, true, true, true, true, true, true, true, true, true, true, false, false, false, false, false, false, false, false]) rfl rfl rfl (by kernel_rfl) rfl rfl rfl (by kernel_rfl) (by kernel_rfl) (by kernel_rfl) rfl rfl rfl rfl rfl rfl (by kernel_rfl) (by kernel_rfl) (by kernel_rfl) rfl rfl rfl (makes_secs rfl rfl rfl hn2) (makes_secs rfl rfl rfl hn2) (makes_ints rfl rfl rfl hn2) (by omega) rfl rfl rfl (by decide) (fun w' hk => hk.cell' hS) ?_
  intro p q r w3 hp hq hr hpq hpr hqr bp bq br hk3
  simp only [Act.put, List.getElem_toArray, List.getElem_cons_succ, List.getElem_cons_zero, List.setIfInBounds_toArray, List.set_cons_zero, List.set_cons_succ]
  have hS3 : w3.cell? ⟨Y.A 0, 0, none⟩ = some (.slice ao T.l.length cap) := hk3.cell' hS
  obtain ⟨A, hA⟩ : ∃ A, A = Obj.cells #[Value.slice (some ⟨p, 0, none⟩) n n, .slice (some ⟨q, 0, none⟩) n n, .slice (some ⟨r, 0, none⟩) n n, .bool false, .int .i64 0] 84 := ⟨_, rfl⟩
  obtain ⟨B, hB⟩ : ∃ B, B = Obj.cells #[Value.pointer (some ⟨w3.heap.size, 0, none⟩)] 78 := ⟨_, rfl⟩
  obtain ⟨w5, hw5⟩ : ∃ w5, w5 = (w3.alloc A).alloc B := ⟨_, rfl⟩
  have hk5 : Kept w3 w5 := by rw [hw5]; exact ((Kept.refl w3).alloc _).alloc _
  have bm : w5.heap[w3.heap.size]? = some A := by rw [hw5]; exact ((Kept.refl (w3.alloc A)).alloc B).block (heap_alloc_new w3 A)
  have bb : w5.heap[w3.heap.size + 1]? = some B := by rw [hw5]; have := heap_alloc_new (w3.alloc A) B; rwa [World.size_alloc] at this
  have hs5 : w5.heap.size = w3.heap.size + 1 + 1 := by rw [hw5, World.size_alloc, World.size_alloc]
  rw [hB] at bb
  rw [hA] at bm
  subst hA hB
  have hk3' : Kept w w3 := ((Kept.refl w).drew).trans hk3
  have hsz3 := hk3'.size
  obtain ⟨g, c, row, w6, hrun, r1, r2, r3, r4, r5, r6, r7, r8⟩ := list_append (H.out.kept (hk3'.trans hk5)) hl bb 75
  have h01 : ¬ (T.l.length ≠ 0 ∧ Y.A 0 = Y.A 1) := fun h => by
    have := H.out.inj 0 1 (by omega) (by omega) (fun e => absurd e h.1) h.2
    omega
  have hS6 : w6.cell? ⟨Y.A 0, 0, none⟩ = some (.slice ao T.l.length cap) := r8.cell h01 (hk5.cell' hS3)
  have HB6 := Lib.hid (r8.blk h01 (((hk3'.trans hk5)).block H.out.bank))
  have hsp : p < w3.heap.size := (Array.getElem?_eq_some_iff.1 bp).1
  have hsq : q < w3.heap.size := (Array.getElem?_eq_some_iff.1 bq).1
  have hsr : r < w3.heap.size := (Array.getElem?_eq_some_iff.1 br).1
  have BP := Lib.hid (hk5.block bp); have BQ := Lib.hid (hk5.block bq); have BR := Lib.hid (hk5.block br); have BM := Lib.hid bm
  have R1 := Lib.hid r1; have R5 := Lib.hid r5; have R6 := Lib.hid r6; have R7 := Lib.hid r7; have R8 := Lib.hid r8
  have HK := Lib.hid (hk3'.trans hk5)
  clear bp bq br bm bb r1 r5 r6 r7 r8 hk3 hk3' hk5 b0
  change w.heap.size ≤ p at hp
  change w.heap.size ≤ q at hq
  change w.heap.size ≤ r at hr
  refine wpAnyE_take (i := 11) (v := ?_) (listed' := #[true, true, true, true, true, true, true, true, true, true, true, true, false, false, false, false, false, false, false]) (by rfl) (by kernel_rfl) (by kernel_rfl) calm_put hS3 (by rfl) ?_ ?_
  rotate_left
  · intro W hW; clear hW; go_simp; try (with_reducible rfl)
  simp only [Act.put, List.getElem_toArray, List.getElem_cons_succ, List.getElem_cons_zero, List.setIfInBounds_toArray, List.set_cons_zero, List.set_cons_succ]
  refine wpAnyE_take (i := 12) (v := ?_) (listed' := #[true, true, true, true, true, true, true, true, true, true, true, true, true, false, false, false, false, false, false]) (by rfl) (by kernel_rfl) (by kernel_rfl) calm_put hS3 (by rfl) ?_ ?_
  rotate_left
  · intro W hW; clear hW; go_simp; try (with_reducible rfl)
  simp only [Act.put, List.getElem_toArray, List.getElem_cons_succ, List.getElem_cons_zero, List.setIfInBounds_toArray, List.set_cons_zero, List.set_cons_succ]
  refine wpAnyE_one (i := 13) (listed' := #[true, true, true, true, true, true, true, true, true, true, true, true, true, true, false, false, false, false, false]) (by rfl) (by kernel_rfl) (by kernel_rfl) (by rfl) (fun K hK => ?_)
  simp only [Act.put, List.getElem_toArray, List.getElem_cons_succ, List.getElem_cons_zero, List.setIfInBounds_toArray, List.set_cons_zero, List.set_cons_succ]
  go_wp2
  refine hK _ _ (fun _ => ((Kept.refl _).alloc _).cell' hS3) ?_; clear hK K
  refine wpAnyE_one (i := 14) (listed' := #[true, true, true, true, true, true, true, true, true, true, true, true, true, true, true, false, false, false, false]) (by rfl) (by kernel_rfl) (by kernel_rfl) (by rfl) (fun K hK => ?_)
  simp only [Act.put, List.getElem_toArray, List.getElem_cons_succ, List.getElem_cons_zero, List.setIfInBounds_toArray, List.set_cons_zero, List.set_cons_succ]
  go_wp2
  refine hK _ _ (fun _ => (((Kept.refl _).alloc _).alloc _).cell' hS3) ?_; clear hK K
  rw [← hw5]
  refine wpAnyE_one (i := 15) (listed' := #[true, true, true, true, true, true, true, true, true, true, true, true, true, true, true, true, false, false, false]) (by rfl) (by kernel_rfl) (by kernel_rfl) (by rfl) (fun K hK => ?_)
  simp only [Act.put, List.getElem_toArray, List.getElem_cons_succ, List.getElem_cons_zero, List.setIfInBounds_toArray, List.set_cons_zero, List.set_cons_succ]
  refine wp_append_run rfl rfl rfl (by rw [HLI.out] at hrun; exact hrun) ?_
  refine hK _ _ (fun _ => hS6) ?_; clear hK K
  simp only [Act.put, List.getElem_toArray, List.getElem_cons_succ, List.getElem_cons_zero, List.setIfInBounds_toArray, List.set_cons_zero, List.set_cons_succ]
  refine wpAnyE_one (i := 16) (listed' := #[true, true, true, true, true, true, true, true, true, true, true, true, true, true, true, true, true, false, false]) (by rfl) (by kernel_rfl) (by kernel_rfl) (by rfl) (fun K hK => ?_)
  simp only [Act.put, List.getElem_toArray, List.getElem_cons_succ, List.getElem_cons_zero, List.setIfInBounds_toArray, List.set_cons_zero, List.set_cons_succ]
  go_wp2
  refine hK _ _ (fun _ => hS6) ?_; clear hK K
  refine wpAnyE_take (i := 17) (v := ?_) (listed' := #[true, true, true, true, true, true, true, true, true, true, true, true, true, true, true, true, true, true, false]) (by rfl) (by kernel_rfl) (by kernel_rfl) calm_put hS6 (by rfl) ?_ ?_
  rotate_left
  · intro W hW; clear hW; go_simp; try (with_reducible rfl)
  simp only [Act.put, List.getElem_toArray, List.getElem_cons_succ, List.getElem_cons_zero, List.setIfInBounds_toArray, List.set_cons_zero, List.set_cons_succ]
  refine wpAnyE_one (i := 18) (listed' := #[true, true, true, true, true, true, true, true, true, true, true, true, true, true, true, true, true, true, true]) (by rfl) (by kernel_rfl) (by kernel_rfl) (by rfl) (fun K hK => ?_)
  simp only [Act.put, List.getElem_toArray, List.getElem_cons_succ, List.getElem_cons_zero, List.setIfInBounds_toArray, List.set_cons_zero, List.set_cons_succ]
  refine wp_set_cell _ _ rfl size_ptrs (Y.A 0) 0 rfl (.slice (some ⟨g, 0, none⟩) (T.l.length + 1) c) rfl rfl rfl _ _ HB6.out (by simp [bankVals]) ?_
  intro w7 hw7
  refine hK _ _ (fun h => absurd rfl h) ?_; clear hK K
  simp only [Act.put, List.getElem_toArray, List.getElem_cons_succ, List.getElem_cons_zero, List.setIfInBounds_toArray, List.set_cons_zero, List.set_cons_succ]
  refine wpAnyE_done (by kernel_rfl) ?_ _
  refine calm_normal ?_
  have c7 : w7.cell? ⟨Y.A 0, 0, none⟩ = some (.slice (some ⟨g, 0, none⟩) (T.l.length + 1) c) := by
    rw [cell_of_row _ _ _ _ _ _ hw7.blk]; simp [bankVals]
  have HW7 := Lib.hid hw7
  clear hw7 hS hS3 hS6 hrun
  go_wp2
  go_ret2
  exact ⟨rfl, H.out.more HK.out hsz3 hp hq hr hpq hpr hqr (by omega) (by omega) (by omega) BM.out BP.out BQ.out BR.out R1.out r2 r3 r4 R5.out R6.out R7.out R8.out HW7.out⟩
end
end Go.Proofs.YtglplhmclfekfaaGreat
