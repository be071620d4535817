/- ref06: Add (gen_rvadd.py). -/
import Derived.Test.YtglplhmclfekfaaDoorPaA
namespace Go.Proofs.YtglplhmclfekfaaDoor
open Go.RowKit
set_option linter.unusedVariables false
set_option linter.unusedSimpArgs false

theorem wp_append_runX {P : Program} {o : Oper} {a : Act} {w w' : World} {K : Act → World → Prop} {Q : Exit → Act → World → Prop} {s x : Operand} {t : TypeId} {v u v' : Value} (ho : o.op = .call { callee := .builtin .append, args := #[s, x], argTypes := #[t, t] }) (hs : a.eval s = v) (hx : a.eval x = u)
    (hr : (Builtin.append_ #[t, t] o.type #[v, u]).run P w = .ok v' w') (h : K (a.put o.dst v') w') : o.wp P a w K Q := by
  unfold Oper.wp execOp
  simp only [ho, resolve, invoke, builtin, Sem.run_bind, Sem.run_pure, Result.andThen_ok, List.map_toArray, List.map_cons, List.map_nil, hs, hx, hr]
  exact h
/-- One cell is set, in a drawn region. -/
theorem wp_set_cellX {P : Program} {o : Oper} {a : Act} {w : World} {K : Act → World → Prop} {Q : Exit → Act → World → Prop} {T : Nat} (x y : Operand) (ho : o.op = .store T x y) (hT : (P.info? T).map (·.size) = some 1)
    (b off : Nat) (hx : a.eval x = .pointer (some ⟨b, off, none⟩)) (v : Value) (hy : a.eval y = v) (hv : v.cells = #[v]) (h1 : v.oneCell' = true)
    (cur : List Value) (t : TypeId) (hb : w.heap[b]? = some (.cells cur.toArray t (0, 0))) (hfit : off < cur.length)
    (h : ∀ w1, Wrote w w1 b (cur.set off v) t → K (a.put o.dst undef) w1) : o.wp P a w K Q := by
  have hst := run_storeCells_at P b off t [v] 0 cur.toArray w hb (by simp; omega) (by simpa using h1)
  cases hq : P.info? T with
  | none => simp [hq] at hT
  | some i =>
    have hi : i.size = 1 := by simpa [hq] using hT
    unfold Oper.wp execOp
    simp only [ho, hx, hy, Instr.storeAt, Instr.sureAddr, Sem.run_bind, Sem.run_pure, Result.andThen_ok, storeVar, sizeOf, typeInfo, run_program, hq, hv, hi, List.size_toArray, List.length_cons, List.length_nil, Nat.zero_add, ne_eq, not_true_eq_false, if_false, show (#[v] : Array Value).size = 1 from rfl, show (#[v] : Array Value) = [v].toArray from rfl, hst]
    refine h _ ⟨?_, ?_, ?_, rfl, rfl, rfl⟩
    · rw [setRow_heap w b _ _ t _ hb]
      simp [List.set_eq_take_append_cons_drop, hfit]
    · intro k hk; exact setRow_other w b k _ hk
    · simp
theorem made_constX {z : Array Value} {v : Value} (hp : 0 < z.size) (hz : ∀ i (h : i < z.size), z[i] = v) (n : Nat) : madeCells z n = (List.replicate n v).toArray := by
  apply Array.ext
  · simp [madeCells]
  · intro i h1 h2
    have hi : i % z.size < z.size := Nat.mod_lt _ hp
    simp [madeCells, getElem!_pos z (i % z.size) hi, hz]
theorem bool_info : (Tryd.prog.info? 4).map (fun i => (i.zero, i.size, i.bytes)) = some (some (.bool false), 1, 1) := by kernel_rfl
theorem wp_make_bools {o : Oper} {a : Act} {w : World} {K : Act → World → Prop} {Q : Exit → Act → World → Prop} (x : Operand) (ho : o.op = .makeSlice 69 x x) (n : Nat) (hn : n ≤ 4096) (hx : a.eval x = .int .i64 (n : Int))
    (h : ∀ w', w'.heap[w.heap.size]? = some (.cells (boolsV (List.replicate n false)).toArray 4 (0, 0)) → Kept w w' → w'.heap.size = w.heap.size + 1 → K (a.put o.dst (.slice (some ⟨w.heap.size, 0, none⟩) n n)) w') : o.wp Tryd.prog a w K Q := by
  have h1 := bool_info
  cases hi : Tryd.prog.info? 4 with
  | none => simp [hi] at h1
  | some i =>
    simp only [hi, Option.map_some, Option.some.injEq, Prod.mk.injEq] at h1
    have hb' : (i.bytes : Int) * (n : Int) ≤ 281474976710656 := by rw [h1.2.2]; omega
    have hr := run_make (P := Tryd.prog) w 69 4 i _ Tryd.underlying69 hi h1.1 .i64 .i64 n n (by omega) (Int.le_refl _) hb' (by omega)
    have hc : madeCells (Value.bool false).cells (n * i.size) = (boolsV (List.replicate n false)).toArray := by
      rw [h1.2.1, Nat.mul_one]
      have e : boolsV (List.replicate n false) = List.replicate n (Value.bool false) := by simp [boolsV]
      rw [e]
      exact made_constX (by decide) (fun i h => by have h : i < 1 := h; have : i = 0 := by omega
                                                   subst this; rfl) _
    simp only [Int.toNat_natCast, hc] at hr
    unfold Oper.wp execOp
    simp only [ho, hx, Sem.run_bind, hr, Result.andThen_ok, Sem.run_pure]
    exact h _ (heap_alloc_new w _) ((Kept.refl _).alloc _) (World.size_alloc _ _)
theorem size_membs : (Tryd.prog.info? 66).map (·.size) = some 1 := by kernel_rfl
theorem ty_membs : ElemT Tryd.prog 66 71 2 32 := by
  refine ⟨Tryd.underlying66, ?_, by decide⟩
  have h1 : (Tryd.prog.info? 71).map (fun i => (i.zero, i.size, i.bytes)) = some (some (.agg #[.int .i64 0, .slice none 0 0]), 2, 32) := by kernel_rfl
  cases hi : Tryd.prog.info? 71 with
  | none => simp [hi] at h1
  | some i =>
    simp only [hi, Option.map_some, Option.some.injEq, Prod.mk.injEq] at h1
    exact ⟨i, _, rfl, h1.1, h1.2.1, h1.2.2, rfl⟩
section
variable {w : World} {q : Nat} {M : RM} {v : Value} {tb : Nat → Nat} {tj : Nat → List Value}
set_option maxHeartbeats 1000000
set_option maxRecDepth 100000
theorem xr_Add_new (h : XR w q M v tb tj) (hl : M.length < 20000) (d : Int) (z n : Nat) (hd0 : 0 ≤ d) (hz : z ≤ 4096) (hcn : cntX z = (n : Int)) (hd : ¬ M.at_ d < M.length) :
    Calls Tryd.prog 35 #[.pointer (some ⟨q, 0, none⟩), .int .i64 d, .int .i64 (z : Int)] w fun e w' => e = .returned (.int .i64 0) ∧ ∃ v' tb' tj', XR w' q (M ++ [(d, List.replicate n false)]) v' tb' tj' ∧ But (InX M q v tb) w w' ∧ ∀ b, InX (M ++ [(d, List.replicate n false)]) q v' tb' b → InX M q v tb b ∨ w.heap.size ≤ b := by
  have c0 := h.c0
  obtain ⟨ao, cap, hv⟩ := h.form
  have HV := Lib.hid hv
  rw [hv] at c0
  have H := Lib.hid h
  have HA := Lib.hid (xr_at h (by omega) d)
  rw [RM.atV_none hd] at HA
  have HCT := Lib.hid (fun (W : World) => (ref_Count z hz W).mono (R' := fun e w' => e = .returned (.int .i64 (n : Int)) ∧ W = w') fun e w' ⟨h1, h2⟩ => ⟨by rw [h1, hcn], h2⟩)
  have hnb : n ≤ 4096 := by unfold cntX at hcn; split at hcn <;> omega
  have hd0' : (d < 0) = False := by simp; omega
  clear h hv hcn hd
  go_enter Tryd.func35, Tryd.ntmps35
  go_wp2_with fail
  refine Calls.mono HA.out ?_
  rintro e w1 ⟨rfl, rfl⟩
  clear HA
  go_upto_region 5 with fail
  have hS : w.drew.cell? ⟨q, 0, none⟩ = some (.slice ao M.length cap) := c0
  refine wp_region_calm ?_
  refine wp_region_E (fun W => W.cell? ⟨q, 0, none⟩ = some (.slice ao M.length cap)) 14 (by kernel_rfl) ?_
  refine wpAnyE_take (i := 0) (v := ?_) (listed' := #[true, false, false, false, false, false, false, false, false, false, false, false, false, false, false]) (by rfl) (by kernel_rfl) (by kernel_rfl) calm_put hS (by rfl) ?_ ?_
  rotate_left
  · intro W hW; clear hW; go_simp; try (with_reducible rfl)
  simp only [Act.put, List.getElem_toArray, List.getElem_cons_succ, List.getElem_cons_zero, List.setIfInBounds_toArray, List.set_cons_zero, List.set_cons_succ]
  refine wpAnyE_take (i := 1) (v := ?_) (listed' := #[true, true, false, false, false, false, false, false, false, false, false, false, false, false, false]) (by rfl) (by kernel_rfl) (by kernel_rfl) calm_put hS (by rfl) ?_ ?_
  rotate_left
  · intro W hW; clear hW; go_simp; try (with_reducible rfl)
  simp only [Act.put, List.getElem_toArray, List.getElem_cons_succ, List.getElem_cons_zero, List.setIfInBounds_toArray, List.set_cons_zero, List.set_cons_succ]
  refine wpAnyE_take (i := 2) (v := ?_) (listed' := #[true, true, true, false, false, false, false, false, false, false, false, false, false, false, false]) (by rfl) (by kernel_rfl) (by kernel_rfl) calm_put hS (by rfl) ?_ ?_
  rotate_left
  · intro W hW; clear hW; go_simp; try (with_reducible rfl)
  simp only [Act.put, List.getElem_toArray, List.getElem_cons_succ, List.getElem_cons_zero, List.setIfInBounds_toArray, List.set_cons_zero, List.set_cons_succ]
  refine wpAnyE_take (i := 3) (v := ?_) (listed' := #[true, true, true, true, false, false, false, false, false, false, false, false, false, false, false]) (by rfl) (by kernel_rfl) (by kernel_rfl) calm_put hS (by rfl) ?_ ?_
  rotate_left
  · intro W hW; clear hW; go_simp; try (with_reducible rfl)
  simp only [Act.put, List.getElem_toArray, List.getElem_cons_succ, List.getElem_cons_zero, List.setIfInBounds_toArray, List.set_cons_zero, List.set_cons_succ]
  refine wpAnyE_take (i := 4) (v := ?_) (listed' := #[true, true, true, true, true, false, false, false, false, false, false, false, false, false, false]) (by rfl) (by kernel_rfl) (by kernel_rfl) calm_put hS (by rfl) ?_ ?_
  rotate_left
  · intro W hW; have c0 := hW; go_simp; try (with_reducible rfl)
  simp only [Act.put, List.getElem_toArray, List.getElem_cons_succ, List.getElem_cons_zero, List.setIfInBounds_toArray, List.set_cons_zero, List.set_cons_succ]
  refine wpAnyE_take (i := 5) (v := ?_) (listed' := #[true, true, true, true, true, true, false, false, false, false, false, false, false, false, false]) (by rfl) (by kernel_rfl) (by kernel_rfl) calm_put hS (by rfl) ?_ ?_
  rotate_left
  · intro W hW; clear hW; go_simp; try (with_reducible rfl)
  simp only [Act.put, List.getElem_toArray, List.getElem_cons_succ, List.getElem_cons_zero, List.setIfInBounds_toArray, List.set_cons_zero, List.set_cons_succ]
  refine wpAnyE_take (i := 6) (v := ?_) (listed' := #[true, true, true, true, true, true, true, false, false, false, false, false, false, false, false]) (by rfl) (by kernel_rfl) (by kernel_rfl) calm_put hS (by rfl) ?_ ?_
  rotate_left
  · intro W hW; clear hW; go_simp; try (with_reducible rfl)
  simp only [Act.put, List.getElem_toArray, List.getElem_cons_succ, List.getElem_cons_zero, List.setIfInBounds_toArray, List.set_cons_zero, List.set_cons_succ]
  refine wpAnyE_one (i := 7) (listed' := #[true, true, true, true, true, true, true, true, false, false, false, false, false, false, false]) (by rfl) (by kernel_rfl) (by kernel_rfl) (by rfl) (fun K hK => ?_)
  simp only [Act.put, List.getElem_toArray, List.getElem_cons_succ, List.getElem_cons_zero, List.setIfInBounds_toArray, List.set_cons_zero, List.set_cons_succ]
  go_wp2_with fail
  refine Calls.mono (HCT.out _) ?_
  rintro e w2 ⟨rfl, rfl⟩
  refine hK _ _ (fun _ => hS) ?_; clear hK K
  refine wpAnyE_one (i := 8) (listed' := #[true, true, true, true, true, true, true, true, true, false, false, false, false, false, false]) (by rfl) (by kernel_rfl) (by kernel_rfl) (by rfl) (fun K hK => ?_)
  simp only [Act.put, List.getElem_toArray, List.getElem_cons_succ, List.getElem_cons_zero, List.setIfInBounds_toArray, List.set_cons_zero, List.set_cons_succ]
  refine wp_make_bools _ rfl n (by omega) rfl ?_
  intro w3 hb3 hk3 hs3
  have hS := hk3.cell' hS
  have hB0 : w.heap.size ≤ w.drew.heap.size := Nat.le_refl _
  obtain ⟨B, hB⟩ : ∃ B, B = w.drew.heap.size := ⟨_, rfl⟩
  rw [← hB] at hb3 hB0 ⊢
  have HB3 := Lib.hid hb3
  have HK3 := Lib.hid ((Kept.refl w).drew.trans hk3)
  clear hb3 hk3 hs3 hB
  refine hK _ _ (fun _ => hS) ?_; clear hK K
  refine wpAnyE_take (i := 9) (v := ?_) (listed' := #[true, true, true, true, true, true, true, true, true, true, false, false, false, false, false]) (by rfl) (by kernel_rfl) (by kernel_rfl) calm_put hS (by rfl) ?_ ?_
  rotate_left
  · intro W hW; clear hW; go_simp; try (with_reducible rfl)
  simp only [Act.put, List.getElem_toArray, List.getElem_cons_succ, List.getElem_cons_zero, List.setIfInBounds_toArray, List.set_cons_zero, List.set_cons_succ]
  refine wpAnyE_one (i := 10) (listed' := #[true, true, true, true, true, true, true, true, true, true, true, false, false, false, false]) (by rfl) (by kernel_rfl) (by kernel_rfl) (by rfl) (fun K hK => ?_)
  simp only [Act.put, List.getElem_toArray, List.getElem_cons_succ, List.getElem_cons_zero, List.setIfInBounds_toArray, List.set_cons_zero, List.set_cons_succ]
  go_wp2
  have hk4 := (Kept.refl w3).alloc (Obj.cells #[Value.int .i64 d, .slice (some ⟨B, 0, none⟩) n n] 71)
  have hb4 := heap_alloc_new w3 (Obj.cells #[Value.int .i64 d, .slice (some ⟨B, 0, none⟩) n n] 71)
  have hS := hk4.cell' hS
  refine hK _ _ (fun _ => hS) ?_; clear hK K
  generalize hw4 : w3.alloc (Obj.cells #[Value.int .i64 d, .slice (some ⟨B, 0, none⟩) n n] 71) = w4 at *
  clear hw4
  have HK4 := Lib.hid (HK3.out.trans hk4)
  have HB4 := Lib.hid (hk4.block HB3.out)
  obtain ⟨v', w5, hrun, hown, hgrw⟩ := own_append ty_membs (H.out.kept HK4.out).row (by omega) (by decide) [Value.int .i64 d, .slice (some ⟨B, 0, none⟩) n n] rfl (b := w3.heap.size) (fun j u hu => by rw [cell_of_row _ _ j _ _ _ hb4]; simpa using hu) (by intro u hu; simp at hu; rcases hu with rfl | rfl <;> rfl) 66
  obtain ⟨ao', cap', hv'⟩ := own_form hown
  have HV' := Lib.hid hv'
  have hvq : v.ownBlock ≠ some q := fun e => by
    obtain ⟨cur, hc⟩ := own_type H.out.row e
    rw [H.out.top] at hc
    injection hc with hc
    injection hc with _ h2
    exact absurd h2 (by decide)
  have hqs := H.out.lt (b := q) (.inl rfl)
  have hsz4 := HK4.out.size
  have HB5 := Lib.hid ((hgrw.blk (b := q) (by omega) hvq).trans (HK4.out.block H.out.top))
  have hS := (World.cell?_of_block (a := ⟨q, 0, none⟩) (hgrw.blk (b := q) (by omega) hvq)).trans hS
  rw [HV.out] at hrun
  have HRUN := Lib.hid hrun
  have HOWN := Lib.hid hown
  have HGRW := Lib.hid hgrw
  clear hrun hown hgrw hv' hvq hk4 hb4 HB3 HK3 hqs hsz4
  refine wpAnyE_one (i := 11) (listed' := #[true, true, true, true, true, true, true, true, true, true, true, true, false, false, false]) (by rfl) (by kernel_rfl) (by kernel_rfl) (by rfl) (fun K hK => ?_)
  simp only [Act.put, List.getElem_toArray, List.getElem_cons_succ, List.getElem_cons_zero, List.setIfInBounds_toArray, List.set_cons_zero, List.set_cons_succ]
  refine wp_append_runX rfl rfl rfl HRUN.out ?_
  refine hK _ _ (fun _ => hS) ?_; clear hK K
  refine wpAnyE_one (i := 12) (listed' := #[true, true, true, true, true, true, true, true, true, true, true, true, true, false, false]) (by rfl) (by kernel_rfl) (by kernel_rfl) (by rfl) (fun K hK => ?_)
  simp only [Act.put, List.getElem_toArray, List.getElem_cons_succ, List.getElem_cons_zero, List.setIfInBounds_toArray, List.set_cons_zero, List.set_cons_succ]
  go_wp2
  refine hK _ _ (fun _ => hS) ?_; clear hK K
  refine wpAnyE_take (i := 13) (v := ?_) (listed' := #[true, true, true, true, true, true, true, true, true, true, true, true, true, true, false]) (by rfl) (by kernel_rfl) (by kernel_rfl) calm_put hS (by rfl) ?_ ?_
  rotate_left
  · intro W hW; clear hW; go_simp; try (with_reducible rfl)
  simp only [Act.put, List.getElem_toArray, List.getElem_cons_succ, List.getElem_cons_zero, List.setIfInBounds_toArray, List.set_cons_zero, List.set_cons_succ]
  refine wpAnyE_one (i := 14) (listed' := #[true, true, true, true, true, true, true, true, true, true, true, true, true, true, true]) (by rfl) (by kernel_rfl) (by kernel_rfl) (by rfl) (fun K hK => ?_)
  simp only [Act.put, List.getElem_toArray, List.getElem_cons_succ, List.getElem_cons_zero, List.setIfInBounds_toArray, List.set_cons_zero, List.set_cons_succ]
  refine wp_set_cellX _ _ rfl size_membs q 0 rfl v' rfl (by rw [HV'.out]; rfl) (by rw [HV'.out]; rfl) [v] _ HB5.out (by simp) ?_
  intro w6 hw6
  refine hK _ _ (fun h => absurd rfl h) ?_; clear hK K
  refine wpAnyE_done (by kernel_rfl) ?_ _
  refine calm_normal ?_
  have hw6 : Wrote w5 w6 q [v'] 68 := hw6
  have HRES := Lib.hid (H.out.app (l := List.replicate n false) (jl := []) (B := B) (d := d) (v' := v') HK4.out hB0 (by rw [List.append_nil]; exact HB4.out) (by simpa using HOWN.out) HGRW.out hw6)
  clear hw6 hS
  go_wp2
  go_ret
  exact ⟨rfl, _, _, _, HRES.out⟩
end
end Go.Proofs.YtglplhmclfekfaaDoor
