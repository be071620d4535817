/- PnA: several texts in one: Own Cpd. -/
import Derived.Test.YtiijfocdjcjlaaaGreatPmA
import Derived.Test.YtiijfocdjcjlaaaGreatPcA
import Derived.Test.YtiijfocdjcjlaaaGreatPbA
/- A slice of records in a block of its own, between two marks; or empty and full. -/
namespace Go.Proofs.YtiijfocdjcjlaaaGreat
open Go.RowKit Go.ChangeMaps Go.MapKept
set_option linter.unusedVariables false
set_option linter.unusedSimpArgs false
section
variable {α : Type} {enc : α → List Value} {n E lo hi : Nat} {W W' : World} {v : Value} {l : List α}
def Own (E : TypeId) (enc : α → List Value) (n : Nat) (W : World) (lo hi : Nat) (v : Value) (l : List α) : Prop :=
  (∃ g cap, v = .slice (some ⟨g, 0, none⟩) l.length cap ∧ lo ≤ g ∧ g < hi ∧ W.ownsRow lo E n v l.length (l.flatMap enc)) ∨ (l = [] ∧ ∃ ao, v = .slice ao 0 0)
theorem Own.app (h : Own E enc n W lo hi v l) : App W lo E n v l.length (l.flatMap enc) := by
  rcases h with ⟨g, cap, _, _, _, ho⟩ | ⟨rfl, ao, rfl⟩
  · exact .inl ho
  · exact .inr ⟨by simp, ao, rfl, fun _ => rfl, fun b hb j u hu => by simp at hu⟩
theorem Own.but {S : Nat → Prop} (h : Own E enc n W lo hi v l) (hb : But S W W') (hS : ∀ k, S k → k < lo ∨ hi ≤ k) : Own E enc n W' lo hi v l := by
  rcases h with ⟨g, cap, rfl, h1, h2, ho⟩ | h
  · refine .inl ⟨g, cap, rfl, h1, h2, ho.1, ?_⟩
    rcases ho.2 with ⟨hv, _⟩ | ⟨g', cap', cur, hv, hg, hh, r⟩
    · cases hv
    · cases hv
      exact .inr ⟨g, cap, cur, rfl, h1, hb.blk (fun hs => by rcases hS _ hs with h | h <;> omega) hh, r⟩
  · exact .inr h
theorem Own.kept (h : Own E enc n W lo hi v l) (hk : Kept W W') : Own E enc n W' lo hi v l := h.but (S := fun _ => False) (But.kept hk) (fun k hk => hk.elim)
theorem Own.rsl (henc : ∀ x, (enc x).length = n) (h : Own E enc n W lo hi v l) : RSl enc n W v l := by
  rcases h with ⟨g, cap, rfl, h1, h2, ho⟩ | ⟨rfl, ao, rfl⟩
  · exact RSl.of_owns henc rfl ho
  · exact ⟨ao, 0, rfl, Nat.le_refl _, fun k hk => by cases hk⟩
theorem Own.of_clone (ha : App W lo E n v l.length (l.flatMap enc)) (ho : 0 < l.length → W.ownsRow lo E n v l.length (l.flatMap enc)) : Own E enc n W lo W.heap.size v l := by
  rcases Nat.eq_zero_or_pos l.length with h0 | h0
  · have : l = [] := List.eq_nil_of_length_eq_zero h0
    subst this
    rcases ha with h | ⟨_, ao, rfl, _, _⟩
    · rcases owns_form h with ⟨rfl, _, _⟩ | ⟨g, cap, rfl, hg, hgl, _, _⟩
      · exact .inr ⟨rfl, none, rfl⟩
      · exact .inl ⟨g, cap, rfl, hg, hgl, h⟩
    · exact .inr ⟨rfl, ao, rfl⟩
  · have h := ho h0
    rcases owns_form h with ⟨_, h1, _⟩ | ⟨g, cap, rfl, hg, hgl, _, _⟩
    · omega
    · exact .inl ⟨g, cap, rfl, hg, hgl, h⟩
theorem Own.form (h : Own E enc n W lo hi v l) : ∃ oa cap, v = .slice oa l.length cap := by
  rcases h with ⟨g, cap, rfl, _⟩ | ⟨rfl, ao, rfl⟩
  · exact ⟨_, cap, rfl⟩
  · exact ⟨ao, 0, rfl⟩
theorem Own.wide {hi' : Nat} (h : Own E enc n W lo hi v l) (hh : hi ≤ hi') : Own E enc n W lo hi' v l := by
  rcases h with ⟨g, cap, rfl, h1, h2, ho⟩ | h
  · exact .inl ⟨g, cap, rfl, h1, by omega, ho⟩
  · exact .inr h
/-- its block, and what it holds -/
theorem Own.blk (h : Own E enc n W lo hi v l) (h0 : 0 < l.length) : ∃ g cap junk, v = .slice (some ⟨g, 0, none⟩) l.length cap ∧ lo ≤ g ∧ g < hi ∧ RBlk enc W g E l junk ∧ l.length * n + junk.length = cap * n ∧ l.length ≤ cap ∧ cap ≤ maxLen := by
  rcases h with ⟨g, cap, rfl, h1, h2, ho⟩ | ⟨rfl, _⟩
  · rcases ho.2 with ⟨hv, _⟩ | ⟨g', cap', cur, hv, hg, hh, hn, hmx, hs, ht⟩
    · cases hv
    · cases hv
      have e : cur = (l.flatMap enc ++ cur.toList.drop (l.length * n)).toArray := by rw [← ht, List.take_append_drop, Array.toArray_toList]
      refine ⟨g, cap, cur.toList.drop (l.length * n), rfl, h1, h2, by unfold RBlk; rw [← e]; exact hh, ?_, hn, hmx⟩
      have h2 : l.length * n ≤ cap * n := Nat.mul_le_mul_right n hn
      simp; omega
  · simp at h0
end
/-- One cell is set, in a drawn region. -/
theorem wp_set_cell {P : Program} {o : Oper} {a : Act} {w : World} {K : Act → World → Prop} {Q : Exit → Act → World → Prop} {T : Nat} (x y : Operand) (ho : o.op = .store T x y) (hT : (P.info? T).map (·.size) = some 1)
    (b off : Nat) (hx : a.eval x = .pointer (some ⟨b, off, none⟩)) (v : Value) (hy : a.eval y = v) (hv : v.cells = #[v]) (h1 : v.oneCell' = true)
    (cur : List Value) (t : TypeId) (hb : w.heap[b]? = some (.cells cur.toArray t (0, 0))) (hfit : off < cur.length)
    (h : ∀ w1, Wrote w w1 b (cur.set off v) t → K (a.put o.dst undef) w1) : o.wp P a w K Q := by
  have hst := run_storeCells_at P b off t [v] 0 cur.toArray w hb (by simp; omega) (by simpa using h1)
  cases hq : P.info? T with
  | none => simp [hq] at hT
  | some i =>
    have hi : i.size = 1 := by simpa [hq] using hT
    unfold Oper.wp execOp
    simp only [ho, hx, hy, Instr.storeAt, Instr.sureAddr, Sem.run_bind, Sem.run_pure, Result.andThen_ok, storeVar, sizeOf, typeInfo, run_program, hq, hv, hi, List.size_toArray, List.length_cons, List.length_nil, Nat.zero_add, ne_eq, not_true_eq_false, if_false, show (#[v] : Array Value).size = 1 from rfl, show (#[v] : Array Value) = [v].toArray from rfl, hst]
    refine h _ ⟨?_, ?_, ?_, rfl, rfl, rfl⟩
    · rw [setRow_heap w b _ _ t _ hb]
      simp [List.set_eq_take_append_cons_drop, hfit]
    · intro k hk; exact setRow_other w b k _ hk
    · simp
theorem size_grpsT : (Tryz.prog.info? 23).map (·.size) = some 1 := by kernel_rfl
theorem size_whrsT : (Tryz.prog.info? 24).map (·.size) = some 1 := by kernel_rfl
theorem size_extsT : (Tryz.prog.info? 35).map (·.size) = some 1 := by kernel_rfl
theorem zero_state (w : World) : (zeroValue 31).run Tryz.prog w = .ok (.agg (stv 0 nilS nilS nilS nilS (plv zeroPlg)).toArray) w := by kernel_rfl
theorem stC_one {s : St} {sm sg sp sd : Value} (h1 : sm.oneCell' = true) (h2 : sg.oneCell' = true) (h3 : sp.oneCell' = true) (h4 : sd.oneCell' = true) : ∀ v ∈ stC s sm sg sp sd, v.oneCell' = true := by
  intro v hv
  simp only [stC, stv, List.mem_cons] at hv
  rcases hv with rfl | rfl | rfl | rfl | rfl | h
  · rfl
  · exact h1
  · exact h2
  · exact h3
  · exact h4
  · exact plv_one _ v h
/-- a function whose result is a state's variable -/
theorem results_state {fn : Func} {p : Tmp} (h : fn.results = #[.cell p 31]) (tmps : Array Value) (w : World) (b : Nat) (xs : List Value)
    (hp : tmps.getD p undef = .pointer (some ⟨b, 0, none⟩)) (hc : Cells w b 0 xs) (hl : xs.length = 136) :
    (results fn tmps).run Tryz.prog w = .ok (.agg xs.toArray) w := by
  obtain ⟨⟨d, hd1, hd2⟩, hs⟩ := agT_state
  have hp' : tmps[p]?.getD undef = .pointer (some ⟨b, 0, none⟩) := by simpa using hp
  have hr := run_loadVar_mid (P := Tryz.prog) w b 0 31 xs d (rangeAt_of_cells hc) hd1 hd2 (by rw [hs, hl])
  simp [results, h, hp', asAddr, hr]
/-- .. and a number -/
theorem results_state2 {fn : Func} {p q : Tmp} (h : fn.results = #[.cell p 31, .tmp q]) (tmps : Array Value) (w : World) (b : Nat) (xs : List Value)
    (hp : tmps.getD p undef = .pointer (some ⟨b, 0, none⟩)) (hc : Cells w b 0 xs) (hl : xs.length = 136) :
    (results fn tmps).run Tryz.prog w = .ok (.tuple #[.agg xs.toArray, tmps.getD q undef]) w := by
  obtain ⟨⟨d, hd1, hd2⟩, hs⟩ := agT_state
  have hp' : tmps[p]?.getD undef = .pointer (some ⟨b, 0, none⟩) := by simpa using hp
  have hr := run_loadVar_mid (P := Tryz.prog) w b 0 31 xs d (rangeAt_of_cells hc) hd1 hd2 (by rw [hs, hl])
  simp [results, h, hp', asAddr, hr]
end Go.Proofs.YtiijfocdjcjlaaaGreat
/- state.copied: a state of its own (gen_cpd.py, XCpd.head). -/
namespace Go.Proofs.YtiijfocdjcjlaaaGreat
open Go.RowKit Go.ChangeMaps Go.MapKept
set_option linter.unusedVariables false
set_option linter.unusedSimpArgs false
set_option maxRecDepth 100000
set_option maxHeartbeats 1000000
/-- a state of its own: its slices lie one behind the other, between marks; the groups' extents do not hang on what lies between b0 and b4 -/
structure StO (W : World) (b0 base b1 b2 b3 b4 : Nat) (s : St) (sm sg sp sd : Value) (raw : List Gw) : Prop where
  le0 : b0 ≤ base
  le1 : base ≤ b1
  le2 : b1 ≤ b2
  le3 : b2 ≤ b3
  le4 : b3 ≤ b4
  le5 : b4 ≤ W.heap.size
  m : Own 56 trip 3 W base b1 sm s.ms
  g : Own 37 grw 3 W b1 b2 sg raw
  p : Own 41 trip 3 W b2 b3 sp s.mp
  d : Own 3 oneV 1 W b3 b4 sd s.dirty
  ext : ∀ W', But (fun k => b0 ≤ k ∧ k < b4) W W' → GRels W' raw s.gs
  plug : PlgOk s.plug
  lms : s.ms.length ≤ 4096
  lgs : s.gs.length ≤ 4096
  lmp : s.mp.length ≤ 4096
  ldi : s.dirty.length ≤ 4096
theorem StO.stm {W : World} {b0 base b1 b2 b3 b4 : Nat} {s : St} {sm sg sp sd : Value} {raw : List Gw} (h : StO W b0 base b1 b2 b3 b4 s sm sg sp sd raw) : StM W s sm sg sp sd raw :=
  ⟨h.m.rsl trip_len, h.g.rsl grw_len, h.ext W (But.refl _ _), h.p.rsl trip_len, h.d.rsl oneV_len, h.plug, h.lms, h.lgs, h.lmp, h.ldi⟩
theorem flat_set3 : ∀ (l : List Gw) (i : Nat) (hi : i < l.length) (v : Value) (junk : List Value), (l.flatMap grw ++ junk).set (i * 3 + 2) v = (l.set i (l[i].1, l[i].2.1, v)).flatMap grw ++ junk
  | [], i, hi, v, junk => by cases hi
  | x :: l, 0, hi, v, junk => by simp [grw]
  | x :: l, i + 1, hi, v, junk => by
    have ih := flat_set3 l i (by simpa using hi) v junk
    have e : (i + 1) * 3 + 2 = (i * 3 + 2) + 3 := by omega
    rw [e]
    simp only [List.flatMap_cons, List.set_cons_succ, grw, List.cons_append, List.nil_append, List.getElem_cons_succ] at ih ⊢
    rw [ih]
theorem Own.of_blk {α : Type} {enc : α → List Value} {n E lo hi g cap : Nat} {W : World} {l : List α} {junk : List Value} (henc : ∀ x, (enc x).length = n) (hb : RBlk enc W g E l junk) (h1 : lo ≤ g) (h2 : g < hi) (hj : l.length * n + junk.length = cap * n) (hc : l.length ≤ cap) (hm : cap ≤ maxLen) : Own E enc n W lo hi (.slice (some ⟨g, 0, none⟩) l.length cap) l := by
  refine .inl ⟨g, cap, rfl, h1, h2, by rw [flat_len henc], .inr ⟨g, cap, _, rfl, h1, hb, hc, hm, ?_, ?_⟩⟩
  · simp [flat_len henc, hj]
  · rw [List.take_left' (by rw [flat_len henc])]
theorem slice_one {v : Value} {oa : Option Addr} {n c : Nat} (h : v = .slice oa n c) : v.cells = #[v] ∧ v.oneCell' = true := by subst h; exact ⟨rfl, rfl⟩
theorem st_copied (s : St) (sm sg sp sd : Value) (raw : List Gw) (w0 w : World) (hk0 : Kept w0 w) (h0 : StM w0 s sm sg sp sd raw) :
    Calls Tryz.prog 36 #[.agg (stC s sm sg sp sd).toArray] w fun e w' => ∃ base b1 b2 b3 b4 sm' sg' sp' sd' raw', e = .returned (.agg (stC s sm' sg' sp' sd').toArray) ∧ StO w' w0.heap.size base b1 b2 b3 b4 s sm' sg' sp' sd' raw' ∧ Kept w w' ∧ w.heap.size ≤ base := by
  have h := h0.kept hk0
  have HH0 := Lib.hid h0; have HK0 := Lib.hid hk0
  clear h0 hk0
  obtain ⟨om, cm, rfl, _⟩ := h.ms.form
  obtain ⟨og, cg, rfl, _⟩ := h.gs.form
  obtain ⟨op, cp, rfl, _⟩ := h.mp.form
  obtain ⟨od, cd, rfl, _⟩ := h.dirty.form
  have HLR := Lib.hid h.rel.len
  have HONE := Lib.hid (show ∀ x ∈ raw, x.2.2.oneCell' = true from fun x hx => h.rel.one x hx _ (by simp [grw]))
  have HH := Lib.hid h; clear h
  have hr4 : raw.length ≤ 4096 := by rw [HLR.out]; exact HH.out.lgs
  have HL := Lib.hid (show (stC s (.slice om s.ms.length cm) (.slice og raw.length cg) (.slice op s.mp.length cp) (.slice od s.dirty.length cd)).length = 136 from stv_len (plv_len HH.out.plug))
  go_enter Tryz.func36, Tryz.ntmps36
  go_wp2_with (refine stop_at (o := ⟨some 1, _, _, _, _, _⟩) ?_)
  refine Stop.mk ?_
  refine wpList_box_rowS rfl _ _ rfl (stC s (.slice om s.ms.length cm) (.slice og raw.length cg) (.slice op s.mp.length cp) (.slice od s.dirty.length cd)) rfl ?_
  intro w1 hz1 hs1 hk1
  obtain ⟨X, hX⟩ : ∃ X, X = w.heap.size := ⟨_, rfl⟩
  rw [← hX] at hz1 ⊢
  refine wpList_alloc_abs rfl _ rfl _ zero_state ?_
  intro w2 hz2 hs2 hs2' hk2
  obtain ⟨R, hR⟩ : ∃ R, R = w1.heap.size := ⟨_, rfl⟩
  rw [← hR] at hz2 ⊢
  have HX := Lib.hid hX
  obtain ⟨b0, hb0⟩ : ∃ b, b = w0.heap.size := ⟨_, rfl⟩
  have hb0X : b0 ≤ X := by have := HK0.out.size; omega
  have HB0 := Lib.hid hb0
  have HXR := Lib.hid (show X < R by omega)
  have HR2 := Lib.hid (show w2.heap.size = R + 1 by have := hs2'.out; omega)
  have HBX2 := Lib.hid (hk2.block hz1.out)
  have HZR := hz2
  have HK2 := Lib.hid (hk1.trans hk2)
  clear hz1 hz2 hs1 hs2 hs2' hk1 hk2 hX hR hb0
  go_upto_region 1 with fail
  have HD := Lib.hid (show Kept w w2.drew from HK2.out.drew)
  have HQ := Lib.hid (show Kept w2 w2.drew from (Kept.refl _).drew)
  have hst := stv_cells ((Cells.of_block HBX2.out) : Cells w2 X 0 (stC s (.slice om s.ms.length cm) (.slice og raw.length cg) (.slice op s.mp.length cp) (.slice od s.dirty.length cd)))
  have hS : (fun (W : World) => W.cell? ⟨X, 1, none⟩ = some (.slice om s.ms.length cm) ∧ W.cell? ⟨X, 2, none⟩ = some (.slice og raw.length cg) ∧ W.cell? ⟨X, 3, none⟩ = some (.slice op s.mp.length cp) ∧ W.cell? ⟨X, 4, none⟩ = some (.slice od s.dirty.length cd)) w2.drew := ⟨hst.2.1, hst.2.2.1, hst.2.2.2.1, hst.2.2.2.2⟩
  clear hst
  refine wp_region_calm ?_
  refine wp_region_X (fun (W : World) => W.cell? ⟨X, 1, none⟩ = some (.slice om s.ms.length cm) ∧ W.cell? ⟨X, 2, none⟩ = some (.slice og raw.length cg) ∧ W.cell? ⟨X, 3, none⟩ = some (.slice op s.mp.length cp) ∧ W.cell? ⟨X, 4, none⟩ = some (.slice od s.dirty.length cd)) (fun i => decide (13 ≤ i)) (by kernel_rfl) ?_
  refine wpAnyX_take (i := 0) (v := .pointer (some ⟨X, 1, none⟩)) (listed' := #[true, false, false, false, false, false, false, false, false, false, false, false, false, false, false, false, false, false, false, false]) (by rfl) (by kernel_rfl) (by kernel_rfl) calm_put hS (by rfl) ?_ ?_
  · intro W hW; clear hW; go_simp; try (with_reducible rfl)
  simp only [Act.put, List.getElem_toArray, List.getElem_cons_succ, List.getElem_cons_zero, List.setIfInBounds_toArray, List.set_cons_zero, List.set_cons_succ]
  refine wpAnyX_take (i := 1) (v := .slice om s.ms.length cm) (listed' := #[true, true, false, false, false, false, false, false, false, false, false, false, false, false, false, false, false, false, false, false]) (by rfl) (by kernel_rfl) (by kernel_rfl) calm_put hS (by rfl) ?_ ?_
  · intro W hW; obtain ⟨c1, c2, c3, c4⟩ := hW; go_simp; try (with_reducible rfl)
  simp only [Act.put, List.getElem_toArray, List.getElem_cons_succ, List.getElem_cons_zero, List.setIfInBounds_toArray, List.set_cons_zero, List.set_cons_succ]
  refine wpAnyX_take (i := 3) (v := .pointer (some ⟨X, 2, none⟩)) (listed' := #[true, true, false, true, false, false, false, false, false, false, false, false, false, false, false, false, false, false, false, false]) (by rfl) (by kernel_rfl) (by kernel_rfl) calm_put hS (by rfl) ?_ ?_
  · intro W hW; clear hW; go_simp; try (with_reducible rfl)
  simp only [Act.put, List.getElem_toArray, List.getElem_cons_succ, List.getElem_cons_zero, List.setIfInBounds_toArray, List.set_cons_zero, List.set_cons_succ]
  refine wpAnyX_take (i := 4) (v := .slice og raw.length cg) (listed' := #[true, true, false, true, true, false, false, false, false, false, false, false, false, false, false, false, false, false, false, false]) (by rfl) (by kernel_rfl) (by kernel_rfl) calm_put hS (by rfl) ?_ ?_
  · intro W hW; obtain ⟨c1, c2, c3, c4⟩ := hW; go_simp; try (with_reducible rfl)
  simp only [Act.put, List.getElem_toArray, List.getElem_cons_succ, List.getElem_cons_zero, List.setIfInBounds_toArray, List.set_cons_zero, List.set_cons_succ]
  refine wpAnyX_take (i := 6) (v := .pointer (some ⟨X, 3, none⟩)) (listed' := #[true, true, false, true, true, false, true, false, false, false, false, false, false, false, false, false, false, false, false, false]) (by rfl) (by kernel_rfl) (by kernel_rfl) calm_put hS (by rfl) ?_ ?_
  · intro W hW; clear hW; go_simp; try (with_reducible rfl)
  simp only [Act.put, List.getElem_toArray, List.getElem_cons_succ, List.getElem_cons_zero, List.setIfInBounds_toArray, List.set_cons_zero, List.set_cons_succ]
  refine wpAnyX_take (i := 7) (v := .slice op s.mp.length cp) (listed' := #[true, true, false, true, true, false, true, true, false, false, false, false, false, false, false, false, false, false, false, false]) (by rfl) (by kernel_rfl) (by kernel_rfl) calm_put hS (by rfl) ?_ ?_
  · intro W hW; obtain ⟨c1, c2, c3, c4⟩ := hW; go_simp; try (with_reducible rfl)
  simp only [Act.put, List.getElem_toArray, List.getElem_cons_succ, List.getElem_cons_zero, List.setIfInBounds_toArray, List.set_cons_zero, List.set_cons_succ]
  refine wpAnyX_take (i := 9) (v := .pointer (some ⟨X, 4, none⟩)) (listed' := #[true, true, false, true, true, false, true, true, false, true, false, false, false, false, false, false, false, false, false, false]) (by rfl) (by kernel_rfl) (by kernel_rfl) calm_put hS (by rfl) ?_ ?_
  · intro W hW; clear hW; go_simp; try (with_reducible rfl)
  simp only [Act.put, List.getElem_toArray, List.getElem_cons_succ, List.getElem_cons_zero, List.setIfInBounds_toArray, List.set_cons_zero, List.set_cons_succ]
  refine wpAnyX_take (i := 10) (v := .slice od s.dirty.length cd) (listed' := #[true, true, false, true, true, false, true, true, false, true, true, false, false, false, false, false, false, false, false, false]) (by rfl) (by kernel_rfl) (by kernel_rfl) calm_put hS (by rfl) ?_ ?_
  · intro W hW; obtain ⟨c1, c2, c3, c4⟩ := hW; go_simp; try (with_reducible rfl)
  simp only [Act.put, List.getElem_toArray, List.getElem_cons_succ, List.getElem_cons_zero, List.setIfInBounds_toArray, List.set_cons_zero, List.set_cons_succ]
  refine wpAnyX_one (i := 2) (listed' := #[true, true, true, true, true, false, true, true, false, true, true, false, false, false, false, false, false, false, false, false]) (by rfl) (by kernel_rfl) (by kernel_rfl) (by rfl) (fun K hK => ?_)
  simp only [Act.put, List.getElem_toArray, List.getElem_cons_succ, List.getElem_cons_zero, List.setIfInBounds_toArray, List.set_cons_zero, List.set_cons_succ]
  go_wp2_with fail
  refine Calls.mono (cln_m s.ms (.slice om s.ms.length cm) _ HH.out.lms (HH.out.ms.kept HD.out)) ?_
  rintro e wa ⟨vm, rfl, ha, ho, _, hk⟩
  have HOM := Lib.hid (Own.of_clone ha ho)
  have HKA := Lib.hid (HD.out.trans hk)
  have HQA := Lib.hid (HQ.out.trans hk)
  have HSA := Lib.hid hk.size
  have hS : (fun (W : World) => W.cell? ⟨X, 1, none⟩ = some (.slice om s.ms.length cm) ∧ W.cell? ⟨X, 2, none⟩ = some (.slice og raw.length cg) ∧ W.cell? ⟨X, 3, none⟩ = some (.slice op s.mp.length cp) ∧ W.cell? ⟨X, 4, none⟩ = some (.slice od s.dirty.length cd)) _ := ⟨hk.cell' hS.1, hk.cell' hS.2.1, hk.cell' hS.2.2.1, hk.cell' hS.2.2.2⟩
  refine hK _ _ (fun _ => hS) ?_; clear hK K
  clear ha ho hk
  refine wpAnyX_take (i := 12) (v := .pointer (some ⟨X, 1, none⟩)) (listed' := #[true, true, true, true, true, false, true, true, false, true, true, false, true, false, false, false, false, false, false, false]) (by rfl) (by kernel_rfl) (by kernel_rfl) calm_put hS (by rfl) ?_ ?_
  · intro W hW; clear hW; go_simp; try (with_reducible rfl)
  simp only [Act.put, List.getElem_toArray, List.getElem_cons_succ, List.getElem_cons_zero, List.setIfInBounds_toArray, List.set_cons_zero, List.set_cons_succ]
  refine wpAnyX_one (i := 5) (listed' := #[true, true, true, true, true, true, true, true, false, true, true, false, true, false, false, false, false, false, false, false]) (by rfl) (by kernel_rfl) (by kernel_rfl) (by rfl) (fun K hK => ?_)
  simp only [Act.put, List.getElem_toArray, List.getElem_cons_succ, List.getElem_cons_zero, List.setIfInBounds_toArray, List.set_cons_zero, List.set_cons_succ]
  go_wp2_with fail
  refine Calls.mono (cln_g raw (.slice og raw.length cg) wa (by rw [HLR.out]; exact HH.out.lgs) HONE.out (HH.out.gs.kept HKA.out)) ?_
  rintro e wb ⟨vg, rfl, ha, ho, _, hk⟩
  have HOG := Lib.hid (Own.of_clone ha ho)
  have HOMb := Lib.hid (HOM.out.kept hk)
  have HKB := Lib.hid (HKA.out.trans hk)
  have HQB := Lib.hid (HQA.out.trans hk)
  have HSB := Lib.hid hk.size
  have hS : (fun (W : World) => W.cell? ⟨X, 1, none⟩ = some (.slice om s.ms.length cm) ∧ W.cell? ⟨X, 2, none⟩ = some (.slice og raw.length cg) ∧ W.cell? ⟨X, 3, none⟩ = some (.slice op s.mp.length cp) ∧ W.cell? ⟨X, 4, none⟩ = some (.slice od s.dirty.length cd)) _ := ⟨hk.cell' hS.1, hk.cell' hS.2.1, hk.cell' hS.2.2.1, hk.cell' hS.2.2.2⟩
  refine hK _ _ (fun _ => hS) ?_; clear hK K
  clear ha ho hk
  refine wpAnyX_one (i := 8) (listed' := #[true, true, true, true, true, true, true, true, true, true, true, false, true, false, false, false, false, false, false, false]) (by rfl) (by kernel_rfl) (by kernel_rfl) (by rfl) (fun K hK => ?_)
  simp only [Act.put, List.getElem_toArray, List.getElem_cons_succ, List.getElem_cons_zero, List.setIfInBounds_toArray, List.set_cons_zero, List.set_cons_succ]
  go_wp2_with fail
  refine Calls.mono (cln_w s.mp (.slice op s.mp.length cp) wb HH.out.lmp (HH.out.mp.kept HKB.out)) ?_
  rintro e wc ⟨vp, rfl, ha, ho, _, hk⟩
  have HOP := Lib.hid (Own.of_clone ha ho)
  have HOMc := Lib.hid (HOMb.out.kept hk)
  have HOGc := Lib.hid (HOG.out.kept hk)
  have HKC := Lib.hid (HKB.out.trans hk)
  have HQC := Lib.hid (HQB.out.trans hk)
  have HSC := Lib.hid hk.size
  have hS : (fun (W : World) => W.cell? ⟨X, 1, none⟩ = some (.slice om s.ms.length cm) ∧ W.cell? ⟨X, 2, none⟩ = some (.slice og raw.length cg) ∧ W.cell? ⟨X, 3, none⟩ = some (.slice op s.mp.length cp) ∧ W.cell? ⟨X, 4, none⟩ = some (.slice od s.dirty.length cd)) _ := ⟨hk.cell' hS.1, hk.cell' hS.2.1, hk.cell' hS.2.2.1, hk.cell' hS.2.2.2⟩
  refine hK _ _ (fun _ => hS) ?_; clear hK K
  clear ha ho hk
  refine wpAnyX_one (i := 11) (listed' := #[true, true, true, true, true, true, true, true, true, true, true, true, true, false, false, false, false, false, false, false]) (by rfl) (by kernel_rfl) (by kernel_rfl) (by rfl) (fun K hK => ?_)
  simp only [Act.put, List.getElem_toArray, List.getElem_cons_succ, List.getElem_cons_zero, List.setIfInBounds_toArray, List.set_cons_zero, List.set_cons_succ]
  go_wp2_with fail
  refine Calls.mono (cln_i s.dirty (.slice od s.dirty.length cd) wc HH.out.ldi (HH.out.dirty.kept HKC.out)) ?_
  rintro e wd ⟨vd, rfl, ha, ho, _, hk⟩
  have HOD := Lib.hid (Own.of_clone ha ho)
  have HOMd := Lib.hid (HOMc.out.kept hk)
  have HOGd := Lib.hid (HOGc.out.kept hk)
  have HOPd := Lib.hid (HOP.out.kept hk)
  have HKD := Lib.hid (HKC.out.trans hk)
  have HQD := Lib.hid (HQC.out.trans hk)
  have HBX := Lib.hid (HQD.out.block HBX2.out)
  have HSD := Lib.hid hk.size
  have hS : (fun (W : World) => W.cell? ⟨X, 1, none⟩ = some (.slice om s.ms.length cm) ∧ W.cell? ⟨X, 2, none⟩ = some (.slice og raw.length cg) ∧ W.cell? ⟨X, 3, none⟩ = some (.slice op s.mp.length cp) ∧ W.cell? ⟨X, 4, none⟩ = some (.slice od s.dirty.length cd)) _ := ⟨hk.cell' hS.1, hk.cell' hS.2.1, hk.cell' hS.2.2.1, hk.cell' hS.2.2.2⟩
  refine hK _ _ (fun _ => hS) ?_; clear hK K
  obtain ⟨om', cm', rfl⟩ := HOMd.out.form
  obtain ⟨og', cg', rfl⟩ := HOGd.out.form
  obtain ⟨op', cp', rfl⟩ := HOPd.out.form
  obtain ⟨od', cd', rfl⟩ := HOD.out.form
  clear ha ho hk hS
  refine wpAnyX_one (i := 13) (listed' := #[true, true, true, true, true, true, true, true, true, true, true, true, true, true, false, false, false, false, false, false]) (by rfl) (by kernel_rfl) (by kernel_rfl) (by rfl) (fun K hK => ?_)
  simp only [Act.put, List.getElem_toArray, List.getElem_cons_succ, List.getElem_cons_zero, List.setIfInBounds_toArray, List.set_cons_zero, List.set_cons_succ]
  refine wp_set_cell _ _ rfl size_mbsT X 1 rfl (.slice om' s.ms.length cm') rfl rfl rfl ([.int .i64 s.blocks, .slice om s.ms.length cm, .slice og raw.length cg, .slice op s.mp.length cp, .slice od s.dirty.length cd] ++ plv s.plug) _ HBX.out (by rw [List.length_append]; exact Nat.lt_of_lt_of_le (show 1 < 5 by decide) (Nat.le_add_right _ _)) ?_
  intro we hwe
  refine hK _ _ (fun h => by simp at h) ?_; clear hK K
  refine wpAnyX_one (i := 14) (listed' := #[true, true, true, true, true, true, true, true, true, true, true, true, true, true, true, false, false, false, false, false]) (by rfl) (by kernel_rfl) (by kernel_rfl) (by rfl) (fun K hK => ?_)
  simp only [Act.put, List.getElem_toArray, List.getElem_cons_succ, List.getElem_cons_zero, List.setIfInBounds_toArray, List.set_cons_zero, List.set_cons_succ]
  go_wp2
  refine hK _ _ (fun h => by simp at h) ?_; clear hK K
  refine wpAnyX_one (i := 15) (listed' := #[true, true, true, true, true, true, true, true, true, true, true, true, true, true, true, true, false, false, false, false]) (by rfl) (by kernel_rfl) (by kernel_rfl) (by rfl) (fun K hK => ?_)
  simp only [Act.put, List.getElem_toArray, List.getElem_cons_succ, List.getElem_cons_zero, List.setIfInBounds_toArray, List.set_cons_zero, List.set_cons_succ]
  refine wp_set_cell _ _ rfl size_grpsT X 2 rfl (.slice og' raw.length cg') rfl rfl rfl ([.int .i64 s.blocks, .slice om' s.ms.length cm', .slice og raw.length cg, .slice op s.mp.length cp, .slice od s.dirty.length cd] ++ plv s.plug) _ hwe.blk (by rw [List.length_append]; exact Nat.lt_of_lt_of_le (show 2 < 5 by decide) (Nat.le_add_right _ _)) ?_
  intro wf hwf
  refine hK _ _ (fun h => by simp at h) ?_; clear hK K
  refine wpAnyX_one (i := 16) (listed' := #[true, true, true, true, true, true, true, true, true, true, true, true, true, true, true, true, true, false, false, false]) (by rfl) (by kernel_rfl) (by kernel_rfl) (by rfl) (fun K hK => ?_)
  simp only [Act.put, List.getElem_toArray, List.getElem_cons_succ, List.getElem_cons_zero, List.setIfInBounds_toArray, List.set_cons_zero, List.set_cons_succ]
  go_wp2
  refine hK _ _ (fun h => by simp at h) ?_; clear hK K
  refine wpAnyX_one (i := 17) (listed' := #[true, true, true, true, true, true, true, true, true, true, true, true, true, true, true, true, true, true, false, false]) (by rfl) (by kernel_rfl) (by kernel_rfl) (by rfl) (fun K hK => ?_)
  simp only [Act.put, List.getElem_toArray, List.getElem_cons_succ, List.getElem_cons_zero, List.setIfInBounds_toArray, List.set_cons_zero, List.set_cons_succ]
  refine wp_set_cell _ _ rfl size_whrsT X 3 rfl (.slice op' s.mp.length cp') rfl rfl rfl ([.int .i64 s.blocks, .slice om' s.ms.length cm', .slice og' raw.length cg', .slice op s.mp.length cp, .slice od s.dirty.length cd] ++ plv s.plug) _ hwf.blk (by rw [List.length_append]; exact Nat.lt_of_lt_of_le (show 3 < 5 by decide) (Nat.le_add_right _ _)) ?_
  intro wg hwg
  refine hK _ _ (fun h => by simp at h) ?_; clear hK K
  refine wpAnyX_one (i := 18) (listed' := #[true, true, true, true, true, true, true, true, true, true, true, true, true, true, true, true, true, true, true, false]) (by rfl) (by kernel_rfl) (by kernel_rfl) (by rfl) (fun K hK => ?_)
  simp only [Act.put, List.getElem_toArray, List.getElem_cons_succ, List.getElem_cons_zero, List.setIfInBounds_toArray, List.set_cons_zero, List.set_cons_succ]
  go_wp2
  refine hK _ _ (fun h => by simp at h) ?_; clear hK K
  refine wpAnyX_one (i := 19) (listed' := #[true, true, true, true, true, true, true, true, true, true, true, true, true, true, true, true, true, true, true, true]) (by rfl) (by kernel_rfl) (by kernel_rfl) (by rfl) (fun K hK => ?_)
  simp only [Act.put, List.getElem_toArray, List.getElem_cons_succ, List.getElem_cons_zero, List.setIfInBounds_toArray, List.set_cons_zero, List.set_cons_succ]
  refine wp_set_cell _ _ rfl size_intsT X 4 rfl (.slice od' s.dirty.length cd') rfl rfl rfl ([.int .i64 s.blocks, .slice om' s.ms.length cm', .slice og' raw.length cg', .slice op' s.mp.length cp', .slice od s.dirty.length cd] ++ plv s.plug) _ hwg.blk (by rw [List.length_append]; exact Nat.lt_of_lt_of_le (show 4 < 5 by decide) (Nat.le_add_right _ _)) ?_
  intro wh hwh
  refine hK _ _ (fun h => by simp at h) ?_; clear hK K
  refine wpAnyX_done (by kernel_rfl) ?_ _
  refine calm_normal ?_
  have HX4 : Hid (wh.heap[X]? = some (.cells (stC s (.slice om' s.ms.length cm') (.slice og' raw.length cg') (.slice op' s.mp.length cp') (.slice od' s.dirty.length cd')).toArray 31 (0, 0))) := Lib.hid hwh.blk
  have hbut : But (fun k => k = X) wd wh := (((But.wrote (S := fun k => k = X) hwe rfl).trans (But.wrote hwf rfl)).trans (But.wrote hwg rfl)).trans (But.wrote hwh rfl)
  have HBUT := Lib.hid hbut
  have HR4 : Hid (wh.heap[R]? = some (.cells (stv 0 nilS nilS nilS nilS (plv zeroPlg)).toArray 31 (0, 0))) := Lib.hid (hbut.blk (by show ¬ R = X; have := HXR.out; omega) (HQD.out.block HZR.out))
  clear hwe hwf hwg hwh hbut hS
  obtain ⟨base, hbase⟩ : ∃ b, b = w2.drew.heap.size := ⟨_, rfl⟩
  obtain ⟨b1, hb1⟩ : ∃ b, b = wa.heap.size := ⟨_, rfl⟩
  obtain ⟨b2, hb2⟩ : ∃ b, b = wb.heap.size := ⟨_, rfl⟩
  obtain ⟨b3, hb3⟩ : ∃ b, b = wc.heap.size := ⟨_, rfl⟩
  obtain ⟨b4, hb4⟩ : ∃ b, b = wd.heap.size := ⟨_, rfl⟩
  have hXb : X < base := by rw [hbase]; have := HR2.out; have := HXR.out; show X < w2.heap.size; omega
  have hRb : R < base := by rw [hbase]; have := HR2.out; show R < w2.heap.size; omega
  have hXS : ∀ k, k = X → k < base ∨ b1 ≤ k := fun k hk => .inl (by omega)
  have l1 : base ≤ b1 := by rw [hbase, hb1]; exact HSA.out
  have l2 : b1 ≤ b2 := by rw [hb1, hb2]; exact HSB.out
  have l3 : b2 ≤ b3 := by rw [hb2, hb3]; exact HSC.out
  have l4 : b3 ≤ b4 := by rw [hb3, hb4]; exact HSD.out
  have HSO : Hid (StO wh b0 base b1 b2 b3 b4 s (.slice om' s.ms.length cm') (.slice og' raw.length cg') (.slice op' s.mp.length cp') (.slice od' s.dirty.length cd') raw) := Lib.hid
    ⟨by omega, l1, l2, l3, l4, by rw [hb4]; exact HBUT.out.size, by rw [hbase, hb1]; exact HOMd.out.but HBUT.out (fun k hk => .inl (by omega)), by rw [hb1, hb2]; exact HOGd.out.but HBUT.out (fun k hk => .inl (by omega)), by rw [hb2, hb3]; exact HOPd.out.but HBUT.out (fun k hk => .inl (by omega)), by rw [hb3, hb4]; exact HOD.out.but HBUT.out (fun k hk => .inl (by omega)),
     fun W' hb => HH0.out.rel.kept (But.to_kept (HK0.out.trans (But.to_kept HKD.out HBUT.out (fun i hi => by rw [hi, HX.out]; exact Nat.le_refl _))) hb (fun i hi => by have := HB0.out; omega)), HH.out.plug, HH.out.lms, HH.out.lgs, HH.out.lmp, HH.out.ldi⟩
  have HKH := Lib.hid (But.to_kept HKD.out HBUT.out (fun i hi => by rw [hi, HX.out]; exact Nat.le_refl _))
  clear hXS HOM HOMb HOMc HOMd HOG HOGc HOGd HOP HOPd HOD HKA HKB HKC HKD HQA HQB HQC HQD HQ HD HSA HSB HSC HSD hbase hb1 hb2 hb3 hb4 HBUT HBX HBX2 HZR HK2 HR2
  have x2 : wh.cell? ⟨X, 2, none⟩ = some (.slice og' raw.length cg') := (stv_cells ((Cells.of_block HX4.out) : Cells wh X 0 (stC s _ _ _ _))).2.2.1
  go_wp2
  clear x2
  go_loopw [23] (fun i wr => ∃ (k : Nat) (raw' : List Gw), k ≤ raw.length ∧ i = .int .i64 (k : Int) ∧ Hid (raw'.length = raw.length ∧ StO wr b0 base b1 b2 b3 b4 s (.slice om' s.ms.length cm') (.slice og' raw.length cg') (.slice op' s.mp.length cp') (.slice od' s.dirty.length cd') raw' ∧ wr.heap[X]? = some (.cells (stC s (.slice om' s.ms.length cm') (.slice og' raw.length cg') (.slice op' s.mp.length cp') (.slice od' s.dirty.length cd')).toArray 31 (0, 0)) ∧ wr.heap[R]? = some (.cells (stv 0 nilS nilS nilS nilS (plv zeroPlg)).toArray 31 (0, 0)) ∧ Kept w wr)) (fun i _ => raw.length - (intOf i).toNat)
  case atStart => exact ⟨0, raw, by omega, rfl, Lib.hid ⟨rfl, HSO.out, HX4.out, HR4.out, HKH.out⟩⟩
  case round =>
    obtain ⟨k, raw', hk, rfl, HR⟩ := hrel
    have hrl := HR.out.1
    by_cases hlt : k < raw.length
    · have hlt' : k < raw'.length := by omega
      obtain ⟨g, cap, junk, hsl, hg1, hg2, hblk, hj, hc1, hc2⟩ := HR.out.2.1.g.blk (by omega)
      rw [hrl] at hsl hj hc1
      injection hsl with e1 e2 e3
      subst e1 e3
      have hrel := HR.out.2.1.ext wr (But.refl _ _)
      have hgk : k < s.gs.length := by have := hrel.len; omega
      have hat := hrel.at_ k hlt' hgk
      obtain ⟨oe, ce, hve, _⟩ := hat.ext.form
      obtain ⟨ng, hng⟩ : ∃ n, n = s.gs[k].ext.length := ⟨_, rfl⟩
      rw [← hng] at hve
      have cx := hblk.cells grw_len hlt' 2 (by rw [grw_len]; decide)
      simp only [grw, List.getElem_cons_zero, List.getElem_cons_succ] at cx
      rw [hve] at cx
      have c2 : wr.cell? ⟨X, 2, none⟩ = some (.slice (some ⟨g, 0, none⟩) raw.length cg') := (stv_cells ((Cells.of_block HR.out.2.2.1) : Cells wr X 0 (stC s _ _ _ _))).2.2.1
      have hcx := fun (W : World) (hk : Kept wr W) => cln_x s.gs[k].ext (.slice oe ng ce) W hat.few (by rw [← hve]; exact hat.ext.kept hk)
      have HCX := Lib.hid hcx
      have HDR := Lib.hid (show Kept wr wr.drew from (Kept.refl _).drew)
      have HBLK := Lib.hid (show RBlk grw wr.drew g 37 raw' junk from hblk)
      have HAT := Lib.hid hat
      have hS : (fun (W : World) => W.cell? ⟨X, 2, none⟩ = some (.slice (some ⟨g, 0, none⟩) raw.length cg') ∧ W.cell? ⟨g, k * 3 + 2, none⟩ = some (.slice oe ng ce)) wr.drew := ⟨c2, cx⟩
      have hix1 : (0 : Int) ≤ (k : Int) := by omega
      have hix2 : (k : Int) < (raw.length : Int) := by omega
      clear c2 cx hcx hblk hrel hat hng hve
      go_upto_region 5 with fail
      refine wp_region_calm ?_
      refine wp_region_E (fun (W : World) => W.cell? ⟨X, 2, none⟩ = some (.slice (some ⟨g, 0, none⟩) raw.length cg') ∧ W.cell? ⟨g, k * 3 + 2, none⟩ = some (.slice oe ng ce)) 12 (by kernel_rfl) ?_
      refine wpAnyE_take (i := 0) (v := .pointer (some ⟨X, 2, none⟩)) (listed' := #[true, false, false, false, false, false, false, false, false, false, false, false, false]) (by rfl) (by kernel_rfl) (by kernel_rfl) calm_put hS (by rfl) ?_ ?_
      · intro W hW; clear hW; go_simp; try (with_reducible rfl)
      simp only [Act.put, List.getElem_toArray, List.getElem_cons_succ, List.getElem_cons_zero, List.setIfInBounds_toArray, List.set_cons_zero, List.set_cons_succ]
      refine wpAnyE_take (i := 1) (v := .slice (some ⟨g, 0, none⟩) raw.length cg') (listed' := #[true, true, false, false, false, false, false, false, false, false, false, false, false]) (by rfl) (by kernel_rfl) (by kernel_rfl) calm_put hS (by rfl) ?_ ?_
      · intro W hW; obtain ⟨c2, cx⟩ := hW; go_simp; try (with_reducible rfl)
      simp only [Act.put, List.getElem_toArray, List.getElem_cons_succ, List.getElem_cons_zero, List.setIfInBounds_toArray, List.set_cons_zero, List.set_cons_succ]
      refine wpAnyE_take (i := 2) (v := .int .i64 (k : Int)) (listed' := #[true, true, true, false, false, false, false, false, false, false, false, false, false]) (by rfl) (by kernel_rfl) (by kernel_rfl) calm_put hS (by rfl) ?_ ?_
      · intro W hW; clear hW; go_simp; try (with_reducible rfl)
      simp only [Act.put, List.getElem_toArray, List.getElem_cons_succ, List.getElem_cons_zero, List.setIfInBounds_toArray, List.set_cons_zero, List.set_cons_succ]
      refine wpAnyE_take (i := 3) (v := .pointer (some ⟨X, 2, none⟩)) (listed' := #[true, true, true, true, false, false, false, false, false, false, false, false, false]) (by rfl) (by kernel_rfl) (by kernel_rfl) calm_put hS (by rfl) ?_ ?_
      · intro W hW; clear hW; go_simp; try (with_reducible rfl)
      simp only [Act.put, List.getElem_toArray, List.getElem_cons_succ, List.getElem_cons_zero, List.setIfInBounds_toArray, List.set_cons_zero, List.set_cons_succ]
      refine wpAnyE_take (i := 4) (v := .slice (some ⟨g, 0, none⟩) raw.length cg') (listed' := #[true, true, true, true, true, false, false, false, false, false, false, false, false]) (by rfl) (by kernel_rfl) (by kernel_rfl) calm_put hS (by rfl) ?_ ?_
      · intro W hW; obtain ⟨c2, cx⟩ := hW; go_simp; try (with_reducible rfl)
      simp only [Act.put, List.getElem_toArray, List.getElem_cons_succ, List.getElem_cons_zero, List.setIfInBounds_toArray, List.set_cons_zero, List.set_cons_succ]
      refine wpAnyE_take (i := 5) (v := .int .i64 (k : Int)) (listed' := #[true, true, true, true, true, true, false, false, false, false, false, false, false]) (by rfl) (by kernel_rfl) (by kernel_rfl) calm_put hS (by rfl) ?_ ?_
      · intro W hW; clear hW; go_simp; try (with_reducible rfl)
      simp only [Act.put, List.getElem_toArray, List.getElem_cons_succ, List.getElem_cons_zero, List.setIfInBounds_toArray, List.set_cons_zero, List.set_cons_succ]
      refine wpAnyE_take (i := 6) (v := .pointer (some ⟨g, k * 3, none⟩)) (listed' := #[true, true, true, true, true, true, true, false, false, false, false, false, false]) (by rfl) (by kernel_rfl) (by kernel_rfl) calm_put hS (by rfl) ?_ ?_
      · intro W hW; clear hW; go_simp; try (with_reducible rfl)
      simp only [Act.put, List.getElem_toArray, List.getElem_cons_succ, List.getElem_cons_zero, List.setIfInBounds_toArray, List.set_cons_zero, List.set_cons_succ]
      refine wpAnyE_take (i := 7) (v := .pointer (some ⟨g, k * 3 + 2, none⟩)) (listed' := #[true, true, true, true, true, true, true, true, false, false, false, false, false]) (by rfl) (by kernel_rfl) (by kernel_rfl) calm_put hS (by rfl) ?_ ?_
      · intro W hW; clear hW; go_simp; try (with_reducible rfl)
      simp only [Act.put, List.getElem_toArray, List.getElem_cons_succ, List.getElem_cons_zero, List.setIfInBounds_toArray, List.set_cons_zero, List.set_cons_succ]
      refine wpAnyE_take (i := 8) (v := .slice oe ng ce) (listed' := #[true, true, true, true, true, true, true, true, true, false, false, false, false]) (by rfl) (by kernel_rfl) (by kernel_rfl) calm_put hS (by rfl) ?_ ?_
      · intro W hW; obtain ⟨c2, cx⟩ := hW; go_simp; try (with_reducible rfl)
      simp only [Act.put, List.getElem_toArray, List.getElem_cons_succ, List.getElem_cons_zero, List.setIfInBounds_toArray, List.set_cons_zero, List.set_cons_succ]
      refine wpAnyE_one (i := 9) (listed' := #[true, true, true, true, true, true, true, true, true, true, false, false, false]) (by rfl) (by kernel_rfl) (by kernel_rfl) (by rfl) (fun K hK => ?_)
      simp only [Act.put, List.getElem_toArray, List.getElem_cons_succ, List.getElem_cons_zero, List.setIfInBounds_toArray, List.set_cons_zero, List.set_cons_succ]
      go_wp2_with fail
      refine Calls.mono (HCX.out _ HDR.out) ?_
      rintro e w2 ⟨v2, rfl, ha, ho, hr, hk⟩
      obtain ⟨ov2, cv2, hv2, _⟩ := hr.form
      have HV2 := Lib.hid (slice_one hv2)
      have HOX := Lib.hid (Own.of_clone ha ho)
      have HBG := Lib.hid (show RBlk grw w2 g 37 raw' junk from hk.block HBLK.out)
      have HK2 := Lib.hid hk
      have hS : (fun (W : World) => W.cell? ⟨X, 2, none⟩ = some (.slice (some ⟨g, 0, none⟩) raw.length cg') ∧ W.cell? ⟨g, k * 3 + 2, none⟩ = some (.slice oe ng ce)) _ := ⟨hk.cell' hS.1, hk.cell' hS.2⟩
      refine hK _ _ (fun _ => hS) ?_; clear hK K
      clear ha ho hr hk hv2
      refine wpAnyE_one (i := 10) (listed' := #[true, true, true, true, true, true, true, true, true, true, true, false, false]) (by rfl) (by kernel_rfl) (by kernel_rfl) (by rfl) (fun K hK => ?_)
      simp only [Act.put, List.getElem_toArray, List.getElem_cons_succ, List.getElem_cons_zero, List.setIfInBounds_toArray, List.set_cons_zero, List.set_cons_succ]
      go_wp2
      refine hK _ _ (fun _ => hS) ?_; clear hK K
      refine wpAnyE_take (i := 11) (v := .pointer (some ⟨g, k * 3 + 2, none⟩)) (listed' := #[true, true, true, true, true, true, true, true, true, true, true, true, false]) (by rfl) (by kernel_rfl) (by kernel_rfl) calm_put hS (by rfl) ?_ ?_
      · intro W hW; clear hW; go_simp; try (with_reducible rfl)
      simp only [Act.put, List.getElem_toArray, List.getElem_cons_succ, List.getElem_cons_zero, List.setIfInBounds_toArray, List.set_cons_zero, List.set_cons_succ]
      refine wpAnyE_one (i := 12) (listed' := #[true, true, true, true, true, true, true, true, true, true, true, true, true]) (by rfl) (by kernel_rfl) (by kernel_rfl) (by rfl) (fun K hK => ?_)
      simp only [Act.put, List.getElem_toArray, List.getElem_cons_succ, List.getElem_cons_zero, List.setIfInBounds_toArray, List.set_cons_zero, List.set_cons_succ]
      refine wp_set_cell _ _ rfl size_extsT g (k * 3 + 2) rfl v2 rfl HV2.out.1 HV2.out.2 (raw'.flatMap grw ++ junk) _ HBG.out (by rw [List.length_append, flat_len grw_len]; rw [hrl]; omega) ?_
      intro w3 hw3
      refine hK _ _ (fun h => absurd rfl h) ?_; clear hK K
      refine wpAnyE_done (by kernel_rfl) ?_ _
      refine calm_normal ?_
      rw [flat_set3 raw' k hlt'] at hw3
      have HW3 := Lib.hid hw3
      have hbt : But (fun i => i = g) wr w3 := ((But.kept (S := fun i => i = g) (HDR.out.trans HK2.out))).trans (But.wrote hw3 rfl)
      have HBT := Lib.hid hbt
      clear hw3 hbt hS hix1 hix2
      have hXg : X ≠ g := by omega
      have hRg : R ≠ g := by omega
      obtain ⟨raw2, hraw2⟩ : ∃ r, r = raw'.set k (raw'[k].1, raw'[k].2.1, v2) := ⟨_, rfl⟩
      have hrl2 : raw2.length = raw.length := by rw [hraw2, List.length_set]; exact hrl
      have HO := HR.out.2.1
      have HN : Hid (StO w3 b0 base b1 b2 b3 b4 s (.slice om' s.ms.length cm') (.slice (some ⟨g, 0, none⟩) raw.length cg') (.slice op' s.mp.length cp') (.slice od' s.dirty.length cd') raw2) := Lib.hid (by
        refine ⟨HO.le0, l1, l2, l3, l4, Nat.le_trans HO.le5 HBT.out.size, HO.m.but HBT.out (fun k hk => .inr (by omega)), ?_, HO.p.but HBT.out (fun k hk => .inl (by omega)), HO.d.but HBT.out (fun k hk => .inl (by omega)), ?_, HO.plug, HO.lms, HO.lgs, HO.lmp, HO.ldi⟩
        · have := Own.of_blk (lo := b1) (hi := b2) (cap := cg') (l := raw2) (junk := junk) grw_len (by rw [hraw2]; exact HW3.out.blk) hg1 hg2 (by rw [hrl2]; exact hj) (by rw [hrl2]; exact hc1) hc2
          rw [hrl2] at this; exact this
        · intro W' hb'
          have hold := HO.ext W' ((HBT.out.mono (S' := fun i => b0 ≤ i ∧ i < b4) (fun i hi => by omega)).trans hb')
          refine ⟨by rw [hrl2, ← hrl]; exact hold.len, fun j h1 h2 => ?_⟩
          have hj' : j < raw'.length := by rw [hraw2, List.length_set] at h1; exact h1
          have hoj := hold.at_ j hj' h2
          by_cases e : j = k
          · subst e
            have hv : RSl pairV 2 W' v2 s.gs[j].ext := ((HOX.out.but (But.wrote (S := fun i => i = g) HW3.out rfl) (fun i hi => .inl (by have := HO.le5; have := HDR.out.size; omega))).but hb' (fun i hi => .inl (by have := HO.le5; have := HDR.out.size; omega))).rsl pairV_len
            refine ⟨?_, ?_, ?_, hoj.few⟩
            · simp only [hraw2, List.getElem_set_self]; exact hoj.id
            · simp only [hraw2, List.getElem_set_self]; exact hoj.kind
            · simp only [hraw2, List.getElem_set_self]; exact hv
          · have : raw2[j] = raw'[j] := by simp only [hraw2]; rw [List.getElem_set_ne (fun h => e h.symm)]
            rw [this]; exact hoj)
      have HXN := Lib.hid (HBT.out.blk (by exact hXg) HR.out.2.2.1)
      have HRN := Lib.hid (HBT.out.blk (by exact hRg) HR.out.2.2.2.1)
      have HKN := Lib.hid (But.to_kept HR.out.2.2.2.2 HBT.out (fun i hi => by have := HX.out; omega))
      go_wp2
      go_roundw
      case rel => exact ⟨k + 1, raw2, by omega, by go_num, Lib.hid ⟨hrl2, HN.out, HXN.out, HRN.out, HKN.out⟩⟩
      case measure => simp [intOf]; omega
    · have HL2 : Hid ((stC s (.slice om' s.ms.length cm') (.slice og' raw.length cg') (.slice op' s.mp.length cp') (.slice od' s.dirty.length cd')).length = 136) := Lib.hid (stv_len (plv_len HH.out.plug))
      have HON := Lib.hid (stC_one (s := s) (sm := .slice om' s.ms.length cm') (sg := .slice og' raw.length cg') (sp := .slice op' s.mp.length cp') (sd := .slice od' s.dirty.length cd') rfl rfl rfl rfl)
      have HCX := Lib.hid (Cells.of_block HR.out.2.2.1)
      go_wp2_with (refine stop_at (o := ⟨some 39, _, _, _, _, _⟩) ?_)
      refine Stop.mk ?_
      refine wpList_load_agg rfl _ rfl agT_state X 0 rfl _ HCX.out HL2.out ?_
      refine wpList_store_agg rfl _ _ rfl agT_state R 0 rfl _ rfl HL2.out HON.out _ _ HR.out.2.2.2.1 (by show 0 + 136 ≤ (stv 0 nilS nilS nilS nilS (plv zeroPlg)).length; decide) ?_
      intro w3 hw3
      replace hw3 := hw3.all (by rw [HL2.out]; decide)
      have HW3 := Lib.hid hw3; clear hw3
      have hbt : But (fun i => i = R) wr w3 := But.wrote HW3.out rfl
      have HO := HR.out.2.1
      have hRX := HXR.out
      have HKN := Lib.hid (But.to_kept HR.out.2.2.2.2 hbt (fun i hi => by have := HX.out; omega))
      have HN : Hid (StO w3 w0.heap.size base b1 b2 b3 b4 s (.slice om' s.ms.length cm') (.slice og' raw.length cg') (.slice op' s.mp.length cp') (.slice od' s.dirty.length cd') raw') := Lib.hid (by
        rw [← HB0.out]
        exact ⟨HO.le0, l1, l2, l3, l4, Nat.le_trans HO.le5 hbt.size, HO.m.but hbt (fun k hk => .inl (by omega)), HO.g.but hbt (fun k hk => .inl (by omega)), HO.p.but hbt (fun k hk => .inl (by omega)), HO.d.but hbt (fun k hk => .inl (by omega)),
          fun W' hb' => HO.ext W' ((hbt.mono (S' := fun i => b0 ≤ i ∧ i < b4) (fun i hi => by omega)).trans hb'), HO.plug, HO.lms, HO.lgs, HO.lmp, HO.ldi⟩)
      go_wp2
      try simp only [Exit.inBlock, Exit.then]
      refine bodyPost_ret (results_state rfl _ _ R _ rfl HW3.out.cells HL2.out) rfl ?_
      exact ⟨base, b1, b2, b3, b4, _, _, _, _, raw', rfl, HN.out, HKN.out, by have := HX.out; omega⟩
end Go.Proofs.YtiijfocdjcjlaaaGreat
