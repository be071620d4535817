/- PpA: several texts in one: New. -/
import Derived.Test.YtiijfocdjcjlaaaGreatPoA
/- state.New (gen_new.py). -/
namespace Go.Proofs.YtiijfocdjcjlaaaGreat
open Go.RowKit Go.ChangeMaps Go.MapKept
set_option linter.unusedVariables false
set_option linter.unusedSimpArgs false
set_option maxRecDepth 100000
set_option maxHeartbeats 2000000
section
variable {P : Program} {ops : Array Oper} {Q : Exit → Act → World → Prop} {md : Region.Mode} {S : World → Prop} {s : Nat}
theorem wpAnyE_two {i j : Nat} {oi oj : Oper} {fuel : Nat} {listed li lj : Array Bool} {a : Act} {w : World} (hi : ops[i]? = some oi) (hj : ops[j]? = some oj) (hr : Region.ready md ops listed = [i, j]) (hli : listed.setIfInBounds i true = li) (hlj : listed.setIfInBounds j true = lj) (gi : oi.guard = none) (gj : oj.guard = none)
    (h1 : ∀ K : Act → World → Prop, (∀ a' w', (i ≠ s → S w') → wpAnyE P md ops Q S s fuel li a' w' → K a' w') → oi.wp P a w K Q)
    (h2 : ∀ K : Act → World → Prop, (∀ a' w', (j ≠ s → S w') → wpAnyE P md ops Q S s fuel lj a' w' → K a' w') → oj.wp P a w K Q) : wpAnyE P md ops Q S s (fuel + 1) listed a w := by
  subst hli hlj
  refine ⟨(fun h0 => (by rw [h0] at hr; cases hr)), fun k hk => ?_⟩
  rw [hr] at hk
  have hw1 : Region.wanted oi (yielded ops a.tmps) = true := by simp [Region.wanted, gi]
  have hw2 : Region.wanted oj (yielded ops a.tmps) = true := by simp [Region.wanted, gj]
  simp only [List.mem_cons, List.mem_nil_iff, or_false] at hk
  unfold wpOp
  rcases hk with rfl | rfl
  · simp only [hi, hw1, if_true]
    exact .inl (h1 _ fun a' w' h1 h2 => ⟨h1, h2⟩)
  · simp only [hj, hw2, if_true]
    exact .inl (h2 _ fun a' w' h1 h2 => ⟨h1, h2⟩)
theorem wpAnyE_three {i j k : Nat} {oi oj ok : Oper} {fuel : Nat} {listed li lj lk : Array Bool} {a : Act} {w : World} (hi : ops[i]? = some oi) (hj : ops[j]? = some oj) (hk : ops[k]? = some ok) (hr : Region.ready md ops listed = [i, j, k]) (hli : listed.setIfInBounds i true = li) (hlj : listed.setIfInBounds j true = lj) (hlk : listed.setIfInBounds k true = lk) (gi : oi.guard = none) (gj : oj.guard = none) (gk : ok.guard = none)
    (h1 : ∀ K : Act → World → Prop, (∀ a' w', (i ≠ s → S w') → wpAnyE P md ops Q S s fuel li a' w' → K a' w') → oi.wp P a w K Q)
    (h2 : ∀ K : Act → World → Prop, (∀ a' w', (j ≠ s → S w') → wpAnyE P md ops Q S s fuel lj a' w' → K a' w') → oj.wp P a w K Q)
    (h3 : ∀ K : Act → World → Prop, (∀ a' w', (k ≠ s → S w') → wpAnyE P md ops Q S s fuel lk a' w' → K a' w') → ok.wp P a w K Q) : wpAnyE P md ops Q S s (fuel + 1) listed a w := by
  subst hli hlj hlk
  refine ⟨(fun h0 => (by rw [h0] at hr; cases hr)), fun q hq => ?_⟩
  rw [hr] at hq
  have hw1 : Region.wanted oi (yielded ops a.tmps) = true := by simp [Region.wanted, gi]
  have hw2 : Region.wanted oj (yielded ops a.tmps) = true := by simp [Region.wanted, gj]
  have hw3 : Region.wanted ok (yielded ops a.tmps) = true := by simp [Region.wanted, gk]
  simp only [List.mem_cons, List.mem_nil_iff, or_false] at hq
  unfold wpOp
  rcases hq with rfl | rfl | rfl
  · simp only [hi, hw1, if_true]
    exact .inl (h1 _ fun a' w' h1 h2 => ⟨h1, h2⟩)
  · simp only [hj, hw2, if_true]
    exact .inl (h2 _ fun a' w' h1 h2 => ⟨h1, h2⟩)
  · simp only [hk, hw3, if_true]
    exact .inl (h3 _ fun a' w' h1 h2 => ⟨h1, h2⟩)
theorem wp_alloc_abs {o : Oper} {a : Act} {w : World} {K : Act → World → Prop} (T : TypeId) (ho : o.op = .alloc T) (zs : List Value) (hz : ∀ w, (zeroValue T).run P w = .ok (.agg zs.toArray) w)
    (h : ∀ w1, Hid (w1.heap[w.heap.size]? = some (.cells zs.toArray T (0, 0))) → w.heap.size < w1.heap.size → Kept w w1 → K (a.put o.dst (.pointer (some ⟨w.heap.size, 0, none⟩))) w1) : o.wp P a w K Q := by
  unfold Oper.wp execOp
  simp only [ho, Instr.alloc, newVar, newRow, Sem.run_bind, hz, Result.andThen_ok, Sem.run_pure, run_newObj_alloc, Value.cells]
  exact h _ (Lib.hid (heap_alloc_new w _)) (by simp) ((Kept.refl _).alloc _)
end
theorem wp_make_whr {o : Oper} {a : Act} {w : World} {K : Act → World → Prop} {Q : Exit → Act → World → Prop} (x y : Operand) (ho : o.op = .makeSlice 24 x y) (n : Nat) (h1 : 1 ≤ n) (h96 : n ≤ 96) (hx : a.eval x = .int .i64 (n : Int)) (hy : a.eval y = .int .i64 (n : Int))
    (h : ∀ w1, Own 41 trip 3 w1 w.heap.size w1.heap.size (.slice (some ⟨w.heap.size, 0, none⟩) n n) (List.replicate n (0, 0, 0)) → Kept w w1 → K (a.put o.dst (.slice (some ⟨w.heap.size, 0, none⟩) n n)) w1) : o.wp Tryz.prog a w K Q := by
  obtain ⟨i, hi1, hi2, hi3, hi4⟩ := info_parts (P := Tryz.prog) (e := 41) (z := .agg #[.int .i64 0, .int .i64 0, .int .i64 0]) (size := 3) (bytes := 24) (by kernel_rfl)
  obtain ⟨w', hrun, r1, r2⟩ := run_make_full (P := Tryz.prog) w w.heap.size 24 41 i _ 3 Tryz.underlying24 hi1 hi2 hi3 .i64 .i64 n (by rw [hi4]; omega) (by unfold maxLen; omega) (Nat.le_refl _)
  unfold Oper.wp
  simp [execOp, ho, hx, hy, hrun, Result.andThen]
  rw [made_zero] at r1
  exact h w' (.inl ⟨w.heap.size, n, by simp, Nat.le_refl _, by rcases owns_form r1 with ⟨h, _⟩ | ⟨g, c, h, _, h2, _⟩; cases h; cases h; exact h2, by simpa using r1⟩) ((Kept.refl w).grown r2 (by intro k hk; cases hk))
def newS (n : Nat) (l : List Mb) : St := ⟨n, l, [], List.replicate n (0, 0, 0), [], zeroPlg⟩
theorem exec_build_new {W : World} {a : Act} {o : Oper} (x y z : Operand) (ho : o.op = .build 31 #[(0, x), (1, y), (3, z)]) (n : Int) (om op : Option Addr) (lm cm lp cp : Nat) (hx : a.eval x = .int .i64 n) (hy : a.eval y = .slice om lm cm) (hz : a.eval z = .slice op lp cp) :
    (execOp a.eval o).run Tryz.prog W = .ok (.value (.agg (stv n (.slice om lm cm) nilS (.slice op lp cp) nilS (plv zeroPlg)).toArray)) W := by
  have hr := run_build (P := Tryz.prog) W 31 #[(0, Value.int .i64 n), (1, .slice om lm cm), (3, .slice op lp cp)] (stv n (.slice om lm cm) nilS (.slice op lp cp) nilS (plv zeroPlg)).toArray (by kernel_rfl)
  unfold execOp
  simp only [ho, List.map_toArray, List.map_cons, List.map_nil, hx, hy, hz, Sem.run_bind, hr, Result.andThen_ok, Sem.run_pure]
theorem wp_store_agg {P : Program} {o : Oper} {a : Act} {w : World} {K : Act → World → Prop} {Q : Exit → Act → World → Prop} {T n : Nat} (x y : Operand) (ho : o.op = .store T x y) (hT : AggT P T n)
    (b off : Nat) (hx : a.eval x = .pointer (some ⟨b, off, none⟩)) (xs : List Value) (hy : a.eval y = .agg xs.toArray) (hl : xs.length = n) (h1 : ∀ v ∈ xs, v.oneCell' = true)
    (cur : List Value) (t : TypeId) (hb : w.heap[b]? = some (.cells cur.toArray t (0, 0))) (hfit : off + n ≤ cur.length)
    (h : ∀ w1, Wrote w w1 b (splice cur off xs) t → K (a.put o.dst undef) w1) : o.wp P a w K Q := by
  have hst := run_storeCells_at P b off t xs 0 cur.toArray w hb (by simpa [hl] using hfit) h1
  obtain ⟨_, hs⟩ := hT
  cases hq : P.info? T with
  | none => simp [hq] at hs
  | some i =>
    have hi : i.size = n := by simpa [hq] using hs
    unfold Oper.wp execOp
    simp only [ho, hx, hy, Instr.storeAt, Instr.sureAddr, Sem.run_bind, Sem.run_pure, Result.andThen_ok, storeVar, sizeOf, typeInfo, run_program, hq, Value.cells, List.size_toArray, hi, hl, ne_eq, not_true_eq_false, if_false, hst]
    refine h _ ⟨?_, ?_, ?_, rfl, rfl, rfl⟩
    · rw [setRow_heap w b _ _ t _ hb]
      subst hl; simp [splice]
    · intro k hk; exact setRow_other w b k _ hk
    · simp
theorem st_New (n : Nat) (l : List Mb) (vl : Value) (w : World) (h1 : 1 ≤ n) (h96 : n ≤ 96) (hlen : l.length ≤ 4096) (hm : RSl trip 3 w vl l) (hright : rightS (newS n l) = true) :
    Calls Tryz.prog 16 #[.int .i64 (n : Int), vl] w fun e w' => ∃ sm sg sp sd raw, e = .returned (.tuple #[.agg (stC (newS n l) sm sg sp sd).toArray, .int .i64 0]) ∧ StM w' (newS n l) sm sg sp sd raw ∧ Kept w w' := by
  obtain ⟨ol, cl, rfl, _⟩ := hm.form
  have HM := Lib.hid hm; clear hm
  have HRT := Lib.hid hright; clear hright
  have HZL := Lib.hid (show (stv 0 nilS nilS nilS nilS (plv zeroPlg)).length = 136 from rfl)
  have HIN := Lib.hid (show inN (n : Int) 1 96 = true by simp [inN]; omega)
  go_enter Tryz.func16, Tryz.ntmps16
  go_wp2_with (refine stop_at (o := ⟨some 4, .alloc _, _, _, _, _⟩) ?_)
  refine Stop.mk ?_
  refine wpList_alloc_abs rfl _ rfl _ zero_state ?_
  intro w1 hz1 hs1 hs1' hk1
  obtain ⟨R, hR⟩ : ∃ R, R = w.heap.size := ⟨_, rfl⟩
  rw [← hR] at hz1 ⊢
  have HR1 := hz1
  have HK := Lib.hid hk1
  have HRw := Lib.hid hR
  have HR1l := Lib.hid (show R < w1.heap.size by have := hs1'.out; omega)
  clear hz1 hs1 hs1' hk1 hR
  go_upto_region 3 with (go_at_call 21; refine (st_in _ _ _ _).mono ?_; rw [HIN.out]; rintro e wi ⟨rfl, rfl⟩)
  have hS : (fun (_ : World) => True) w1.drew := trivial
  refine wp_region_calm ?_
  refine wp_region_E (fun (_ : World) => True) 7 (by kernel_rfl) ?_
  refine wpAnyE_take (i := 0) (v := .int .i64 (n : Int)) (listed' := #[true, false, false, false, false, false, false, false]) (by rfl) (by kernel_rfl) (by kernel_rfl) calm_put hS (by rfl) ?_ ?_
  · intro W hW; clear hW; go_simp; try (with_reducible rfl)
  simp only [Act.put, List.getElem_toArray, List.getElem_cons_succ, List.getElem_cons_zero, List.setIfInBounds_toArray, List.set_cons_zero, List.set_cons_succ]
  refine wpAnyE_take (i := 1) (v := .slice ol l.length cl) (listed' := #[true, true, false, false, false, false, false, false]) (by rfl) (by kernel_rfl) (by kernel_rfl) calm_put hS (by rfl) ?_ ?_
  · intro W hW; clear hW; go_simp; try (with_reducible rfl)
  simp only [Act.put, List.getElem_toArray, List.getElem_cons_succ, List.getElem_cons_zero, List.setIfInBounds_toArray, List.set_cons_zero, List.set_cons_succ]
  refine wpAnyE_take (i := 3) (v := .int .i64 (n : Int)) (listed' := #[true, true, false, true, false, false, false, false]) (by rfl) (by kernel_rfl) (by kernel_rfl) calm_put hS (by rfl) ?_ ?_
  · intro W hW; clear hW; go_simp; try (with_reducible rfl)
  simp only [Act.put, List.getElem_toArray, List.getElem_cons_succ, List.getElem_cons_zero, List.setIfInBounds_toArray, List.set_cons_zero, List.set_cons_succ]
  have HK := Lib.hid (show Kept w w1.drew from HK.out.drew)
  have HRD := Lib.hid (show Kept w1 w1.drew from (Kept.refl _).drew)
  have HRB := Lib.hid (HRD.out.block HR1.out)
  generalize w1.drew = wd at *
  have hRd : R < wd.heap.size := (Array.getElem?_eq_some_iff.1 HRB.out).1
  clear HR1
  refine wpAnyE_three (i := 2) (j := 4) (k := 6) (li := #[true, true, true, true, false, false, false, false]) (lj := #[true, true, false, true, true, false, false, false]) (lk := #[true, true, false, true, false, false, true, false]) (by rfl) (by rfl) (by rfl) (by kernel_rfl) (by kernel_rfl) (by kernel_rfl) (by kernel_rfl) (by rfl) (by rfl) (by rfl) (fun K hK => ?_) (fun K hK => ?_) (fun K hK => ?_)
  · simp only [Act.put, List.getElem_toArray, List.getElem_cons_succ, List.getElem_cons_zero, List.setIfInBounds_toArray, List.set_cons_zero, List.set_cons_succ]
    go_wp2_with fail
    refine Calls.mono (cln_m l (.slice ol l.length cl) _ (by omega) (HM.out.kept HK.out)) ?_
    rintro e W2 ⟨vm, rfl, ha, ho, hr, hk⟩
    have hown := Own.of_clone ha ho
    obtain ⟨om, cm, rfl⟩ := hown.form
    have HVM := Lib.hid hown
    clear ha ho hown hr
    have HK := Lib.hid (HK.out.trans hk); have HRB := Lib.hid (hk.block HRB.out); have hsz2 := hk.size
    refine hK _ _ (fun _ => trivial) ?_; clear hK K hk
    refine wpAnyE_two (i := 4) (j := 6) (li := #[true, true, true, true, true, false, false, false]) (lj := #[true, true, true, true, false, false, true, false]) (by rfl) (by rfl) (by kernel_rfl) (by kernel_rfl) (by kernel_rfl) (by rfl) (by rfl) (fun K hK => ?_) (fun K hK => ?_)
    · simp only [Act.put, List.getElem_toArray, List.getElem_cons_succ, List.getElem_cons_zero, List.setIfInBounds_toArray, List.set_cons_zero, List.set_cons_succ]
      refine wp_make_whr _ _ rfl n h1 h96 rfl rfl ?_
      intro W24 hr hk
      obtain ⟨PB, hPB⟩ : ∃ b, b = W2.heap.size := ⟨_, rfl⟩
      have HVP : Hid (Own 41 trip 3 W24 PB W24.heap.size (.slice (some ⟨PB, 0, none⟩) n n) (List.replicate n (0, 0, 0))) := Lib.hid (by rw [hPB]; exact hr)
      rw [← hPB]
      have HPB := Lib.hid hPB
      clear hr hPB
      have HVM := Lib.hid (HVM.out.kept hk)
      have HK := Lib.hid (HK.out.trans hk); have HRB := Lib.hid (hk.block HRB.out); have hsz24 := hk.size
      refine hK _ _ (fun _ => trivial) ?_; clear hK K hk
      refine wpAnyE_take (i := 5) (v := .agg (stv (n : Int) (.slice om l.length cm) nilS (.slice (some ⟨PB, 0, none⟩) n n) nilS (plv zeroPlg)).toArray) (listed' := #[true, true, true, true, true, true, false, false]) (by rfl) (by kernel_rfl) (by kernel_rfl) calm_put hS (by rfl) ?_ ?_
      · intro W hW; exact exec_build_new _ _ _ rfl (n : Int) _ _ _ _ _ _ rfl rfl rfl
      simp only [Act.put, List.getElem_toArray, List.getElem_cons_succ, List.getElem_cons_zero, List.setIfInBounds_toArray, List.set_cons_zero, List.set_cons_succ]
      refine wpAnyE_one (i := 6) (listed' := #[true, true, true, true, true, true, true, false]) (by rfl) (by kernel_rfl) (by kernel_rfl) (by rfl) (fun K hK => ?_)
      simp only [Act.put, List.getElem_toArray, List.getElem_cons_succ, List.getElem_cons_zero, List.setIfInBounds_toArray, List.set_cons_zero, List.set_cons_succ]
      refine wp_alloc_abs _ rfl _ zero_state ?_
      intro W246 hz hlt hk
      obtain ⟨YB, hYB⟩ : ∃ b, b = W24.heap.size := ⟨_, rfl⟩
      rw [← hYB] at hz ⊢
      have HY := hz
      have HYR := Lib.hid (show R < YB by rw [hYB]; exact (Array.getElem?_eq_some_iff.1 HRB.out).1)
      have HYB := Lib.hid hYB
      have HYL := Lib.hid (show YB < W246.heap.size by omega)
      clear hz hYB hlt
      have HVM := Lib.hid (HVM.out.kept hk)
      have HVP := Lib.hid (HVP.out.kept hk)
      have HK := Lib.hid (HK.out.trans hk); have HRB := Lib.hid (hk.block HRB.out); have hsz246 := hk.size
      refine hK _ _ (fun _ => trivial) ?_; clear hK K hk
      refine wpAnyE_one (i := 7) (listed' := #[true, true, true, true, true, true, true, true]) (by rfl) (by kernel_rfl) (by kernel_rfl) (by rfl) (fun K hK => ?_)
      simp only [Act.put, List.getElem_toArray, List.getElem_cons_succ, List.getElem_cons_zero, List.setIfInBounds_toArray, List.set_cons_zero, List.set_cons_succ]
      have hone : ∀ v ∈ stv (n : Int) (.slice om l.length cm) nilS (.slice (some ⟨PB, 0, none⟩) n n) nilS (plv zeroPlg), v.oneCell' = true := stC_one (s := newS n l) rfl rfl rfl rfl
      refine wp_store_agg _ _ rfl agT_state YB 0 rfl _ rfl rfl hone _ _ HY.out (by rw [HZL.out]; decide) ?_
      intro wz hwz
      replace hwz := hwz.all rfl
      refine hK _ _ (fun h => absurd rfl h) ?_; clear hK K hone
      refine wpAnyE_done (by kernel_rfl) ?_ _
      refine calm_normal ?_
      have hbz : But (fun k => k = YB) _ wz := But.wrote hwz rfl
      have HSTM : Hid (StM wz (newS n l) (.slice om l.length cm) nilS (.slice (some ⟨PB, 0, none⟩) n n) nilS []) := Lib.hid ⟨(HVM.out.but hbz (fun k hk => by have := HPB.out; have := HYB.out; have := HYL.out; omega)).rsl trip_len, RSl.nil, ⟨rfl, fun k h => by cases h⟩, (HVP.out.but hbz (fun k hk => by have := HPB.out; have := HYB.out; have := HYL.out; omega)).rsl trip_len, RSl.nil, zeroPlg_ok, hlen, by simp [newS], by simp [newS]; omega, by simp [newS]⟩
      have HCL : Hid (∀ W', But (fun k => k = R) wz W' → StM W' (newS n l) (.slice om l.length cm) nilS (.slice (some ⟨PB, 0, none⟩) n n) nilS []) := Lib.hid fun W' hb => ⟨((HVM.out.but hbz (fun k hk => by have := HPB.out; have := HYB.out; have := HYL.out; omega)).but hb (fun k hk => .inl (by have := HPB.out; omega))).rsl trip_len, RSl.nil, ⟨rfl, fun k h => by cases h⟩, ((HVP.out.but hbz (fun k hk => by have := HPB.out; have := HYB.out; have := HYL.out; omega)).but hb (fun k hk => .inl (by have := HPB.out; omega))).rsl trip_len, RSl.nil, zeroPlg_ok, hlen, by simp [newS], by simp [newS]; omega, by simp [newS]⟩
      have HYZ : Hid (Cells wz YB 0 (stC (newS n l) (.slice om l.length cm) nilS (.slice (some ⟨PB, 0, none⟩) n n) nilS)) := Lib.hid hwz.cells
      have HRZ := Lib.hid (hbz.blk (k := R) (by show ¬ R = YB; have := HYR.out; omega) HRB.out)
      have HKZ := Lib.hid (But.to_kept HK.out hbz (fun i hi => by have := HK.out.size; have := HYR.out; have := HRw.out; omega))
      clear hwz hbz hS HY HRB HVM HVP HK
      go_wp2_with (refine stop_at (o := ⟨some 17, _, _, _, _, _⟩) ?_)
      refine Stop.mk ?_
      refine wpList_load_agg rfl _ rfl agT_state YB 0 rfl _ HYZ.out rfl ?_
      have hrt := st_Right (newS n l) (.slice om l.length cm) nilS (.slice (some ⟨PB, 0, none⟩) n n) nilS [] wz HSTM.out
      rw [HRT.out] at hrt
      have HRTC := Lib.hid hrt; clear hrt
      go_wp2_with fail
      refine Calls.mono HRTC.out ?_
      rintro e wy ⟨rfl, hky⟩
      have HZY := Lib.hid hky
      have HYY := Lib.hid (HYZ.out.kept hky); have HRY := Lib.hid (hky.block HRZ.out); have HKY := Lib.hid (HKZ.out.trans hky); have HSY := Lib.hid (HSTM.out.kept hky)
      clear hky
      go_wp2_with (refine stop_at (o := ⟨some 21, _, _, _, _, _⟩) ?_)
      refine Stop.mk ?_
      refine wpList_load_agg rfl _ rfl agT_state YB 0 rfl _ HYY.out rfl ?_
      have hone : ∀ v ∈ stC (newS n l) (.slice om l.length cm) nilS (.slice (some ⟨PB, 0, none⟩) n n) nilS, v.oneCell' = true := stC_one (s := newS n l) rfl rfl rfl rfl
      refine wpList_store_agg rfl _ _ rfl agT_state R 0 rfl _ rfl rfl hone _ _ HRY.out (by rw [HZL.out]; decide) ?_
      intro wx hwx
      replace hwx := hwx.all rfl
      have HWX := Lib.hid hwx.blk
      have HKX := Lib.hid (But.to_kept HKY.out (But.wrote (S := fun k => k = R) hwx rfl) (fun i hi => by have := HRw.out; omega))
      have HSX : Hid (StM wx (newS n l) (.slice om l.length cm) nilS (.slice (some ⟨PB, 0, none⟩) n n) nilS []) := Lib.hid (HCL.out wx ((But.kept HZY.out).trans (But.wrote hwx rfl)))
      clear hwx hone
      go_wp2
      try simp only [Exit.inBlock, Exit.then]
      refine bodyPost_ret (results_state2 rfl _ _ R _ rfl (Cells.of_block HWX.out) rfl) rfl ?_
      exact ⟨_, _, _, _, _, rfl, HSX.out, HKX.out⟩
    · simp only [Act.put, List.getElem_toArray, List.getElem_cons_succ, List.getElem_cons_zero, List.setIfInBounds_toArray, List.set_cons_zero, List.set_cons_succ]
      refine wp_alloc_abs _ rfl _ zero_state ?_
      intro W26 hz hlt hk
      obtain ⟨YB, hYB⟩ : ∃ b, b = W2.heap.size := ⟨_, rfl⟩
      rw [← hYB] at hz ⊢
      have HY := hz
      have HYR := Lib.hid (show R < YB by rw [hYB]; exact (Array.getElem?_eq_some_iff.1 HRB.out).1)
      have HYB := Lib.hid hYB
      have HYL := Lib.hid (show YB < W26.heap.size by omega)
      clear hz hYB hlt
      have HVM := Lib.hid (HVM.out.kept hk)
      have HK := Lib.hid (HK.out.trans hk); have HRB := Lib.hid (hk.block HRB.out); have hsz26 := hk.size
      refine hK _ _ (fun _ => trivial) ?_; clear hK K hk
      refine wpAnyE_one (i := 4) (listed' := #[true, true, true, true, true, false, true, false]) (by rfl) (by kernel_rfl) (by kernel_rfl) (by rfl) (fun K hK => ?_)
      simp only [Act.put, List.getElem_toArray, List.getElem_cons_succ, List.getElem_cons_zero, List.setIfInBounds_toArray, List.set_cons_zero, List.set_cons_succ]
      refine wp_make_whr _ _ rfl n h1 h96 rfl rfl ?_
      intro W264 hr hk
      obtain ⟨PB, hPB⟩ : ∃ b, b = W26.heap.size := ⟨_, rfl⟩
      have HVP : Hid (Own 41 trip 3 W264 PB W264.heap.size (.slice (some ⟨PB, 0, none⟩) n n) (List.replicate n (0, 0, 0))) := Lib.hid (by rw [hPB]; exact hr)
      rw [← hPB]
      have HPB := Lib.hid hPB
      clear hr hPB
      have HVM := Lib.hid (HVM.out.kept hk)
      have HY := Lib.hid (hk.block HY.out)
      have HK := Lib.hid (HK.out.trans hk); have HRB := Lib.hid (hk.block HRB.out); have hsz264 := hk.size
      refine hK _ _ (fun _ => trivial) ?_; clear hK K hk
      refine wpAnyE_take (i := 5) (v := .agg (stv (n : Int) (.slice om l.length cm) nilS (.slice (some ⟨PB, 0, none⟩) n n) nilS (plv zeroPlg)).toArray) (listed' := #[true, true, true, true, true, true, true, false]) (by rfl) (by kernel_rfl) (by kernel_rfl) calm_put hS (by rfl) ?_ ?_
      · intro W hW; exact exec_build_new _ _ _ rfl (n : Int) _ _ _ _ _ _ rfl rfl rfl
      simp only [Act.put, List.getElem_toArray, List.getElem_cons_succ, List.getElem_cons_zero, List.setIfInBounds_toArray, List.set_cons_zero, List.set_cons_succ]
      refine wpAnyE_one (i := 7) (listed' := #[true, true, true, true, true, true, true, true]) (by rfl) (by kernel_rfl) (by kernel_rfl) (by rfl) (fun K hK => ?_)
      simp only [Act.put, List.getElem_toArray, List.getElem_cons_succ, List.getElem_cons_zero, List.setIfInBounds_toArray, List.set_cons_zero, List.set_cons_succ]
      have hone : ∀ v ∈ stv (n : Int) (.slice om l.length cm) nilS (.slice (some ⟨PB, 0, none⟩) n n) nilS (plv zeroPlg), v.oneCell' = true := stC_one (s := newS n l) rfl rfl rfl rfl
      refine wp_store_agg _ _ rfl agT_state YB 0 rfl _ rfl rfl hone _ _ HY.out (by rw [HZL.out]; decide) ?_
      intro wz hwz
      replace hwz := hwz.all rfl
      refine hK _ _ (fun h => absurd rfl h) ?_; clear hK K hone
      refine wpAnyE_done (by kernel_rfl) ?_ _
      refine calm_normal ?_
      have hbz : But (fun k => k = YB) _ wz := But.wrote hwz rfl
      have HSTM : Hid (StM wz (newS n l) (.slice om l.length cm) nilS (.slice (some ⟨PB, 0, none⟩) n n) nilS []) := Lib.hid ⟨(HVM.out.but hbz (fun k hk => by have := HPB.out; have := HYB.out; have := HYL.out; omega)).rsl trip_len, RSl.nil, ⟨rfl, fun k h => by cases h⟩, (HVP.out.but hbz (fun k hk => by have := HPB.out; have := HYB.out; have := HYL.out; omega)).rsl trip_len, RSl.nil, zeroPlg_ok, hlen, by simp [newS], by simp [newS]; omega, by simp [newS]⟩
      have HCL : Hid (∀ W', But (fun k => k = R) wz W' → StM W' (newS n l) (.slice om l.length cm) nilS (.slice (some ⟨PB, 0, none⟩) n n) nilS []) := Lib.hid fun W' hb => ⟨((HVM.out.but hbz (fun k hk => by have := HPB.out; have := HYB.out; have := HYL.out; omega)).but hb (fun k hk => .inl (by have := HPB.out; omega))).rsl trip_len, RSl.nil, ⟨rfl, fun k h => by cases h⟩, ((HVP.out.but hbz (fun k hk => by have := HPB.out; have := HYB.out; have := HYL.out; omega)).but hb (fun k hk => .inl (by have := HPB.out; omega))).rsl trip_len, RSl.nil, zeroPlg_ok, hlen, by simp [newS], by simp [newS]; omega, by simp [newS]⟩
      have HYZ : Hid (Cells wz YB 0 (stC (newS n l) (.slice om l.length cm) nilS (.slice (some ⟨PB, 0, none⟩) n n) nilS)) := Lib.hid hwz.cells
      have HRZ := Lib.hid (hbz.blk (k := R) (by show ¬ R = YB; have := HYR.out; omega) HRB.out)
      have HKZ := Lib.hid (But.to_kept HK.out hbz (fun i hi => by have := HK.out.size; have := HYR.out; have := HRw.out; omega))
      clear hwz hbz hS HY HRB HVM HVP HK
      go_wp2_with (refine stop_at (o := ⟨some 17, _, _, _, _, _⟩) ?_)
      refine Stop.mk ?_
      refine wpList_load_agg rfl _ rfl agT_state YB 0 rfl _ HYZ.out rfl ?_
      have hrt := st_Right (newS n l) (.slice om l.length cm) nilS (.slice (some ⟨PB, 0, none⟩) n n) nilS [] wz HSTM.out
      rw [HRT.out] at hrt
      have HRTC := Lib.hid hrt; clear hrt
      go_wp2_with fail
      refine Calls.mono HRTC.out ?_
      rintro e wy ⟨rfl, hky⟩
      have HZY := Lib.hid hky
      have HYY := Lib.hid (HYZ.out.kept hky); have HRY := Lib.hid (hky.block HRZ.out); have HKY := Lib.hid (HKZ.out.trans hky); have HSY := Lib.hid (HSTM.out.kept hky)
      clear hky
      go_wp2_with (refine stop_at (o := ⟨some 21, _, _, _, _, _⟩) ?_)
      refine Stop.mk ?_
      refine wpList_load_agg rfl _ rfl agT_state YB 0 rfl _ HYY.out rfl ?_
      have hone : ∀ v ∈ stC (newS n l) (.slice om l.length cm) nilS (.slice (some ⟨PB, 0, none⟩) n n) nilS, v.oneCell' = true := stC_one (s := newS n l) rfl rfl rfl rfl
      refine wpList_store_agg rfl _ _ rfl agT_state R 0 rfl _ rfl rfl hone _ _ HRY.out (by rw [HZL.out]; decide) ?_
      intro wx hwx
      replace hwx := hwx.all rfl
      have HWX := Lib.hid hwx.blk
      have HKX := Lib.hid (But.to_kept HKY.out (But.wrote (S := fun k => k = R) hwx rfl) (fun i hi => by have := HRw.out; omega))
      have HSX : Hid (StM wx (newS n l) (.slice om l.length cm) nilS (.slice (some ⟨PB, 0, none⟩) n n) nilS []) := Lib.hid (HCL.out wx ((But.kept HZY.out).trans (But.wrote hwx rfl)))
      clear hwx hone
      go_wp2
      try simp only [Exit.inBlock, Exit.then]
      refine bodyPost_ret (results_state2 rfl _ _ R _ rfl (Cells.of_block HWX.out) rfl) rfl ?_
      exact ⟨_, _, _, _, _, rfl, HSX.out, HKX.out⟩
  · simp only [Act.put, List.getElem_toArray, List.getElem_cons_succ, List.getElem_cons_zero, List.setIfInBounds_toArray, List.set_cons_zero, List.set_cons_succ]
    refine wp_make_whr _ _ rfl n h1 h96 rfl rfl ?_
    intro W4 hr hk
    obtain ⟨PB, hPB⟩ : ∃ b, b = wd.heap.size := ⟨_, rfl⟩
    have HVP : Hid (Own 41 trip 3 W4 PB W4.heap.size (.slice (some ⟨PB, 0, none⟩) n n) (List.replicate n (0, 0, 0))) := Lib.hid (by rw [hPB]; exact hr)
    rw [← hPB]
    have HPB := Lib.hid hPB
    clear hr hPB
    have HK := Lib.hid (HK.out.trans hk); have HRB := Lib.hid (hk.block HRB.out); have hsz4 := hk.size
    refine hK _ _ (fun _ => trivial) ?_; clear hK K hk
    refine wpAnyE_two (i := 2) (j := 6) (li := #[true, true, true, true, true, false, false, false]) (lj := #[true, true, false, true, true, false, true, false]) (by rfl) (by rfl) (by kernel_rfl) (by kernel_rfl) (by kernel_rfl) (by rfl) (by rfl) (fun K hK => ?_) (fun K hK => ?_)
    · simp only [Act.put, List.getElem_toArray, List.getElem_cons_succ, List.getElem_cons_zero, List.setIfInBounds_toArray, List.set_cons_zero, List.set_cons_succ]
      go_wp2_with fail
      refine Calls.mono (cln_m l (.slice ol l.length cl) _ (by omega) (HM.out.kept HK.out)) ?_
      rintro e W42 ⟨vm, rfl, ha, ho, hr, hk⟩
      have hown := Own.of_clone ha ho
      obtain ⟨om, cm, rfl⟩ := hown.form
      have HVM := Lib.hid hown
      clear ha ho hown hr
      have HVP := Lib.hid (HVP.out.kept hk)
      have HK := Lib.hid (HK.out.trans hk); have HRB := Lib.hid (hk.block HRB.out); have hsz42 := hk.size
      refine hK _ _ (fun _ => trivial) ?_; clear hK K hk
      refine wpAnyE_take (i := 5) (v := .agg (stv (n : Int) (.slice om l.length cm) nilS (.slice (some ⟨PB, 0, none⟩) n n) nilS (plv zeroPlg)).toArray) (listed' := #[true, true, true, true, true, true, false, false]) (by rfl) (by kernel_rfl) (by kernel_rfl) calm_put hS (by rfl) ?_ ?_
      · intro W hW; exact exec_build_new _ _ _ rfl (n : Int) _ _ _ _ _ _ rfl rfl rfl
      simp only [Act.put, List.getElem_toArray, List.getElem_cons_succ, List.getElem_cons_zero, List.setIfInBounds_toArray, List.set_cons_zero, List.set_cons_succ]
      refine wpAnyE_one (i := 6) (listed' := #[true, true, true, true, true, true, true, false]) (by rfl) (by kernel_rfl) (by kernel_rfl) (by rfl) (fun K hK => ?_)
      simp only [Act.put, List.getElem_toArray, List.getElem_cons_succ, List.getElem_cons_zero, List.setIfInBounds_toArray, List.set_cons_zero, List.set_cons_succ]
      refine wp_alloc_abs _ rfl _ zero_state ?_
      intro W426 hz hlt hk
      obtain ⟨YB, hYB⟩ : ∃ b, b = W42.heap.size := ⟨_, rfl⟩
      rw [← hYB] at hz ⊢
      have HY := hz
      have HYR := Lib.hid (show R < YB by rw [hYB]; exact (Array.getElem?_eq_some_iff.1 HRB.out).1)
      have HYB := Lib.hid hYB
      have HYL := Lib.hid (show YB < W426.heap.size by omega)
      clear hz hYB hlt
      have HVM := Lib.hid (HVM.out.kept hk)
      have HVP := Lib.hid (HVP.out.kept hk)
      have HK := Lib.hid (HK.out.trans hk); have HRB := Lib.hid (hk.block HRB.out); have hsz426 := hk.size
      refine hK _ _ (fun _ => trivial) ?_; clear hK K hk
      refine wpAnyE_one (i := 7) (listed' := #[true, true, true, true, true, true, true, true]) (by rfl) (by kernel_rfl) (by kernel_rfl) (by rfl) (fun K hK => ?_)
      simp only [Act.put, List.getElem_toArray, List.getElem_cons_succ, List.getElem_cons_zero, List.setIfInBounds_toArray, List.set_cons_zero, List.set_cons_succ]
      have hone : ∀ v ∈ stv (n : Int) (.slice om l.length cm) nilS (.slice (some ⟨PB, 0, none⟩) n n) nilS (plv zeroPlg), v.oneCell' = true := stC_one (s := newS n l) rfl rfl rfl rfl
      refine wp_store_agg _ _ rfl agT_state YB 0 rfl _ rfl rfl hone _ _ HY.out (by rw [HZL.out]; decide) ?_
      intro wz hwz
      replace hwz := hwz.all rfl
      refine hK _ _ (fun h => absurd rfl h) ?_; clear hK K hone
      refine wpAnyE_done (by kernel_rfl) ?_ _
      refine calm_normal ?_
      have hbz : But (fun k => k = YB) _ wz := But.wrote hwz rfl
      have HSTM : Hid (StM wz (newS n l) (.slice om l.length cm) nilS (.slice (some ⟨PB, 0, none⟩) n n) nilS []) := Lib.hid ⟨(HVM.out.but hbz (fun k hk => by have := HPB.out; have := HYB.out; have := HYL.out; omega)).rsl trip_len, RSl.nil, ⟨rfl, fun k h => by cases h⟩, (HVP.out.but hbz (fun k hk => by have := HPB.out; have := HYB.out; have := HYL.out; omega)).rsl trip_len, RSl.nil, zeroPlg_ok, hlen, by simp [newS], by simp [newS]; omega, by simp [newS]⟩
      have HCL : Hid (∀ W', But (fun k => k = R) wz W' → StM W' (newS n l) (.slice om l.length cm) nilS (.slice (some ⟨PB, 0, none⟩) n n) nilS []) := Lib.hid fun W' hb => ⟨((HVM.out.but hbz (fun k hk => by have := HPB.out; have := HYB.out; have := HYL.out; omega)).but hb (fun k hk => .inl (by have := HPB.out; omega))).rsl trip_len, RSl.nil, ⟨rfl, fun k h => by cases h⟩, ((HVP.out.but hbz (fun k hk => by have := HPB.out; have := HYB.out; have := HYL.out; omega)).but hb (fun k hk => .inl (by have := HPB.out; omega))).rsl trip_len, RSl.nil, zeroPlg_ok, hlen, by simp [newS], by simp [newS]; omega, by simp [newS]⟩
      have HYZ : Hid (Cells wz YB 0 (stC (newS n l) (.slice om l.length cm) nilS (.slice (some ⟨PB, 0, none⟩) n n) nilS)) := Lib.hid hwz.cells
      have HRZ := Lib.hid (hbz.blk (k := R) (by show ¬ R = YB; have := HYR.out; omega) HRB.out)
      have HKZ := Lib.hid (But.to_kept HK.out hbz (fun i hi => by have := HK.out.size; have := HYR.out; have := HRw.out; omega))
      clear hwz hbz hS HY HRB HVM HVP HK
      go_wp2_with (refine stop_at (o := ⟨some 17, _, _, _, _, _⟩) ?_)
      refine Stop.mk ?_
      refine wpList_load_agg rfl _ rfl agT_state YB 0 rfl _ HYZ.out rfl ?_
      have hrt := st_Right (newS n l) (.slice om l.length cm) nilS (.slice (some ⟨PB, 0, none⟩) n n) nilS [] wz HSTM.out
      rw [HRT.out] at hrt
      have HRTC := Lib.hid hrt; clear hrt
      go_wp2_with fail
      refine Calls.mono HRTC.out ?_
      rintro e wy ⟨rfl, hky⟩
      have HZY := Lib.hid hky
      have HYY := Lib.hid (HYZ.out.kept hky); have HRY := Lib.hid (hky.block HRZ.out); have HKY := Lib.hid (HKZ.out.trans hky); have HSY := Lib.hid (HSTM.out.kept hky)
      clear hky
      go_wp2_with (refine stop_at (o := ⟨some 21, _, _, _, _, _⟩) ?_)
      refine Stop.mk ?_
      refine wpList_load_agg rfl _ rfl agT_state YB 0 rfl _ HYY.out rfl ?_
      have hone : ∀ v ∈ stC (newS n l) (.slice om l.length cm) nilS (.slice (some ⟨PB, 0, none⟩) n n) nilS, v.oneCell' = true := stC_one (s := newS n l) rfl rfl rfl rfl
      refine wpList_store_agg rfl _ _ rfl agT_state R 0 rfl _ rfl rfl hone _ _ HRY.out (by rw [HZL.out]; decide) ?_
      intro wx hwx
      replace hwx := hwx.all rfl
      have HWX := Lib.hid hwx.blk
      have HKX := Lib.hid (But.to_kept HKY.out (But.wrote (S := fun k => k = R) hwx rfl) (fun i hi => by have := HRw.out; omega))
      have HSX : Hid (StM wx (newS n l) (.slice om l.length cm) nilS (.slice (some ⟨PB, 0, none⟩) n n) nilS []) := Lib.hid (HCL.out wx ((But.kept HZY.out).trans (But.wrote hwx rfl)))
      clear hwx hone
      go_wp2
      try simp only [Exit.inBlock, Exit.then]
      refine bodyPost_ret (results_state2 rfl _ _ R _ rfl (Cells.of_block HWX.out) rfl) rfl ?_
      exact ⟨_, _, _, _, _, rfl, HSX.out, HKX.out⟩
    · simp only [Act.put, List.getElem_toArray, List.getElem_cons_succ, List.getElem_cons_zero, List.setIfInBounds_toArray, List.set_cons_zero, List.set_cons_succ]
      refine wp_alloc_abs _ rfl _ zero_state ?_
      intro W46 hz hlt hk
      obtain ⟨YB, hYB⟩ : ∃ b, b = W4.heap.size := ⟨_, rfl⟩
      rw [← hYB] at hz ⊢
      have HY := hz
      have HYR := Lib.hid (show R < YB by rw [hYB]; exact (Array.getElem?_eq_some_iff.1 HRB.out).1)
      have HYB := Lib.hid hYB
      have HYL := Lib.hid (show YB < W46.heap.size by omega)
      clear hz hYB hlt
      have HVP := Lib.hid (HVP.out.kept hk)
      have HK := Lib.hid (HK.out.trans hk); have HRB := Lib.hid (hk.block HRB.out); have hsz46 := hk.size
      refine hK _ _ (fun _ => trivial) ?_; clear hK K hk
      refine wpAnyE_one (i := 2) (listed' := #[true, true, true, true, true, false, true, false]) (by rfl) (by kernel_rfl) (by kernel_rfl) (by rfl) (fun K hK => ?_)
      simp only [Act.put, List.getElem_toArray, List.getElem_cons_succ, List.getElem_cons_zero, List.setIfInBounds_toArray, List.set_cons_zero, List.set_cons_succ]
      go_wp2_with fail
      refine Calls.mono (cln_m l (.slice ol l.length cl) _ (by omega) (HM.out.kept HK.out)) ?_
      rintro e W462 ⟨vm, rfl, ha, ho, hr, hk⟩
      have hown := Own.of_clone ha ho
      obtain ⟨om, cm, rfl⟩ := hown.form
      have HVM := Lib.hid hown
      clear ha ho hown hr
      have HVP := Lib.hid (HVP.out.kept hk)
      have HY := Lib.hid (hk.block HY.out)
      have HK := Lib.hid (HK.out.trans hk); have HRB := Lib.hid (hk.block HRB.out); have hsz462 := hk.size
      refine hK _ _ (fun _ => trivial) ?_; clear hK K hk
      refine wpAnyE_take (i := 5) (v := .agg (stv (n : Int) (.slice om l.length cm) nilS (.slice (some ⟨PB, 0, none⟩) n n) nilS (plv zeroPlg)).toArray) (listed' := #[true, true, true, true, true, true, true, false]) (by rfl) (by kernel_rfl) (by kernel_rfl) calm_put hS (by rfl) ?_ ?_
      · intro W hW; exact exec_build_new _ _ _ rfl (n : Int) _ _ _ _ _ _ rfl rfl rfl
      simp only [Act.put, List.getElem_toArray, List.getElem_cons_succ, List.getElem_cons_zero, List.setIfInBounds_toArray, List.set_cons_zero, List.set_cons_succ]
      refine wpAnyE_one (i := 7) (listed' := #[true, true, true, true, true, true, true, true]) (by rfl) (by kernel_rfl) (by kernel_rfl) (by rfl) (fun K hK => ?_)
      simp only [Act.put, List.getElem_toArray, List.getElem_cons_succ, List.getElem_cons_zero, List.setIfInBounds_toArray, List.set_cons_zero, List.set_cons_succ]
      have hone : ∀ v ∈ stv (n : Int) (.slice om l.length cm) nilS (.slice (some ⟨PB, 0, none⟩) n n) nilS (plv zeroPlg), v.oneCell' = true := stC_one (s := newS n l) rfl rfl rfl rfl
      refine wp_store_agg _ _ rfl agT_state YB 0 rfl _ rfl rfl hone _ _ HY.out (by rw [HZL.out]; decide) ?_
      intro wz hwz
      replace hwz := hwz.all rfl
      refine hK _ _ (fun h => absurd rfl h) ?_; clear hK K hone
      refine wpAnyE_done (by kernel_rfl) ?_ _
      refine calm_normal ?_
      have hbz : But (fun k => k = YB) _ wz := But.wrote hwz rfl
      have HSTM : Hid (StM wz (newS n l) (.slice om l.length cm) nilS (.slice (some ⟨PB, 0, none⟩) n n) nilS []) := Lib.hid ⟨(HVM.out.but hbz (fun k hk => by have := HPB.out; have := HYB.out; have := HYL.out; omega)).rsl trip_len, RSl.nil, ⟨rfl, fun k h => by cases h⟩, (HVP.out.but hbz (fun k hk => by have := HPB.out; have := HYB.out; have := HYL.out; omega)).rsl trip_len, RSl.nil, zeroPlg_ok, hlen, by simp [newS], by simp [newS]; omega, by simp [newS]⟩
      have HCL : Hid (∀ W', But (fun k => k = R) wz W' → StM W' (newS n l) (.slice om l.length cm) nilS (.slice (some ⟨PB, 0, none⟩) n n) nilS []) := Lib.hid fun W' hb => ⟨((HVM.out.but hbz (fun k hk => by have := HPB.out; have := HYB.out; have := HYL.out; omega)).but hb (fun k hk => .inl (by have := HPB.out; omega))).rsl trip_len, RSl.nil, ⟨rfl, fun k h => by cases h⟩, ((HVP.out.but hbz (fun k hk => by have := HPB.out; have := HYB.out; have := HYL.out; omega)).but hb (fun k hk => .inl (by have := HPB.out; omega))).rsl trip_len, RSl.nil, zeroPlg_ok, hlen, by simp [newS], by simp [newS]; omega, by simp [newS]⟩
      have HYZ : Hid (Cells wz YB 0 (stC (newS n l) (.slice om l.length cm) nilS (.slice (some ⟨PB, 0, none⟩) n n) nilS)) := Lib.hid hwz.cells
      have HRZ := Lib.hid (hbz.blk (k := R) (by show ¬ R = YB; have := HYR.out; omega) HRB.out)
      have HKZ := Lib.hid (But.to_kept HK.out hbz (fun i hi => by have := HK.out.size; have := HYR.out; have := HRw.out; omega))
      clear hwz hbz hS HY HRB HVM HVP HK
      go_wp2_with (refine stop_at (o := ⟨some 17, _, _, _, _, _⟩) ?_)
      refine Stop.mk ?_
      refine wpList_load_agg rfl _ rfl agT_state YB 0 rfl _ HYZ.out rfl ?_
      have hrt := st_Right (newS n l) (.slice om l.length cm) nilS (.slice (some ⟨PB, 0, none⟩) n n) nilS [] wz HSTM.out
      rw [HRT.out] at hrt
      have HRTC := Lib.hid hrt; clear hrt
      go_wp2_with fail
      refine Calls.mono HRTC.out ?_
      rintro e wy ⟨rfl, hky⟩
      have HZY := Lib.hid hky
      have HYY := Lib.hid (HYZ.out.kept hky); have HRY := Lib.hid (hky.block HRZ.out); have HKY := Lib.hid (HKZ.out.trans hky); have HSY := Lib.hid (HSTM.out.kept hky)
      clear hky
      go_wp2_with (refine stop_at (o := ⟨some 21, _, _, _, _, _⟩) ?_)
      refine Stop.mk ?_
      refine wpList_load_agg rfl _ rfl agT_state YB 0 rfl _ HYY.out rfl ?_
      have hone : ∀ v ∈ stC (newS n l) (.slice om l.length cm) nilS (.slice (some ⟨PB, 0, none⟩) n n) nilS, v.oneCell' = true := stC_one (s := newS n l) rfl rfl rfl rfl
      refine wpList_store_agg rfl _ _ rfl agT_state R 0 rfl _ rfl rfl hone _ _ HRY.out (by rw [HZL.out]; decide) ?_
      intro wx hwx
      replace hwx := hwx.all rfl
      have HWX := Lib.hid hwx.blk
      have HKX := Lib.hid (But.to_kept HKY.out (But.wrote (S := fun k => k = R) hwx rfl) (fun i hi => by have := HRw.out; omega))
      have HSX : Hid (StM wx (newS n l) (.slice om l.length cm) nilS (.slice (some ⟨PB, 0, none⟩) n n) nilS []) := Lib.hid (HCL.out wx ((But.kept HZY.out).trans (But.wrote hwx rfl)))
      clear hwx hone
      go_wp2
      try simp only [Exit.inBlock, Exit.then]
      refine bodyPost_ret (results_state2 rfl _ _ R _ rfl (Cells.of_block HWX.out) rfl) rfl ?_
      exact ⟨_, _, _, _, _, rfl, HSX.out, HKX.out⟩
  · simp only [Act.put, List.getElem_toArray, List.getElem_cons_succ, List.getElem_cons_zero, List.setIfInBounds_toArray, List.set_cons_zero, List.set_cons_succ]
    refine wp_alloc_abs _ rfl _ zero_state ?_
    intro W6 hz hlt hk
    obtain ⟨YB, hYB⟩ : ∃ b, b = wd.heap.size := ⟨_, rfl⟩
    rw [← hYB] at hz ⊢
    have HY := hz
    have HYR := Lib.hid (show R < YB by rw [hYB]; exact (Array.getElem?_eq_some_iff.1 HRB.out).1)
    have HYB := Lib.hid hYB
    have HYL := Lib.hid (show YB < W6.heap.size by omega)
    clear hz hYB hlt
    have HK := Lib.hid (HK.out.trans hk); have HRB := Lib.hid (hk.block HRB.out); have hsz6 := hk.size
    refine hK _ _ (fun _ => trivial) ?_; clear hK K hk
    refine wpAnyE_two (i := 2) (j := 4) (li := #[true, true, true, true, false, false, true, false]) (lj := #[true, true, false, true, true, false, true, false]) (by rfl) (by rfl) (by kernel_rfl) (by kernel_rfl) (by kernel_rfl) (by rfl) (by rfl) (fun K hK => ?_) (fun K hK => ?_)
    · simp only [Act.put, List.getElem_toArray, List.getElem_cons_succ, List.getElem_cons_zero, List.setIfInBounds_toArray, List.set_cons_zero, List.set_cons_succ]
      go_wp2_with fail
      refine Calls.mono (cln_m l (.slice ol l.length cl) _ (by omega) (HM.out.kept HK.out)) ?_
      rintro e W62 ⟨vm, rfl, ha, ho, hr, hk⟩
      have hown := Own.of_clone ha ho
      obtain ⟨om, cm, rfl⟩ := hown.form
      have HVM := Lib.hid hown
      clear ha ho hown hr
      have HY := Lib.hid (hk.block HY.out)
      have HK := Lib.hid (HK.out.trans hk); have HRB := Lib.hid (hk.block HRB.out); have hsz62 := hk.size
      refine hK _ _ (fun _ => trivial) ?_; clear hK K hk
      refine wpAnyE_one (i := 4) (listed' := #[true, true, true, true, true, false, true, false]) (by rfl) (by kernel_rfl) (by kernel_rfl) (by rfl) (fun K hK => ?_)
      simp only [Act.put, List.getElem_toArray, List.getElem_cons_succ, List.getElem_cons_zero, List.setIfInBounds_toArray, List.set_cons_zero, List.set_cons_succ]
      refine wp_make_whr _ _ rfl n h1 h96 rfl rfl ?_
      intro W624 hr hk
      obtain ⟨PB, hPB⟩ : ∃ b, b = W62.heap.size := ⟨_, rfl⟩
      have HVP : Hid (Own 41 trip 3 W624 PB W624.heap.size (.slice (some ⟨PB, 0, none⟩) n n) (List.replicate n (0, 0, 0))) := Lib.hid (by rw [hPB]; exact hr)
      rw [← hPB]
      have HPB := Lib.hid hPB
      clear hr hPB
      have HVM := Lib.hid (HVM.out.kept hk)
      have HY := Lib.hid (hk.block HY.out)
      have HK := Lib.hid (HK.out.trans hk); have HRB := Lib.hid (hk.block HRB.out); have hsz624 := hk.size
      refine hK _ _ (fun _ => trivial) ?_; clear hK K hk
      refine wpAnyE_take (i := 5) (v := .agg (stv (n : Int) (.slice om l.length cm) nilS (.slice (some ⟨PB, 0, none⟩) n n) nilS (plv zeroPlg)).toArray) (listed' := #[true, true, true, true, true, true, true, false]) (by rfl) (by kernel_rfl) (by kernel_rfl) calm_put hS (by rfl) ?_ ?_
      · intro W hW; exact exec_build_new _ _ _ rfl (n : Int) _ _ _ _ _ _ rfl rfl rfl
      simp only [Act.put, List.getElem_toArray, List.getElem_cons_succ, List.getElem_cons_zero, List.setIfInBounds_toArray, List.set_cons_zero, List.set_cons_succ]
      refine wpAnyE_one (i := 7) (listed' := #[true, true, true, true, true, true, true, true]) (by rfl) (by kernel_rfl) (by kernel_rfl) (by rfl) (fun K hK => ?_)
      simp only [Act.put, List.getElem_toArray, List.getElem_cons_succ, List.getElem_cons_zero, List.setIfInBounds_toArray, List.set_cons_zero, List.set_cons_succ]
      have hone : ∀ v ∈ stv (n : Int) (.slice om l.length cm) nilS (.slice (some ⟨PB, 0, none⟩) n n) nilS (plv zeroPlg), v.oneCell' = true := stC_one (s := newS n l) rfl rfl rfl rfl
      refine wp_store_agg _ _ rfl agT_state YB 0 rfl _ rfl rfl hone _ _ HY.out (by rw [HZL.out]; decide) ?_
      intro wz hwz
      replace hwz := hwz.all rfl
      refine hK _ _ (fun h => absurd rfl h) ?_; clear hK K hone
      refine wpAnyE_done (by kernel_rfl) ?_ _
      refine calm_normal ?_
      have hbz : But (fun k => k = YB) _ wz := But.wrote hwz rfl
      have HSTM : Hid (StM wz (newS n l) (.slice om l.length cm) nilS (.slice (some ⟨PB, 0, none⟩) n n) nilS []) := Lib.hid ⟨(HVM.out.but hbz (fun k hk => by have := HPB.out; have := HYB.out; have := HYL.out; omega)).rsl trip_len, RSl.nil, ⟨rfl, fun k h => by cases h⟩, (HVP.out.but hbz (fun k hk => by have := HPB.out; have := HYB.out; have := HYL.out; omega)).rsl trip_len, RSl.nil, zeroPlg_ok, hlen, by simp [newS], by simp [newS]; omega, by simp [newS]⟩
      have HCL : Hid (∀ W', But (fun k => k = R) wz W' → StM W' (newS n l) (.slice om l.length cm) nilS (.slice (some ⟨PB, 0, none⟩) n n) nilS []) := Lib.hid fun W' hb => ⟨((HVM.out.but hbz (fun k hk => by have := HPB.out; have := HYB.out; have := HYL.out; omega)).but hb (fun k hk => .inl (by have := HPB.out; omega))).rsl trip_len, RSl.nil, ⟨rfl, fun k h => by cases h⟩, ((HVP.out.but hbz (fun k hk => by have := HPB.out; have := HYB.out; have := HYL.out; omega)).but hb (fun k hk => .inl (by have := HPB.out; omega))).rsl trip_len, RSl.nil, zeroPlg_ok, hlen, by simp [newS], by simp [newS]; omega, by simp [newS]⟩
      have HYZ : Hid (Cells wz YB 0 (stC (newS n l) (.slice om l.length cm) nilS (.slice (some ⟨PB, 0, none⟩) n n) nilS)) := Lib.hid hwz.cells
      have HRZ := Lib.hid (hbz.blk (k := R) (by show ¬ R = YB; have := HYR.out; omega) HRB.out)
      have HKZ := Lib.hid (But.to_kept HK.out hbz (fun i hi => by have := HK.out.size; have := HYR.out; have := HRw.out; omega))
      clear hwz hbz hS HY HRB HVM HVP HK
      go_wp2_with (refine stop_at (o := ⟨some 17, _, _, _, _, _⟩) ?_)
      refine Stop.mk ?_
      refine wpList_load_agg rfl _ rfl agT_state YB 0 rfl _ HYZ.out rfl ?_
      have hrt := st_Right (newS n l) (.slice om l.length cm) nilS (.slice (some ⟨PB, 0, none⟩) n n) nilS [] wz HSTM.out
      rw [HRT.out] at hrt
      have HRTC := Lib.hid hrt; clear hrt
      go_wp2_with fail
      refine Calls.mono HRTC.out ?_
      rintro e wy ⟨rfl, hky⟩
      have HZY := Lib.hid hky
      have HYY := Lib.hid (HYZ.out.kept hky); have HRY := Lib.hid (hky.block HRZ.out); have HKY := Lib.hid (HKZ.out.trans hky); have HSY := Lib.hid (HSTM.out.kept hky)
      clear hky
      go_wp2_with (refine stop_at (o := ⟨some 21, _, _, _, _, _⟩) ?_)
      refine Stop.mk ?_
      refine wpList_load_agg rfl _ rfl agT_state YB 0 rfl _ HYY.out rfl ?_
      have hone : ∀ v ∈ stC (newS n l) (.slice om l.length cm) nilS (.slice (some ⟨PB, 0, none⟩) n n) nilS, v.oneCell' = true := stC_one (s := newS n l) rfl rfl rfl rfl
      refine wpList_store_agg rfl _ _ rfl agT_state R 0 rfl _ rfl rfl hone _ _ HRY.out (by rw [HZL.out]; decide) ?_
      intro wx hwx
      replace hwx := hwx.all rfl
      have HWX := Lib.hid hwx.blk
      have HKX := Lib.hid (But.to_kept HKY.out (But.wrote (S := fun k => k = R) hwx rfl) (fun i hi => by have := HRw.out; omega))
      have HSX : Hid (StM wx (newS n l) (.slice om l.length cm) nilS (.slice (some ⟨PB, 0, none⟩) n n) nilS []) := Lib.hid (HCL.out wx ((But.kept HZY.out).trans (But.wrote hwx rfl)))
      clear hwx hone
      go_wp2
      try simp only [Exit.inBlock, Exit.then]
      refine bodyPost_ret (results_state2 rfl _ _ R _ rfl (Cells.of_block HWX.out) rfl) rfl ?_
      exact ⟨_, _, _, _, _, rfl, HSX.out, HKX.out⟩
    · simp only [Act.put, List.getElem_toArray, List.getElem_cons_succ, List.getElem_cons_zero, List.setIfInBounds_toArray, List.set_cons_zero, List.set_cons_succ]
      refine wp_make_whr _ _ rfl n h1 h96 rfl rfl ?_
      intro W64 hr hk
      obtain ⟨PB, hPB⟩ : ∃ b, b = W6.heap.size := ⟨_, rfl⟩
      have HVP : Hid (Own 41 trip 3 W64 PB W64.heap.size (.slice (some ⟨PB, 0, none⟩) n n) (List.replicate n (0, 0, 0))) := Lib.hid (by rw [hPB]; exact hr)
      rw [← hPB]
      have HPB := Lib.hid hPB
      clear hr hPB
      have HY := Lib.hid (hk.block HY.out)
      have HK := Lib.hid (HK.out.trans hk); have HRB := Lib.hid (hk.block HRB.out); have hsz64 := hk.size
      refine hK _ _ (fun _ => trivial) ?_; clear hK K hk
      refine wpAnyE_one (i := 2) (listed' := #[true, true, true, true, true, false, true, false]) (by rfl) (by kernel_rfl) (by kernel_rfl) (by rfl) (fun K hK => ?_)
      simp only [Act.put, List.getElem_toArray, List.getElem_cons_succ, List.getElem_cons_zero, List.setIfInBounds_toArray, List.set_cons_zero, List.set_cons_succ]
      go_wp2_with fail
      refine Calls.mono (cln_m l (.slice ol l.length cl) _ (by omega) (HM.out.kept HK.out)) ?_
      rintro e W642 ⟨vm, rfl, ha, ho, hr, hk⟩
      have hown := Own.of_clone ha ho
      obtain ⟨om, cm, rfl⟩ := hown.form
      have HVM := Lib.hid hown
      clear ha ho hown hr
      have HVP := Lib.hid (HVP.out.kept hk)
      have HY := Lib.hid (hk.block HY.out)
      have HK := Lib.hid (HK.out.trans hk); have HRB := Lib.hid (hk.block HRB.out); have hsz642 := hk.size
      refine hK _ _ (fun _ => trivial) ?_; clear hK K hk
      refine wpAnyE_take (i := 5) (v := .agg (stv (n : Int) (.slice om l.length cm) nilS (.slice (some ⟨PB, 0, none⟩) n n) nilS (plv zeroPlg)).toArray) (listed' := #[true, true, true, true, true, true, true, false]) (by rfl) (by kernel_rfl) (by kernel_rfl) calm_put hS (by rfl) ?_ ?_
      · intro W hW; exact exec_build_new _ _ _ rfl (n : Int) _ _ _ _ _ _ rfl rfl rfl
      simp only [Act.put, List.getElem_toArray, List.getElem_cons_succ, List.getElem_cons_zero, List.setIfInBounds_toArray, List.set_cons_zero, List.set_cons_succ]
      refine wpAnyE_one (i := 7) (listed' := #[true, true, true, true, true, true, true, true]) (by rfl) (by kernel_rfl) (by kernel_rfl) (by rfl) (fun K hK => ?_)
      simp only [Act.put, List.getElem_toArray, List.getElem_cons_succ, List.getElem_cons_zero, List.setIfInBounds_toArray, List.set_cons_zero, List.set_cons_succ]
      have hone : ∀ v ∈ stv (n : Int) (.slice om l.length cm) nilS (.slice (some ⟨PB, 0, none⟩) n n) nilS (plv zeroPlg), v.oneCell' = true := stC_one (s := newS n l) rfl rfl rfl rfl
      refine wp_store_agg _ _ rfl agT_state YB 0 rfl _ rfl rfl hone _ _ HY.out (by rw [HZL.out]; decide) ?_
      intro wz hwz
      replace hwz := hwz.all rfl
      refine hK _ _ (fun h => absurd rfl h) ?_; clear hK K hone
      refine wpAnyE_done (by kernel_rfl) ?_ _
      refine calm_normal ?_
      have hbz : But (fun k => k = YB) _ wz := But.wrote hwz rfl
      have HSTM : Hid (StM wz (newS n l) (.slice om l.length cm) nilS (.slice (some ⟨PB, 0, none⟩) n n) nilS []) := Lib.hid ⟨(HVM.out.but hbz (fun k hk => by have := HPB.out; have := HYB.out; have := HYL.out; omega)).rsl trip_len, RSl.nil, ⟨rfl, fun k h => by cases h⟩, (HVP.out.but hbz (fun k hk => by have := HPB.out; have := HYB.out; have := HYL.out; omega)).rsl trip_len, RSl.nil, zeroPlg_ok, hlen, by simp [newS], by simp [newS]; omega, by simp [newS]⟩
      have HCL : Hid (∀ W', But (fun k => k = R) wz W' → StM W' (newS n l) (.slice om l.length cm) nilS (.slice (some ⟨PB, 0, none⟩) n n) nilS []) := Lib.hid fun W' hb => ⟨((HVM.out.but hbz (fun k hk => by have := HPB.out; have := HYB.out; have := HYL.out; omega)).but hb (fun k hk => .inl (by have := HPB.out; omega))).rsl trip_len, RSl.nil, ⟨rfl, fun k h => by cases h⟩, ((HVP.out.but hbz (fun k hk => by have := HPB.out; have := HYB.out; have := HYL.out; omega)).but hb (fun k hk => .inl (by have := HPB.out; omega))).rsl trip_len, RSl.nil, zeroPlg_ok, hlen, by simp [newS], by simp [newS]; omega, by simp [newS]⟩
      have HYZ : Hid (Cells wz YB 0 (stC (newS n l) (.slice om l.length cm) nilS (.slice (some ⟨PB, 0, none⟩) n n) nilS)) := Lib.hid hwz.cells
      have HRZ := Lib.hid (hbz.blk (k := R) (by show ¬ R = YB; have := HYR.out; omega) HRB.out)
      have HKZ := Lib.hid (But.to_kept HK.out hbz (fun i hi => by have := HK.out.size; have := HYR.out; have := HRw.out; omega))
      clear hwz hbz hS HY HRB HVM HVP HK
      go_wp2_with (refine stop_at (o := ⟨some 17, _, _, _, _, _⟩) ?_)
      refine Stop.mk ?_
      refine wpList_load_agg rfl _ rfl agT_state YB 0 rfl _ HYZ.out rfl ?_
      have hrt := st_Right (newS n l) (.slice om l.length cm) nilS (.slice (some ⟨PB, 0, none⟩) n n) nilS [] wz HSTM.out
      rw [HRT.out] at hrt
      have HRTC := Lib.hid hrt; clear hrt
      go_wp2_with fail
      refine Calls.mono HRTC.out ?_
      rintro e wy ⟨rfl, hky⟩
      have HZY := Lib.hid hky
      have HYY := Lib.hid (HYZ.out.kept hky); have HRY := Lib.hid (hky.block HRZ.out); have HKY := Lib.hid (HKZ.out.trans hky); have HSY := Lib.hid (HSTM.out.kept hky)
      clear hky
      go_wp2_with (refine stop_at (o := ⟨some 21, _, _, _, _, _⟩) ?_)
      refine Stop.mk ?_
      refine wpList_load_agg rfl _ rfl agT_state YB 0 rfl _ HYY.out rfl ?_
      have hone : ∀ v ∈ stC (newS n l) (.slice om l.length cm) nilS (.slice (some ⟨PB, 0, none⟩) n n) nilS, v.oneCell' = true := stC_one (s := newS n l) rfl rfl rfl rfl
      refine wpList_store_agg rfl _ _ rfl agT_state R 0 rfl _ rfl rfl hone _ _ HRY.out (by rw [HZL.out]; decide) ?_
      intro wx hwx
      replace hwx := hwx.all rfl
      have HWX := Lib.hid hwx.blk
      have HKX := Lib.hid (But.to_kept HKY.out (But.wrote (S := fun k => k = R) hwx rfl) (fun i hi => by have := HRw.out; omega))
      have HSX : Hid (StM wx (newS n l) (.slice om l.length cm) nilS (.slice (some ⟨PB, 0, none⟩) n n) nilS []) := Lib.hid (HCL.out wx ((But.kept HZY.out).trans (But.wrote hwx rfl)))
      clear hwx hone
      go_wp2
      try simp only [Exit.inBlock, Exit.then]
      refine bodyPost_ret (results_state2 rfl _ _ R _ rfl (Cells.of_block HWX.out) rfl) rfl ?_
      exact ⟨_, _, _, _, _, rfl, HSX.out, HKX.out⟩
end Go.Proofs.YtiijfocdjcjlaaaGreat
