/- StateGroups: the walk (gen_gpb.py, XGpb.head). -/
import Derived.Test.YtiijfocdjcjlaaaGreatGpa
namespace Go.Proofs.YtiijfocdjcjlaaaGreat
open Go.RowKit Go.ChangeMaps Go.MapKept
set_option linter.unusedVariables false
set_option linter.unusedSimpArgs false
set_option maxRecDepth 100000
set_option maxHeartbeats 1000000
section
variable {ops : Array Oper} {rest : List Oper} {o : Oper} {a : Act} {w : World} {Q : Exit → Act → World → Prop}
theorem built_grp (w : World) (i k : Int) (oe : Option Addr) (n c : Nat) : (Instr.build 47 #[(2, .agg #[.int .i64 i, .int .i64 k, .slice oe n c])]).run Tryz.prog w = .ok (.agg (rcG i k nilS (.slice oe n c) nilS nilS).toArray) w := run_build w 47 _ (rcG i k nilS (.slice oe n c) nilS nilS).toArray (by kernel_rfl)
theorem wpList_rec_grp (hgd : Region.wanted o (yielded ops a.tmps) = true) (y : Operand) (ho : o.op = .build 47 #[(2, y)]) (id k : Int) (oe : Option Addr) (n c : Nat) (hy : a.eval y = .agg #[.int .i64 id, .int .i64 k, .slice oe n c]) (h : wpList Tryz.prog ops Q rest (a.put o.dst (.agg (rcG id k nilS (.slice oe n c) nilS nilS).toArray)) w) : wpList Tryz.prog ops Q (o :: rest) a w := by
  refine BigFrame.wpList_want hgd fun K hK => ?_
  unfold Oper.wp execOp
  simp only [ho, List.map_toArray, List.map_cons, List.map_nil, hy, Sem.run_bind, built_grp, Result.andThen_ok, Sem.run_pure]
  exact hK _ _ h
theorem field_grp (w : World) (i k : Int) (vc vi vm : Value) (oe : Option Addr) (n c : Nat) : (Instr.field 47 (.agg (rcG i k vc (.slice oe n c) vi vm).toArray) 2).run Tryz.prog w = .ok (.agg #[.int .i64 i, .int .i64 k, .slice oe n c]) w := by kernel_rfl
theorem wpList_field_grp (hgd : Region.wanted o (yielded ops a.tmps) = true) (x : Operand) (ho : o.op = .field 47 x 2) (i k : Int) (vc vi vm : Value) (oe : Option Addr) (n c : Nat) (hx : a.eval x = .agg (rcG i k vc (.slice oe n c) vi vm).toArray) (h : wpList Tryz.prog ops Q rest (a.put o.dst (.agg #[.int .i64 i, .int .i64 k, .slice oe n c])) w) : wpList Tryz.prog ops Q (o :: rest) a w := by
  refine BigFrame.wpList_want hgd fun K hK => ?_
  unfold Oper.wp execOp
  simp only [ho, hx, Sem.run_bind, field_grp, Result.andThen_ok, Sem.run_pure]
  exact hK _ _ h
end
theorem law_groups (s : St) (sm sg sp sd : Value) (raw : List Gw) (x : Gw) (g : Grp) (w : World) (h : StI w s sm sg sp sd raw) (hg : GRelI w x g) :
    Calls Tryz.prog 5 #[.agg (stC s sm sg sp sd).toArray, .agg (grw x).toArray] w fun e w' => e = .returned (.bool true) ∧ Kept w w' := by
  obtain ⟨gi, gk, ve⟩ := x
  have hge : RIn pairV 2 w ve g.ext := hg.ext
  obtain ⟨og0, cg0, rfl, _⟩ := hge.rsl.form
  obtain ⟨ng0, hng0⟩ : ∃ n, n = g.ext.length := ⟨_, rfl⟩
  rw [← hng0] at hg hge ⊢
  have HH := Lib.hid h; have HG := Lib.hid hg
  have HL := Lib.hid (stC_len h.plug sm sg sp sd)
  clear h hg hge hng0
  go_enter Tryz.func5, Tryz.ntmps5
  go_wp2_with (refine stop_at (o := ⟨some 2, _, _, _, _, _⟩) ?_)
  refine Stop.mk ?_
  refine wpList_box_rowS rfl _ _ rfl (stC s sm sg sp sd) rfl ?_
  intro w1 hz1 hs1 hk1
  obtain ⟨X, hX⟩ : ∃ X, X = w.heap.size := ⟨_, rfl⟩
  rw [← hX] at hz1 hs1 ⊢
  refine wpList_box_rowS rfl _ _ rfl (grw (gi, gk, .slice og0 ng0 cg0)) rfl ?_
  intro wy hzy hsy hky
  obtain ⟨Y, hY⟩ : ∃ Y, Y = w1.heap.size := ⟨_, rfl⟩
  rw [← hY] at hzy hsy ⊢
  have HXY := Lib.hid (show X < Y by omega)
  have HXW := Lib.hid hX
  have HZy := Lib.hid (hky.block hz1.out)
  have HYy := hzy
  have HKy := Lib.hid (hk1.trans hky)
  have HSH := Lib.hid (law_shown wy)
  clear hz1 hs1 hk1 hX hzy hsy hky hY
  go_wp2_with fail
  refine Calls.mono HSH.out ?_
  rintro e w2 ⟨rfl, hk2⟩
  have HZ2 := Lib.hid (hk2.block HZy.out)
  have HY2 := Lib.hid (hk2.block HYy.out)
  have HK2 := Lib.hid (HKy.out.trans hk2)
  clear hk2 HZy HYy HKy HSH
  go_wp2_with (refine stop_at (o := ⟨some 14, _, _, _, _, _⟩) ?_)
  refine Stop.mk ?_
  refine wpList_load_agg rfl _ rfl agT_state X 0 rfl _ (Cells.of_block HZ2.out) HL.out ?_
  have HCU := Lib.hid (law_cut s sm sg sp sd raw w2 (HH.out.kept HK2.out))
  go_wp2_with fail
  refine Calls.mono HCU.out ?_
  rintro e w3 ⟨sm3, sg3, sp3, sd3, raw3, rfl, hst, hk3⟩
  have HSTA := Lib.hid hst
  have HST := Lib.hid (hst w3 (But.refl _ _))
  have HZ3 := Lib.hid (hk3.block HZ2.out)
  have HY3 := Lib.hid (hk3.block HY2.out)
  have HK3 := Lib.hid (HK2.out.trans hk3)
  have HX2 := Lib.hid (show Y < w2.heap.size from (Array.getElem?_eq_some_iff.1 HY2.out).1)
  have H23 := Lib.hid hk3.size
  clear hst hk3 HZ2 HK2 HCU HY2
  obtain ⟨t, ht⟩ : ∃ t, t = cutS s := ⟨_, rfl⟩
  rw [← ht] at HSTA HST ⊢
  clear ht
  have HL3 := Lib.hid (stC_len HST.out.plug sm3 sg3 sp3 sd3)
  have HO3 := Lib.hid (st_one HST.out)
  go_wp2_with (refine stop_at (o := ⟨none, .store _ _ _, _, _, _, _⟩) ?_)
  refine Stop.mk ?_
  refine wpList_store_agg rfl _ _ rfl agT_state X 0 rfl (stC t sm3 sg3 sp3 sd3) rfl HL3.out HO3.out _ _ HZ3.out (by rw [HL.out]; decide) ?_
  intro w4 hw4
  replace hw4 := hw4.all (by rw [HL3.out, HL.out])
  have hb4 : But (fun i => i = X) w3 w4 := But.wrote hw4 rfl
  have HZ4 := Lib.hid hw4.blk
  have HY4 := Lib.hid (hb4.blk (k := Y) (by show ¬ Y = X; have := HXY.out; omega) HY3.out)
  have HB4 := Lib.hid hb4
  have HK4 := Lib.hid (But.to_kept HK3.out hb4 (fun i hi => by have := HXW.out; omega))
  have HGI := Lib.hid (HG.out.kept HK4.out)
  clear hw4 hb4 HST HZ3 HK3 HY3
  have y0 : w4.cell? ⟨Y, 0, none⟩ = some (.int .i64 gi) := (Cells.of_block HY4.out) 0 (by simp [grw])
  have y1 : w4.cell? ⟨Y, 1, none⟩ = some (.int .i64 gk) := (Cells.of_block HY4.out) 1 (by simp [grw])
  have y2 : w4.cell? ⟨Y, 2, none⟩ = some (.slice og0 ng0 cg0) := (Cells.of_block HY4.out) 2 (by simp [grw])
  go_wp2_with (refine stop_at (o := ⟨some 17, _, _, _, _, _⟩) ?_)
  refine Stop.mk ?_
  refine wpList_rec_grp rfl _ rfl gi gk og0 ng0 cg0 rfl ?_
  have HRC := Lib.hid (law_rec (gi, gk, .slice og0 ng0 cg0) g w4 HGI.out)
  clear y0 y1 y2
  go_wp2_with fail
  refine Calls.mono HRC.out ?_
  rintro e w5 ⟨vc, ve', vi, vm, oe, ce, rfl, hve, hgr, hk5⟩
  subst hve
  obtain ⟨ne, hne⟩ : ∃ n, n = (List.take 14 g.ext).length := ⟨_, rfl⟩
  rw [← hne] at hgr ⊢
  obtain ⟨q, hq⟩ : ∃ q, q = cutG g := ⟨_, rfl⟩
  have hqi : q.id = g.id := by rw [hq]; rfl
  have hqk : q.kind = g.kind := by rw [hq]; rfl
  rw [← hq, ← hqi, ← hqk] at hgr
  rw [← hqi, ← hqk]
  clear hq hqi hqk hne
  go_wp2_with (refine stop_at (o := ⟨some 19, _, _, _, _, _⟩) ?_)
  refine Stop.mk ?_
  refine wpList_field_grp rfl _ rfl q.id q.kind vc vi vm oe ne ce rfl ?_
  have HY5 := Lib.hid (hk5.block HY4.out)
  refine wpList_store_agg rfl _ _ rfl agT_grp Y 0 rfl (grw (q.id, q.kind, .slice oe ne ce)) rfl rfl (grw_one rfl) _ _ HY5.out (by simp [grw]) ?_
  intro w6 hw6
  replace hw6 := hw6.all (by simp [grw])
  have hb6 : But (fun i => i = Y) w5 w6 := But.wrote hw6 rfl
  have hxy := HXY.out
  have hx2 := HX2.out
  have hsz4 : w2.heap.size ≤ w4.heap.size := Nat.le_trans H23.out HB4.out.size
  have HX6 := Lib.hid (hb6.blk (k := X) (by show ¬ X = Y; omega) (hk5.block HZ4.out))
  have HY6 := Lib.hid hw6.blk
  have HST6 := Lib.hid (HSTA.out w6 (((HB4.out.mono (fun i hi => by omega)).keep hk5).trans (hb6.mono (fun i hi => by omega))))
  have HGR6 := Lib.hid (hgr w6 (hb6.mono (fun i hi => by omega)))
  have HK6 := Lib.hid (But.to_kept (HK4.out.trans hk5) hb6 (fun i hi => by have := HXW.out; omega))
  clear hw6 hb6 hk5 hgr HY5 HZ4 HY4 HB4 HK4 HSTA HGI HRC hx2 hxy hsz4
  have y0 : w6.cell? ⟨Y, 0, none⟩ = some (.int .i64 q.id) := (Cells.of_block HY6.out) 0 (by simp [grw])
  have y1 : w6.cell? ⟨Y, 1, none⟩ = some (.int .i64 q.kind) := (Cells.of_block HY6.out) 1 (by simp [grw])
  have y2 : w6.cell? ⟨Y, 2, none⟩ = some (.slice oe ne ce) := (Cells.of_block HY6.out) 2 (by simp [grw])
  go_wp2_with (refine stop_at (o := ⟨some 21, _, _, _, _, _⟩) ?_)
  refine Stop.mk ?_
  refine wpList_load_agg rfl _ rfl agT_state X 0 rfl _ (Cells.of_block HX6.out) HL3.out ?_
  go_wp2_with (refine stop_at (o := ⟨some 23, _, _, _, _, _⟩) ?_)
  refine Stop.mk ?_
  refine wpList_rec_make rfl _ _ rfl q.id q.kind oe ne ce rfl rfl ?_
  obtain ⟨c, hc⟩ : ∃ c, c = applyE (grW q) t (if atG t q.id then 9 else 0) (makeAt t (posG t q.id) q) := ⟨_, rfl⟩
  have HC := Lib.hid hc
  have happ := st_Apply (rcMake (q.id, q.kind, .slice oe ne ce)) (rcv_len _ _ _ _ _ _ _ _ _ _ _) (grW q) (if atG t q.id then 9 else 0) t (makeAt t (posG t q.id) q) _ _ _ _ raw3 w6 HST6.out (fun W hk => record_make _ q W (HGR6.out.kept hk) HGR6.out.few) (fun h1 h2 => make_step HGR6.out h1 h2)
  rw [← hc] at happ
  have HAPP := Lib.hid happ
  clear happ hc y0 y1 y2
  go_wp2_with fail
  refine Calls.mono HAPP.out ?_
  rintro e w8 ⟨cells, rfl, hst8, hk8, hl8, ho8⟩
  have HX8 := Lib.hid (hk8.block HX6.out); have HY8 := Lib.hid (hk8.block HY6.out)
  have HK8 := Lib.hid (HK6.out.trans hk8)
  have HL8 := Lib.hid hl8; have HO8 := Lib.hid ho8; have HST8 := Lib.hid hst8
  have HSTs := Lib.hid (HST6.out.kept hk8); have HGR8 := Lib.hid (HGR6.out.kept hk8)
  clear hk8 hl8 ho8 hst8 HAPP HX6 HY6 HK6 HST6 HGR6
  by_cases hc0 : c = 0
  · subst hc0
    obtain ⟨sm8, sg8, sp8, sd8, raw8, rfl, hst⟩ := HST8.out rfl
    obtain ⟨p1, p2, p3, p4, p5⟩ := groups_ok HC.out.symm
    obtain ⟨og8, cg8, rfl, _⟩ := hst.gs.form
    have HP4 := Lib.hid p4; have HP5 := Lib.hid p5
    have hpos : posG t q.id ≤ t.gs.length := by have := pos_le (t.gs.map (·.id)) q.id; rw [List.length_map] at this; exact this
    have hlr : raw8.length = t.gs.length + 1 := by
      rw [hst.rel.len]
      show (t.gs.take (posG t q.id) ++ q :: t.gs.drop (posG t q.id)).length = _
      simp; omega
    have h3r := HSTs.out.rel.len
    have h38 : raw8.length = raw3.length + 1 := by omega
    obtain ⟨pos, hpp⟩ : ∃ pos, pos = posG t q.id := ⟨_, rfl⟩
    have hpr : pos < raw8.length := by omega
    have HAT : Hid (∀ (h : pos < (makeAt t (posG t q.id) q).gs.length), (makeAt t (posG t q.id) q).gs[pos]'h = q) := Lib.hid (by rw [hpp]; exact fun h => makeAt_at t q _ hpos h)
    obtain ⟨t1, ht1⟩ : ∃ t1, t1 = makeAt t (posG t q.id) q := ⟨_, rfl⟩
    rw [← ht1] at hst HL8 HO8 HP4 HP5 HAT ⊢
    have HSTt := Lib.hid hst
    have h96 : raw8.length ≤ 4096 := by rw [hst.rel.len]; exact hst.lgs
    have H38 := Lib.hid h38
    clear hst p1 p2 p3 p4 p5 hpos hlr h3r h38 hpp ht1 HST8 HC
    go_wp2_with (refine stop_at (o := ⟨some 6, .alloc _, _, _, _, _⟩) ?_)
    refine Stop.mk ?_
    refine wpList_new_state rfl rfl _ _ rfl rfl _ rfl HL8.out HO8.out rfl ?_
    intro w9 hz9 hk9
    obtain ⟨Z, hZ⟩ : ∃ Z, Z = w8.heap.size := ⟨_, rfl⟩
    rw [← hZ] at hz9 ⊢
    have HZ9 := hz9
    have HX9 := Lib.hid (hk9.block HX8.out); have HY9 := Lib.hid (hk9.block HY8.out)
    have HK9 := Lib.hid (HK8.out.trans hk9)
    have HSTs9 := Lib.hid (HSTs.out.kept hk9); have HSTt9 := Lib.hid (HSTt.out.kept hk9); have HGR9 := Lib.hid (HGR8.out.kept hk9)
    clear hz9 hk9 hZ HX8 HY8 HK8 HSTs HSTt HGR8
    obtain ⟨og3, cg3, rfl, _⟩ := HSTs9.out.gs.form
    go_wp2
    go_loopw [8, 9] (fun bv iv wr => ∃ (b : Bool) (i : Nat), i ≤ raw8.length ∧ bv = .bool b ∧ iv = .int .i64 (i : Int) ∧ Hid (pos < i → b = true) ∧ Hid (Kept w9 wr)) (fun _ iv _ => raw8.length - (intOf iv).toNat)
    case atStart => exact ⟨false, 0, Nat.zero_le _, rfl, rfl, Lib.hid (fun h => by omega), Lib.hid (Kept.refl _)⟩
    case round =>
      obtain ⟨b, i, hi, rfl, rfl, HPI, HK⟩ := hrel
      have z2 := HK.out.cell' (stv_cells (Cells.of_block HZ9.out)).2.2.1
      by_cases hlt : i < raw8.length
      · obtain ⟨bg, offg, rfl, _, ha⟩ := (HSTt9.out.gs.kept HK.out).at hlt
        have hg1 : i < t1.gs.length := by rw [← HSTt9.out.rel.len]; exact hlt
        obtain ⟨x1, hx1⟩ : ∃ x, x = raw8[i]'hlt := ⟨_, rfl⟩
        have hr1 := HSTt9.out.rel.at_ i hlt hg1
        rw [← hx1] at ha hr1
        obtain ⟨gx, hgx⟩ : ∃ g, g = t1.gs[i]'hg1 := ⟨_, rfl⟩
        rw [← hgx] at hr1
        have p0 := ha 0 (by simp [grw])
        have p1 := ha 1 (by simp [grw])
        have p2 := ha 2 (by simp [grw])
        simp only [grw, List.getElem_cons_zero, List.getElem_cons_succ, Nat.add_zero] at p0 p1 p2
        have g0 := HK.out.cell' ((Cells.of_block HY9.out) 0 (by simp [grw]))
        have g1 := HK.out.cell' ((Cells.of_block HY9.out) 1 (by simp [grw]))
        have g2 := HK.out.cell' ((Cells.of_block HY9.out) 2 (by simp [grw]))
        simp only [grw, List.getElem_cons_zero, List.getElem_cons_succ, Nat.add_zero, Nat.zero_add] at g0 g1 g2
        have HSG := Lib.hid (fun (W : World) (hk : Kept w9 W) => same_group x1 (q.id, q.kind, .slice oe ne ce) gx q W (hr1.kept hk) (HGR9.out.kept hk))
        have HKD := Lib.hid (show Kept w9 wr.drew from HK.out.drew)
        have HEQ := Lib.hid (show pos = i → gx = q by intro e; subst e; rw [hgx]; exact HAT.out hg1)
        clear ha hr1 hx1 hgx
        have hS : (fun (W : World) => W.cell? ⟨Z, 2, none⟩ = some (.slice (some ⟨bg, offg, none⟩) raw8.length cg8) ∧ W.cell? ⟨bg, offg + i * 3, none⟩ = some (.int .i64 x1.1) ∧ W.cell? ⟨bg, offg + i * 3 + 1, none⟩ = some (.int .i64 x1.2.1) ∧ W.cell? ⟨bg, offg + i * 3 + 2, none⟩ = some x1.2.2 ∧ W.cell? ⟨Y, 0, none⟩ = some (.int .i64 q.id) ∧ W.cell? ⟨Y, 1, none⟩ = some (.int .i64 q.kind) ∧ W.cell? ⟨Y, 2, none⟩ = some (.slice oe ne ce)) wr.drew := ⟨z2, p0, p1, p2, g0, g1, g2⟩
        go_upto_region 11 with fail
        clear z2 p0 p1 p2 g0 g1 g2
        refine wp_region_calm ?_
        refine wp_region_E (fun (W : World) => W.cell? ⟨Z, 2, none⟩ = some (.slice (some ⟨bg, offg, none⟩) raw8.length cg8) ∧ W.cell? ⟨bg, offg + i * 3, none⟩ = some (.int .i64 x1.1) ∧ W.cell? ⟨bg, offg + i * 3 + 1, none⟩ = some (.int .i64 x1.2.1) ∧ W.cell? ⟨bg, offg + i * 3 + 2, none⟩ = some x1.2.2 ∧ W.cell? ⟨Y, 0, none⟩ = some (.int .i64 q.id) ∧ W.cell? ⟨Y, 1, none⟩ = some (.int .i64 q.kind) ∧ W.cell? ⟨Y, 2, none⟩ = some (.slice oe ne ce)) 100 (by kernel_rfl) ?_
        refine wpAnyE_take (i := 0) (v := .pointer (some ⟨Z, 2, none⟩)) (listed' := #[true, false, false, false, false, false, false, false]) (by rfl) (by kernel_rfl) (by kernel_rfl) calm_put hS (by rfl) ?_ ?_
        · intro W hW; clear hW; go_simp; try (with_reducible rfl)
        simp only [Act.put, List.getElem_toArray, List.getElem_cons_succ, List.getElem_cons_zero, List.setIfInBounds_toArray, List.set_cons_zero, List.set_cons_succ]
        refine wpAnyE_take (i := 1) (v := .slice (some ⟨bg, offg, none⟩) raw8.length cg8) (listed' := #[true, true, false, false, false, false, false, false]) (by rfl) (by kernel_rfl) (by kernel_rfl) calm_put hS (by rfl) ?_ ?_
        · intro W hW; obtain ⟨z2, p0, p1, p2, g0, g1, g2⟩ := hW; go_simp; try (with_reducible rfl)
        simp only [Act.put, List.getElem_toArray, List.getElem_cons_succ, List.getElem_cons_zero, List.setIfInBounds_toArray, List.set_cons_zero, List.set_cons_succ]
        refine wpAnyE_take (i := 2) (v := .int .i64 (i : Int)) (listed' := #[true, true, true, false, false, false, false, false]) (by rfl) (by kernel_rfl) (by kernel_rfl) calm_put hS (by rfl) ?_ ?_
        · intro W hW; clear hW; go_simp; try (with_reducible rfl)
        simp only [Act.put, List.getElem_toArray, List.getElem_cons_succ, List.getElem_cons_zero, List.setIfInBounds_toArray, List.set_cons_zero, List.set_cons_succ]
        refine wpAnyE_take (i := 3) (v := .pointer (some ⟨bg, offg + i * 3, none⟩)) (listed' := #[true, true, true, true, false, false, false, false]) (by rfl) (by kernel_rfl) (by kernel_rfl) calm_put hS (by rfl) ?_ ?_
        · intro W hW; clear hW; go_simp; try (with_reducible rfl)
        simp only [Act.put, List.getElem_toArray, List.getElem_cons_succ, List.getElem_cons_zero, List.setIfInBounds_toArray, List.set_cons_zero, List.set_cons_succ]
        refine wpAnyE_take (i := 4) (v := .agg #[.int .i64 x1.1, .int .i64 x1.2.1, x1.2.2]) (listed' := #[true, true, true, true, true, false, false, false]) (by rfl) (by kernel_rfl) (by kernel_rfl) calm_put hS (by rfl) ?_ ?_
        · intro W hW; obtain ⟨z2, p0, p1, p2, g0, g1, g2⟩ := hW; go_simp; try (with_reducible rfl)
        simp only [Act.put, List.getElem_toArray, List.getElem_cons_succ, List.getElem_cons_zero, List.setIfInBounds_toArray, List.set_cons_zero, List.set_cons_succ]
        refine wpAnyE_take (i := 5) (v := .agg #[.int .i64 q.id, .int .i64 q.kind, .slice oe ne ce]) (listed' := #[true, true, true, true, true, true, false, false]) (by rfl) (by kernel_rfl) (by kernel_rfl) calm_put hS (by rfl) ?_ ?_
        · intro W hW; obtain ⟨z2, p0, p1, p2, g0, g1, g2⟩ := hW; go_simp; try (with_reducible rfl)
        simp only [Act.put, List.getElem_toArray, List.getElem_cons_succ, List.getElem_cons_zero, List.setIfInBounds_toArray, List.set_cons_zero, List.set_cons_succ]
        refine wpAnyE_one (i := 6) (listed' := #[true, true, true, true, true, true, true, false]) (by rfl) (by kernel_rfl) (by kernel_rfl) (by rfl) (fun K hK => ?_)
        simp only [Act.put, List.getElem_toArray, List.getElem_cons_succ, List.getElem_cons_zero, List.setIfInBounds_toArray, List.set_cons_zero, List.set_cons_succ]
        go_wp2_with fail
        refine Calls.mono (HSG.out _ HKD.out) ?_
        rintro e wc ⟨b2, rfl, hbt, hkc⟩
        have hS : (fun (W : World) => W.cell? ⟨Z, 2, none⟩ = some (.slice (some ⟨bg, offg, none⟩) raw8.length cg8) ∧ W.cell? ⟨bg, offg + i * 3, none⟩ = some (.int .i64 x1.1) ∧ W.cell? ⟨bg, offg + i * 3 + 1, none⟩ = some (.int .i64 x1.2.1) ∧ W.cell? ⟨bg, offg + i * 3 + 2, none⟩ = some x1.2.2 ∧ W.cell? ⟨Y, 0, none⟩ = some (.int .i64 q.id) ∧ W.cell? ⟨Y, 1, none⟩ = some (.int .i64 q.kind) ∧ W.cell? ⟨Y, 2, none⟩ = some (.slice oe ne ce)) wc := ⟨hkc.cell' hS.1, hkc.cell' hS.2.1, hkc.cell' hS.2.2.1, hkc.cell' hS.2.2.2.1, hkc.cell' hS.2.2.2.2.1, hkc.cell' hS.2.2.2.2.2.1, hkc.cell' hS.2.2.2.2.2.2⟩
        refine hK _ _ (fun _ => hS) ?_; clear hK K
        refine wpAnyE_one (i := 7) (listed' := #[true, true, true, true, true, true, true, true]) (by rfl) (by kernel_rfl) (by kernel_rfl) (by rfl) (fun K hK => ?_)
        simp only [Act.put, List.getElem_toArray, List.getElem_cons_succ, List.getElem_cons_zero, List.setIfInBounds_toArray, List.set_cons_zero, List.set_cons_succ]
        go_wp2
        refine hK _ _ (fun _ => hS) ?_; clear hK K
        refine wpAnyE_done (by kernel_rfl) ?_ _
        refine calm_normal ?_
        have HKW := Lib.hid (HKD.out.trans hkc)
        have HB2 := Lib.hid (show pos = i → b2 = true from fun e => hbt (HEQ.out e))
        clear hS hkc hbt
        cases b with
        | true =>
          go_wp2
          go_roundw
          case rel => exact ⟨true, i + 1, by omega, rfl, by go_num, Lib.hid (fun _ => rfl), HKW⟩
          case measure => simp [intOf]; omega
        | false =>
          go_wp2
          go_roundw
          case rel => exact ⟨b2, i + 1, by omega, rfl, by go_num, Lib.hid (fun h => by
            rcases Nat.lt_or_ge pos i with h1 | h1
            · have := HPI.out h1; cases this
            · exact HB2.out (by omega)), HKW⟩
          case measure => simp [intOf]; omega
      · have hb : b = true := HPI.out (by omega)
        subst hb
        have HZr := Lib.hid (HK.out.block HZ9.out); have HXr := Lib.hid (HK.out.block HX9.out)
        have HKr := Lib.hid (HK9.out.trans HK.out)
        have HSTtr := Lib.hid (HSTt9.out.kept HK.out); have HSTsr := Lib.hid (HSTs9.out.kept HK.out)
        have y0 := HK.out.cell' ((Cells.of_block HY9.out) 0 (by simp [grw]))
        simp only [grw, List.getElem_cons_zero, Nat.add_zero, Nat.zero_add] at y0
        clear HZ9 HX9 HK9 HSTt9 HSTs9 HK HGR9
        go_wp2_with (refine stop_at (o := ⟨some 49, _, _, _, _, _⟩) ?_)
        refine Stop.mk ?_
        refine wpList_load_agg rfl _ rfl agT_state Z 0 rfl _ (Cells.of_block HZr.out) HL8.out ?_
        go_wp2_with (refine stop_at (o := ⟨some 52, _, _, _, _, _⟩) ?_)
        refine Stop.mk ?_
        refine wpList_rec_drop rfl _ _ rfl q.id rfl rfl ?_
        have happ := st_Apply (rcDrop q.id) (rcv_len _ _ _ _ _ _ _ _ _ _ _) (mayPut q.id 1) _ t1 (dropS t1 q.id) _ _ _ _ raw8 wr HSTtr.out (fun W _ => record_drop q.id W) (fun _ _ => step_drop wr t1 q.id)
        rw [HP5.out, HP4.out] at happ
        have HAPP := Lib.hid happ; clear happ y0
        go_wp2_with fail
        refine Calls.mono HAPP.out ?_
        rintro e w12 ⟨cells, rfl, hst12, hk12, hl12, ho12⟩
        obtain ⟨smu, sgu, spu, sdu, rawu, rfl, hstu⟩ := hst12 trivial
        have HKu := Lib.hid (HKr.out.trans hk12)
        have HXu := Lib.hid (hk12.block HXr.out); have HZu := Lib.hid (hk12.block HZr.out)
        have HSTu := Lib.hid hstu; have HSTs2 := Lib.hid (HSTsr.out.kept hk12)
        have HLu := Lib.hid hl12; have HOu := Lib.hid ho12
        clear hst12 hk12 hl12 ho12 hstu HAPP HKr HXr HZr HSTtr HSTsr z2
        go_wp2_with (refine stop_at (o := ⟨some 11, .alloc _, _, _, _, _⟩) ?_)
        refine Stop.mk ?_
        refine wpList_new_state rfl rfl _ _ rfl rfl _ rfl HLu.out HOu.out rfl ?_
        intro wv hzv hkv
        obtain ⟨U, hU⟩ : ∃ U, U = w12.heap.size := ⟨_, rfl⟩
        rw [← hU] at hzv ⊢
        have HUv := hzv
        have HXv := Lib.hid (hkv.block HXu.out)
        have HKv := Lib.hid (HKu.out.trans hkv)
        have hs1 := HSTu.out.kept hkv
        have hs2 := HSTs2.out.kept hkv
        have HSM := Lib.hid (fun (W : World) (hk : Kept wv W) => same_state t _ _ _ _ _ _ _ _ _ _ W (hs1.kept hk) (hs2.kept hk))
        have z2 := hkv.cell' (stv_cells (Cells.of_block HZu.out)).2.2.1
        have x2 := (stv_cells (Cells.of_block HXv.out)).2.2.1
        have h38 : ((raw8.length : Int) == (raw3.length : Int) + 1) = true := by rw [H38.out]; simp
        have h3b : raw3.length ≤ 4096 := by have := H38.out; omega
        clear hzv hkv hU HXu HZu HKu hs1 hs2
        go_wp2_with (refine stop_at (o := ⟨some 75, _, _, _, _, _⟩) ?_)
        refine Stop.mk ?_
        refine wpList_load_aggW _ rfl agT_state U 0 rfl _ (Cells.of_block HUv.out) HLu.out rfl ?_
        refine wpList_load_aggW _ rfl agT_state X 0 rfl _ (Cells.of_block HXv.out) HL3.out rfl ?_
        go_wp2_with fail
        refine Calls.mono (HSM.out _ (Kept.refl _)) ?_
        rintro e wz ⟨rfl, hkz⟩
        have HKz := Lib.hid (HKv.out.trans hkz)
        clear hkz
        go_wp2
        go_ret
        exact ⟨rfl, HKz.out⟩
  · have hcb : (c != 0) = true := by simp [hc0]
    go_wp2_with (refine stop_at (o := ⟨some 6, .alloc _, _, _, _, _⟩) ?_)
    refine Stop.mk ?_
    refine wpList_new_state rfl rfl _ _ rfl rfl cells rfl HL8.out HO8.out rfl ?_
    intro wB hzB hkB
    have HKB := Lib.hid (HK8.out.trans hkB)
    clear hzB hkB
    go_wp2
    go_ret
    exact ⟨rfl, HKB.out⟩
end Go.Proofs.YtiijfocdjcjlaaaGreat
