/- law18.rec at a record that has nothing but a group (gen_lrc.py, XLrc.head). -/
import Derived.Test.YtiijfocdjcjlaaaGreatSas
import Derived.Test.YtiijfocdjcjlaaaGreatPsA
namespace Go.Proofs.YtiijfocdjcjlaaaGreat
open Go.RowKit Go.ChangeMaps Go.MapKept
set_option linter.unusedVariables false
set_option linter.unusedSimpArgs false
set_option maxRecDepth 100000
set_option maxHeartbeats 1000000
theorem zero_rec (w : World) : (zeroValue 47).run Tryz.prog w = .ok (.agg (rcZ 0).toArray) w := by kernel_rfl
theorem size_chgsT : (Tryz.prog.info? 45).map (·.size) = some 1 := by kernel_rfl
theorem results_rec {fn : Func} {p : Tmp} (h : fn.results = #[.cell p 47]) (tmps : Array Value) (w : World) (b : Nat) (xs : List Value)
    (hp : tmps.getD p undef = .pointer (some ⟨b, 0, none⟩)) (hc : Cells w b 0 xs) (hl : xs.length = 142) :
    (results fn tmps).run Tryz.prog w = .ok (.agg xs.toArray) w := by
  obtain ⟨⟨d, hd1, hd2⟩, hs⟩ := agT_rec
  have hp' : tmps[p]?.getD undef = .pointer (some ⟨b, 0, none⟩) := by simpa using hp
  have hr := run_loadVar_mid (P := Tryz.prog) w b 0 47 xs d (rangeAt_of_cells hc) hd1 hd2 (by rw [hs, hl])
  simp [results, h, hp', asAddr, hr]
/-- a record that has nothing but a group, and lists -/
def rcG (i k : Int) (vc ve vi vm : Value) : List Value := rcv 0 vc i k ve 0 0 0 0 vi zeroPlg vm
theorem rcG_len (i k : Int) (vc ve vi vm : Value) : (rcG i k vc ve vi vm).length = 142 := rfl
theorem rcG_one (i k : Int) {vc ve vi vm : Value} (h1 : vc.oneCell' = true) (h2 : ve.oneCell' = true) (h3 : vi.oneCell' = true) (h4 : vm.oneCell' = true) : ∀ u ∈ rcG i k vc ve vi vm, u.oneCell' = true := by
  intro u hu
  simp only [rcG, rcv, List.mem_cons, List.mem_append, List.not_mem_nil, or_false] at hu
  rcases hu with rfl | rfl | rfl | rfl | rfl | rfl | rfl | rfl | rfl | rfl | h | rfl
  · rfl
  · exact h1
  · rfl
  · rfl
  · exact h2
  · rfl
  · rfl
  · rfl
  · rfl
  · exact h3
  · exact plv_one _ u h
  · exact h4
theorem rcG_set1 (i k : Int) (vc ve vi vm v : Value) : (rcG i k vc ve vi vm).set 1 v = rcG i k v ve vi vm := rfl
theorem rcG_set4 (i k : Int) (vc ve vi vm v : Value) : (rcG i k vc ve vi vm).set 4 v = rcG i k vc v vi vm := rfl
theorem rcG_set9 (i k : Int) (vc ve vi vm v : Value) : (rcG i k vc ve vi vm).set 9 v = rcG i k vc ve v vm := rfl
theorem rcG_set141 (i k : Int) (vc ve vi vm v : Value) : (rcG i k vc ve vi vm).set 141 v = rcG i k vc ve vi v := rfl
theorem rin_nil {α : Type} {enc : α → List Value} {n : Nat} (W : World) : RIn enc n W (.slice none 0 0) ([] : List α) := ⟨RSl.nil, fun m c h => by cases h; rfl⟩
theorem trip_one' (x : Int × Int × Int) : ∀ u ∈ trip x, u.oneCell' = true := by
  intro u hu
  simp only [trip, List.mem_cons, List.not_mem_nil, or_false] at hu
  rcases hu with rfl | rfl | rfl <;> rfl
theorem oneV_one (x : Int) : ∀ u ∈ oneV x, u.oneCell' = true := by
  intro u hu
  simp only [oneV, List.mem_cons, List.not_mem_nil, or_false] at hu
  subst hu; rfl
theorem law_rec (x : Gw) (g : Grp) (w : World) (h : GRelI w x g) :
    Calls Tryz.prog 13 #[.agg (rcG x.1 x.2.1 nilS x.2.2 nilS nilS).toArray] w fun e w' => ∃ vc ve vi vm oe ce, e = .returned (.agg (rcG g.id g.kind vc ve vi vm).toArray) ∧ ve = .slice oe (g.ext.take 14).length ce ∧ (∀ W', But (fun i => i < w.heap.size) w' W' → GRel W' (g.id, g.kind, ve) (cutG g)) ∧ Kept w w' := by
  obtain ⟨gi, gk, ve⟩ := x
  have e1 : gi = g.id := h.id
  have e2 : gk = g.kind := h.kind
  subst e1 e2
  have hin : RIn pairV 2 w ve g.ext := h.ext
  obtain ⟨oe, ce, rfl, hce⟩ := hin.rsl.form
  have HIN := Lib.hid hin
  obtain ⟨l, hl⟩ : ∃ l, l = g.ext := ⟨_, rfl⟩
  rw [← hl] at HIN hce
  obtain ⟨gi, hgi⟩ : ∃ i, i = g.id := ⟨_, rfl⟩
  obtain ⟨gk, hgk⟩ : ∃ i, i = g.kind := ⟨_, rfl⟩
  have HG := Lib.hid (show cutG g = ⟨gi, gk, l.take 14⟩ by rw [hl, hgi, hgk]; rfl)
  show Calls _ _ #[.agg (rcG g.id g.kind nilS (.slice oe g.ext.length ce) nilS nilS).toArray] w _
  rw [HG.out, ← hl, ← hgi, ← hgk]
  clear h hin hl hgi hgk
  go_enter Tryz.func13, Tryz.ntmps13
  go_wp2_with (refine stop_at (o := ⟨some 1, _, _, _, _, _⟩) ?_)
  refine Stop.mk ?_
  refine wpList_box_rowS rfl _ _ rfl (rcG gi gk nilS (.slice oe l.length ce) nilS nilS) rfl ?_
  intro w1 hz1 hs1 hk1
  obtain ⟨X, hX⟩ : ∃ X, X = w.heap.size := ⟨_, rfl⟩
  rw [← hX] at hz1 ⊢
  refine wpList_alloc_abs rfl _ rfl _ zero_rec ?_
  intro w2 hz2 hs2 hs2' hk2
  obtain ⟨R, hR⟩ : ∃ R, R = w1.heap.size := ⟨_, rfl⟩
  rw [← hR] at hz2 ⊢
  have HX2 := Lib.hid (hk2.block hz1.out)
  have HXW := Lib.hid hX
  have HR := Lib.hid (show X < R ∧ R < w2.heap.size by have := hs2'.out; omega)
  have HR2 := Lib.hid hz2.out
  have HK2 := Lib.hid (hk1.trans hk2)
  clear hz1 hz2 hs1 hs2 hs2' hk1 hk2 hX hR
  go_wp2_with (refine stop_at (o := ⟨some 4, _, _, _, _, _⟩) ?_)
  refine Stop.mk ?_
  refine wpList_load_agg rfl _ rfl agT_rec X 0 rfl _ (Cells.of_block HX2.out) (rcG_len _ _ _ _ _ _) ?_
  refine wpList_alloc_abs rfl _ rfl _ zero_rec ?_
  intro w3 hz3 hs3 hs3' hk3
  obtain ⟨C, hC⟩ : ∃ C, C = w2.heap.size := ⟨_, rfl⟩
  rw [← hC] at hz3 ⊢
  refine wpList_store_agg rfl _ _ rfl agT_rec C 0 rfl (rcG gi gk nilS (.slice oe l.length ce) nilS nilS) rfl (rcG_len _ _ _ _ _ _) (rcG_one _ _ rfl rfl rfl rfl) _ _ hz3.out (by show 0 + 142 ≤ 142; decide) ?_
  intro w0 hw0
  replace hw0 := hw0.all rfl
  have hk0 : Kept w2 w0 := hw0.kept hk3 (by omega)
  have HC0 := Lib.hid hw0.blk
  have HX0 := Lib.hid (hk0.block HX2.out)
  have HR0 := Lib.hid (hk0.block HR2.out)
  have HK0 := Lib.hid (HK2.out.trans hk0)
  have HRC := Lib.hid (show R < C by have := HR.out; omega)
  have HCW := Lib.hid (show w.heap.size ≤ C by have := HR.out; have := HXW.out; omega)
  have HCL := Lib.hid (show C < w0.heap.size from (Array.getElem?_eq_some_iff.1 hw0.blk).1)
  clear hw0 hz3 hs3 hs3' hk3 hk0 hC HX2 HR2 HK2
  have c1 : w0.cell? ⟨X, 1, none⟩ = some (.slice none 0 0) := (Cells.of_block HX0.out) 1 (by show 1 < 142; decide)
  have hXl1 := World.block_lt_of_cell? _ _ c1
  go_wp2_with (refine stop_at (o := ⟨some 11, _, _, _, _, _⟩) ?_)
  refine Stop.mk ?_
  have hka := (Kept.refl w0).alloc (Obj.cells #[] 116)
  generalize w0.alloc (Obj.cells #[] 116) = w1a at hka ⊢
  obtain ⟨B1, hB⟩ : ∃ B, B = w0.heap.size := ⟨_, rfl⟩
  rw [← hB]
  clear hB c1 hXl1
  have HC1a := Lib.hid (hka.block HC0.out)
  have HX1a := Lib.hid (hka.block HX0.out)
  have HR1a := Lib.hid (hka.block HR0.out)
  have HK1a := Lib.hid (HK0.out.trans hka)
  have HS1a := Lib.hid hka.size
  have HQ1a := Lib.hid hka
  clear hka
  refine wpList_min rfl _ _ rfl ([] : List Ch).length 100 rfl rfl ?_
  refine wpList_slice_first rfl _ _ rfl ty_chg (by kernel_rfl) none ([] : List Ch).length 0 rfl (min ([] : List Ch).length 100) rfl (by decide) ?_
  refine wpList_append_first rfl _ _ rfl ty_chg (by decide) chg_len (fun x _ => chg_one x) (rin_nil _) 100 (by decide) (some ⟨B1, 0, none⟩) (by simp) rfl rfl ?_
  intro v1 w1b ho hk
  obtain ⟨ov1, cv1, hv⟩ := ho.form
  have HV1 := Lib.hid (slice_one hv)
  have HO1b := Lib.hid ho
  have HC1b := Lib.hid (hk.block HC1a.out)
  have HX1b := Lib.hid (hk.block HX1a.out)
  have HR1b := Lib.hid (hk.block HR1a.out)
  have HK1b := Lib.hid (HK1a.out.trans hk)
  have HS1b := Lib.hid hk.size
  have HQ1 := Lib.hid (HQ1a.out.trans hk)
  have HF1 := Lib.hid hv
  clear ho hk hv
  go_wp2_with (refine stop_at (o := ⟨none, .store _ _ _, _, _, _, _⟩) ?_)
  refine Stop.mk ?_
  refine wpList_set_cell rfl _ _ rfl size_chgsT C 1 rfl v1 rfl HV1.out.1 HV1.out.2 (rcG gi gk nilS (.slice oe l.length ce) nilS nilS) _ HC1b.out (by rw [rcG_len]; decide) ?_
  intro w1 hw
  rw [rcG_set1] at hw
  have hb : But (fun j => j = C) w1b w1 := But.wrote hw rfl
  have HC1 : Hid (w1.heap[C]? = some (.cells (rcG gi gk v1 (.slice oe l.length ce) nilS nilS).toArray 47 (0, 0))) := Lib.hid hw.blk
  have HX1 := Lib.hid (hb.blk (k := X) (by show ¬ X = C; have := HRC.out; have := HR.out; omega) HX1b.out)
  have HR1 := Lib.hid (hb.blk (k := R) (by show ¬ R = C; have := HRC.out; omega) HR1b.out)
  have HK1 : Hid (Kept w w1) := Lib.hid (But.to_kept HK1b.out hb (fun i hi => by have := HCW.out; omega))
  have HB1 := Lib.hid hb
  clear hw hb HC1a HC1b HX1a HX1b HR1a HR1b HK1a HK1b HC0 HX0 HR0
  have c2 : w1.cell? ⟨X, 4, none⟩ = some (.slice oe l.length ce) := (Cells.of_block HX1.out) 4 (by show 4 < 142; decide)
  have hXl2 := World.block_lt_of_cell? _ _ c2
  go_wp2_with (refine stop_at (o := ⟨some 23, _, _, _, _, _⟩) ?_)
  refine Stop.mk ?_
  have hka := (Kept.refl w1).alloc (Obj.cells #[] 39)
  generalize w1.alloc (Obj.cells #[] 39) = w2a at hka ⊢
  obtain ⟨B2, hB⟩ : ∃ B, B = w1.heap.size := ⟨_, rfl⟩
  rw [← hB]
  clear hB c2 hXl2
  have HC2a := Lib.hid (hka.block HC1.out)
  have HX2a := Lib.hid (hka.block HX1.out)
  have HR2a := Lib.hid (hka.block HR1.out)
  have HK2a := Lib.hid (HK1.out.trans hka)
  have HS2a := Lib.hid hka.size
  have HQ2a := Lib.hid hka
  clear hka
  refine wpList_min rfl _ _ rfl l.length 14 rfl rfl ?_
  refine wpList_slice_first rfl _ _ rfl tyE_x (by kernel_rfl) oe l.length ce rfl (min l.length 14) rfl (Nat.le_trans (Nat.min_le_left _ _) hce) ?_
  refine wpList_append_first rfl _ _ rfl tyE_x (by decide) pairV_len (fun x _ => pair_one x) (HIN.out.kept HK2a.out) 14 (by decide) (some ⟨B2, 0, none⟩) (by simp) rfl rfl ?_
  intro v2 w2b ho hk
  obtain ⟨ov2, cv2, hv⟩ := ho.form
  have HV2 := Lib.hid (slice_one hv)
  have HO2b := Lib.hid ho
  have HC2b := Lib.hid (hk.block HC2a.out)
  have HX2b := Lib.hid (hk.block HX2a.out)
  have HR2b := Lib.hid (hk.block HR2a.out)
  have HK2b := Lib.hid (HK2a.out.trans hk)
  have HS2b := Lib.hid hk.size
  have HQ2 := Lib.hid (HQ2a.out.trans hk)
  have HF2 := Lib.hid hv
  clear ho hk hv
  go_wp2_with (refine stop_at (o := ⟨none, .store _ _ _, _, _, _, _⟩) ?_)
  refine Stop.mk ?_
  refine wpList_set_cell rfl _ _ rfl size_extsT C 4 rfl v2 rfl HV2.out.1 HV2.out.2 (rcG gi gk v1 (.slice oe l.length ce) nilS nilS) _ HC2b.out (by rw [rcG_len]; decide) ?_
  intro w2 hw
  rw [rcG_set4] at hw
  have hb : But (fun j => j = C) w2b w2 := But.wrote hw rfl
  have HC2 : Hid (w2.heap[C]? = some (.cells (rcG gi gk v1 v2 nilS nilS).toArray 47 (0, 0))) := Lib.hid hw.blk
  have HX2 := Lib.hid (hb.blk (k := X) (by show ¬ X = C; have := HRC.out; have := HR.out; omega) HX2b.out)
  have HR2 := Lib.hid (hb.blk (k := R) (by show ¬ R = C; have := HRC.out; omega) HR2b.out)
  have HK2 : Hid (Kept w w2) := Lib.hid (But.to_kept HK2b.out hb (fun i hi => by have := HCW.out; omega))
  have HB2 := Lib.hid hb
  clear hw hb HC2a HC2b HX2a HX2b HR2a HR2b HK2a HK2b HC1 HX1 HR1
  have c3 : w2.cell? ⟨X, 9, none⟩ = some (.slice none 0 0) := (Cells.of_block HX2.out) 9 (by show 9 < 142; decide)
  have hXl3 := World.block_lt_of_cell? _ _ c3
  go_wp2_with (refine stop_at (o := ⟨some 34, _, _, _, _, _⟩) ?_)
  refine Stop.mk ?_
  have hka := (Kept.refl w2).alloc (Obj.cells #[] 3)
  generalize w2.alloc (Obj.cells #[] 3) = w3a at hka ⊢
  obtain ⟨B3, hB⟩ : ∃ B, B = w2.heap.size := ⟨_, rfl⟩
  rw [← hB]
  clear hB c3 hXl3
  have HC3a := Lib.hid (hka.block HC2.out)
  have HX3a := Lib.hid (hka.block HX2.out)
  have HR3a := Lib.hid (hka.block HR2.out)
  have HK3a := Lib.hid (HK2.out.trans hka)
  have HS3a := Lib.hid hka.size
  have HQ3a := Lib.hid hka
  clear hka
  refine wpList_min rfl _ _ rfl ([] : List Int).length 30 rfl rfl ?_
  refine wpList_slice_first rfl _ _ rfl tyE_i (by kernel_rfl) none ([] : List Int).length 0 rfl (min ([] : List Int).length 30) rfl (by decide) ?_
  refine wpList_append_first rfl _ _ rfl tyE_i (by decide) oneV_len (fun x _ => oneV_one x) (rin_nil _) 30 (by decide) (some ⟨B3, 0, none⟩) (by simp) rfl rfl ?_
  intro v3 w3b ho hk
  obtain ⟨ov3, cv3, hv⟩ := ho.form
  have HV3 := Lib.hid (slice_one hv)
  have HO3b := Lib.hid ho
  have HC3b := Lib.hid (hk.block HC3a.out)
  have HX3b := Lib.hid (hk.block HX3a.out)
  have HR3b := Lib.hid (hk.block HR3a.out)
  have HK3b := Lib.hid (HK3a.out.trans hk)
  have HS3b := Lib.hid hk.size
  have HQ3 := Lib.hid (HQ3a.out.trans hk)
  have HF3 := Lib.hid hv
  clear ho hk hv
  go_wp2_with (refine stop_at (o := ⟨none, .store _ _ _, _, _, _, _⟩) ?_)
  refine Stop.mk ?_
  refine wpList_set_cell rfl _ _ rfl size_intsT C 9 rfl v3 rfl HV3.out.1 HV3.out.2 (rcG gi gk v1 v2 nilS nilS) _ HC3b.out (by rw [rcG_len]; decide) ?_
  intro w3 hw
  rw [rcG_set9] at hw
  have hb : But (fun j => j = C) w3b w3 := But.wrote hw rfl
  have HC3 : Hid (w3.heap[C]? = some (.cells (rcG gi gk v1 v2 v3 nilS).toArray 47 (0, 0))) := Lib.hid hw.blk
  have HX3 := Lib.hid (hb.blk (k := X) (by show ¬ X = C; have := HRC.out; have := HR.out; omega) HX3b.out)
  have HR3 := Lib.hid (hb.blk (k := R) (by show ¬ R = C; have := HRC.out; omega) HR3b.out)
  have HK3 : Hid (Kept w w3) := Lib.hid (But.to_kept HK3b.out hb (fun i hi => by have := HCW.out; omega))
  have HB3 := Lib.hid hb
  clear hw hb HC3a HC3b HX3a HX3b HR3a HR3b HK3a HK3b HC2 HX2 HR2
  have c4 : w3.cell? ⟨X, 141, none⟩ = some (.slice none 0 0) := (Cells.of_block HX3.out) 141 (by show 141 < 142; decide)
  have hXl4 := World.block_lt_of_cell? _ _ c4
  go_wp2_with (refine stop_at (o := ⟨some 44, _, _, _, _, _⟩) ?_)
  refine Stop.mk ?_
  have hka := (Kept.refl w3).alloc (Obj.cells #[] 56)
  generalize w3.alloc (Obj.cells #[] 56) = w4a at hka ⊢
  obtain ⟨B4, hB⟩ : ∃ B, B = w3.heap.size := ⟨_, rfl⟩
  rw [← hB]
  clear hB c4 hXl4
  have HC4a := Lib.hid (hka.block HC3.out)
  have HX4a := Lib.hid (hka.block HX3.out)
  have HR4a := Lib.hid (hka.block HR3.out)
  have HK4a := Lib.hid (HK3.out.trans hka)
  have HS4a := Lib.hid hka.size
  have HQ4a := Lib.hid hka
  clear hka
  refine wpList_min rfl _ _ rfl ([] : List Mb).length 14 rfl rfl ?_
  refine wpList_slice_first rfl _ _ rfl tyE_m (by kernel_rfl) none ([] : List Mb).length 0 rfl (min ([] : List Mb).length 14) rfl (by decide) ?_
  refine wpList_append_first rfl _ _ rfl tyE_m (by decide) trip_len (fun x _ => trip_one' x) (rin_nil _) 14 (by decide) (some ⟨B4, 0, none⟩) (by simp) rfl rfl ?_
  intro v4 w4b ho hk
  obtain ⟨ov4, cv4, hv⟩ := ho.form
  have HV4 := Lib.hid (slice_one hv)
  have HO4b := Lib.hid ho
  have HC4b := Lib.hid (hk.block HC4a.out)
  have HX4b := Lib.hid (hk.block HX4a.out)
  have HR4b := Lib.hid (hk.block HR4a.out)
  have HK4b := Lib.hid (HK4a.out.trans hk)
  have HS4b := Lib.hid hk.size
  have HQ4 := Lib.hid (HQ4a.out.trans hk)
  have HF4 := Lib.hid hv
  clear ho hk hv
  go_wp2_with (refine stop_at (o := ⟨none, .store _ _ _, _, _, _, _⟩) ?_)
  refine Stop.mk ?_
  refine wpList_set_cell rfl _ _ rfl size_mbsT C 141 rfl v4 rfl HV4.out.1 HV4.out.2 (rcG gi gk v1 v2 v3 nilS) _ HC4b.out (by rw [rcG_len]; decide) ?_
  intro w4 hw
  rw [rcG_set141] at hw
  have hb : But (fun j => j = C) w4b w4 := But.wrote hw rfl
  have HC4 : Hid (w4.heap[C]? = some (.cells (rcG gi gk v1 v2 v3 v4).toArray 47 (0, 0))) := Lib.hid hw.blk
  have HX4 := Lib.hid (hb.blk (k := X) (by show ¬ X = C; have := HRC.out; have := HR.out; omega) HX4b.out)
  have HR4 := Lib.hid (hb.blk (k := R) (by show ¬ R = C; have := HRC.out; omega) HR4b.out)
  have HK4 : Hid (Kept w w4) := Lib.hid (But.to_kept HK4b.out hb (fun i hi => by have := HCW.out; omega))
  have HB4 := Lib.hid hb
  clear hw hb HC4a HC4b HX4a HX4b HR4a HR4b HK4a HK4b HC3 HX3 HR3
  go_wp2_with (refine stop_at (o := ⟨some 48, _, _, _, _, _⟩) ?_)
  refine Stop.mk ?_
  refine wpList_load_agg rfl _ rfl agT_rec C 0 rfl (rcG gi gk v1 v2 v3 v4) (Cells.of_block HC4.out) (rcG_len _ _ _ _ _ _) ?_
  refine wpList_store_agg rfl _ _ rfl agT_rec R 0 rfl _ rfl (rcG_len _ _ _ _ _ _) (rcG_one _ _ HV1.out.2 HV2.out.2 HV3.out.2 HV4.out.2) _ _ HR4.out (by show 0 + 142 ≤ 142; decide) ?_
  intro wg hwg
  replace hwg := hwg.all rfl
  have HWG := Lib.hid hwg
  have hbg : But (fun j => j = R) w4 wg := But.wrote hwg rfl
  have HKG : Hid (Kept w wg) := Lib.hid (But.to_kept HK4.out hbg (fun i hi => by have := HR.out; have := HXW.out; omega))
  have s2 := HS2a.out; have s2b := HS2b.out
  have hcl := HCL.out
  have hr := HR.out
  have HOG : Hid (∀ W', But (fun i => i < w.heap.size) wg W' → Own 39 pairV 2 W' w2a.heap.size w2b.heap.size v2 (l.take 14)) := Lib.hid (fun W' hW => by
    have z1 := HQ1.out.size
    have z2 := HB1.out.size
    have a1 := HO2b.out.but HB2.out (fun k hk => .inl (by omega))
    have a2 := (a1.kept HQ3.out).but HB3.out (fun k hk => .inl (by omega))
    have a3 := (a2.kept HQ4.out).but HB4.out (fun k hk => .inl (by omega))
    have hrc := HRC.out
    have a4 := a3.but hbg (fun k hk => .inl (by omega))
    have hcw := HCW.out
    exact a4.but hW (fun k hk => .inl (by omega)))
  clear hwg hbg s2 s2b hcl hr
  go_wp2
  try simp only [Exit.inBlock, Exit.then]
  refine bodyPost_ret (results_rec rfl _ _ R _ rfl HWG.out.cells (rcG_len _ _ _ _ _ _)) rfl ?_
  exact ⟨v1, v2, v3, v4, ov2, cv2, rfl, HF2.out, fun W' hW => ⟨rfl, rfl, (HOG.out W' hW).rsl pairV_len, by show (l.take 14).length ≤ 4096; rw [List.length_take]; omega⟩, HKG.out⟩
end Go.Proofs.YtiijfocdjcjlaaaGreat
