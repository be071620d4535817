/- PqA: several texts in one: Smk Ins. -/
import Derived.Test.YtiijfocdjcjlaaaGreatPpA
/- state.doMake, of whatever Insert tells (gen_smk.py, XSmk.head). -/
namespace Go.Proofs.YtiijfocdjcjlaaaGreat
open Go.RowKit Go.ChangeMaps Go.MapKept
set_option linter.unusedVariables false
set_option linter.unusedSimpArgs false
set_option maxRecDepth 100000
set_option maxHeartbeats 1000000
theorem wp_one_agg {P : Program} {o : Oper} {a : Act} {w : World} {K : Act → World → Prop} {Q : Exit → Act → World → Prop} {T E n bytes : Nat} (x : Operand) (ho : o.op = .buildSlice T 1 #[(0, x)]) (hT : ElemT P T E n bytes) (hn : n ≤ 4096)
    (xs : List Value) (hs : xs.length = n) (hx : a.eval x = .agg xs.toArray)
    (h : ∀ w1, Hid (w1.heap[w.heap.size]? = some (.cells xs.toArray E (0, 0))) → Kept w w1 → K (a.put o.dst (.slice (some ⟨w.heap.size, 0, none⟩) 1 1)) w1) : o.wp P a w K Q := by
  obtain ⟨ht, ⟨i, z, hi, hz, hsz, hby, hzs⟩, hpos⟩ := hT
  refine wp_buildSlice T E 1 _ ho xs.toArray i z ht hi hz (by rw [hsz]; omega) (by rw [hsz]; omega) ?_ (h _ (Lib.hid (heap_alloc_new w _)) ((Kept.refl _).alloc _))
  have he : (#[(0, x)].map fun (i, x) => ((i, a.eval x) : Nat × Value)).toList = [(0, .agg xs.toArray)] := by simp [hx]
  rw [he, hsz]
  exact fill_rec n _ xs hpos (by simp) hs
theorem ty_grp : ElemT Tryz.prog 23 37 3 40 := tyE_g
/-- what Insert at place pos does -/
def InsP (raw : List Gw) (pos : Nat) : Prop := ∀ (W : World) (lo hi : Nat) (v : Value) (vb : Nat) (y : Gw), Own 37 grw 3 W lo hi v raw → W.heap[vb]? = some (.cells (grw y).toArray 37 (0, 0)) → (vb < lo ∨ hi ≤ vb) → y.2.2.oneCell' = true → lo ≤ W.heap.size →
  Calls Tryz.prog 113 #[v, .int .i64 (pos : Int), .slice (some ⟨vb, 0, none⟩) 1 1] W fun e W' => ∃ v', e = .returned v' ∧ Own 37 grw 3 W' lo W'.heap.size v' (raw.take pos ++ y :: raw.drop pos) ∧ But (fun k => lo ≤ k ∧ k < hi) W W'
/-- .. and what BinarySearchFunc tells -/
def FindP (raw : List Gw) (id : Int) (pos : Nat) (f : Bool) : Prop := ∀ (W : World) (v : Value), RSl grw 3 W v raw → Calls Tryz.prog 111 #[v, .int .i64 id, .func (.func 112) #[] #[]] W fun e W' => e = .returned (.tuple #[.int .i64 (pos : Int), .bool f]) ∧ Kept W W'
def makeAt (s : St) (pos : Nat) (g : Grp) : St := { s with gs := s.gs.take pos ++ g :: s.gs.drop pos }
theorem GRels.insert {W : World} {raw : List Gw} {gs : List Grp} (h : GRels W raw gs) (pos : Nat) {y : Gw} {g : Grp} (hy : GRel W y g) (hp : pos ≤ raw.length) : GRels W (raw.take pos ++ y :: raw.drop pos) (gs.take pos ++ g :: gs.drop pos) := by
  have hl := h.len
  refine ⟨by simp [hl], fun k h1 h2 => ?_⟩
  have ht1 : (raw.take pos).length = pos := by rw [List.length_take]; omega
  have ht2 : (gs.take pos).length = pos := by rw [List.length_take]; omega
  rcases Nat.lt_trichotomy k pos with hk | hk | hk
  · rw [List.getElem_append_left (by omega), List.getElem_append_left (by omega), List.getElem_take, List.getElem_take]
    exact h.at_ k (by omega) (by omega)
  · subst hk
    rw [List.getElem_append_right (by omega), List.getElem_append_right (by omega)]
    simp only [ht1, ht2, Nat.sub_self, List.getElem_cons_zero]
    exact hy
  · obtain ⟨j, rfl⟩ : ∃ j, k = pos + 1 + j := ⟨k - pos - 1, by omega⟩
    have e1 : (raw.take pos ++ y :: raw.drop pos)[pos + 1 + j] = raw[pos + j]'(by simp at h1; omega) := by
      rw [List.getElem_append_right (by omega)]
      simp only [ht1, show pos + 1 + j - pos = j + 1 by omega, List.getElem_cons_succ, List.getElem_drop]
    have e2 : (gs.take pos ++ g :: gs.drop pos)[pos + 1 + j] = gs[pos + j]'(by simp at h2; omega) := by
      rw [List.getElem_append_right (by omega)]
      simp only [ht2, show pos + 1 + j - pos = j + 1 by omega, List.getElem_cons_succ, List.getElem_drop]
    rw [e1, e2]
    exact h.at_ (pos + j) _ _
theorem st_doMake (s : St) (X b0 base b1 b2 b3 b4 : Nat) (sm sg sp sd : Value) (raw : List Gw) (x : Gw) (g : Grp) (pos : Nat) (f : Bool) (wx w : World) (hkx : Kept wx w) (hx : GRel wx x g) (hO : StO w b0 base b1 b2 b3 b4 s sm sg sp sd raw) (hX0 : b0 ≤ X) (hX1 : X < base) (hxb : wx.heap.size ≤ b0) (hX : w.heap[X]? = some (.cells (stC s sm sg sp sd).toArray 31 (0, 0)))
    (hF : FindP raw g.id pos f) (hI : InsP raw pos) (hp : pos ≤ raw.length) (hlg : s.gs.length ≤ 4000) :
    Calls Tryz.prog 85 #[.pointer (some ⟨X, 0, none⟩), .agg (rcMake x).toArray] w fun e w' => (e = .returned (.int .i64 (if f then 9 else 0))) ∧ (f = false → Stepped w' X b0 base (makeAt s pos g)) ∧ But (fun k => k = X ∨ (base ≤ k ∧ k < b4)) w w' := by
  obtain ⟨og, cg, rfl⟩ := hO.g.form
  obtain ⟨od, cd, rfl⟩ := hO.d.form
  have hl0 := hO.le0; have hl1 := hO.le1; have hl2 := hO.le2; have hl3 := hO.le3; have hl4 := hO.le4; have hl5 := hO.le5
  obtain ⟨xid, xk, xe⟩ := x
  obtain ⟨h1, h2, hext, hfew⟩ := hx
  simp only at h1 h2 hext
  subst h1 h2
  obtain ⟨oe, ce, rfl, _⟩ := hext.form
  have HEXT := Lib.hid hext; have HKX := Lib.hid hkx
  have HL := Lib.hid (show (stC s sm (.slice og raw.length cg) sp (.slice od s.dirty.length cd)).length = 136 from stv_len (plv_len hO.plug))
  have HBS : Hid (∀ W, Kept w W → Calls Tryz.prog 111 #[.slice og raw.length cg, .int .i64 g.id, .func (.func 112) #[] #[]] W fun e W' => e = .returned (.tuple #[.int .i64 (pos : Int), .bool f]) ∧ Kept W W') := Lib.hid (fun W hk => hF W _ ((hO.g.rsl grw_len).kept hk))
  have HIN := Lib.hid (show ∀ (W : World) (lo hi : Nat) (v : Value) (vb : Nat) (y : Gw), _ from hI)
  have HO := Lib.hid hO; have HX := Lib.hid hX
  clear hO hX hF hI hext hkx
  go_enter Tryz.func85, Tryz.ntmps85
  go_wp2_with (refine stop_at (o := ⟨some 3, _, _, _, _, _⟩) ?_)
  refine Stop.mk ?_
  refine wpList_box_rowS rfl _ _ rfl (rcMake (g.id, g.kind, .slice oe g.ext.length ce)) rfl ?_
  intro w1 hz1 hs1 hk1
  obtain ⟨rb, hrb⟩ : ∃ rb, rb = w.heap.size := ⟨_, rfl⟩
  rw [← hrb] at hz1 ⊢
  have hrb4 : b4 ≤ rb := by omega
  have r2 : w1.cell? ⟨rb, 2, none⟩ = some (.int .i64 g.id) := (Cells.of_block hz1.out) 2 (by show 2 < 142; decide)
  have r3 : w1.cell? ⟨rb, 3, none⟩ = some (.int .i64 g.kind) := (Cells.of_block hz1.out) 3 (by show 3 < 142; decide)
  have r4 : w1.cell? ⟨rb, 4, none⟩ = some (.slice oe g.ext.length ce) := (Cells.of_block hz1.out) 4 (by show 4 < 142; decide)
  have HK1 := Lib.hid hk1
  have HX1 := Lib.hid (hk1.block HX.out)
  have HRR := Lib.hid (⟨r2, r3, r4⟩ : _ ∧ _ ∧ _)
  have c2 : w1.cell? ⟨X, 2, none⟩ = some (.slice og raw.length cg) := (stv_cells (Cells.of_block HX1.out : Cells w1 X 0 (stC s sm _ sp _))).2.2.1
  have hS : (fun (W : World) => W.cell? ⟨rb, 2, none⟩ = some (.int .i64 g.id) ∧ W.cell? ⟨X, 2, none⟩ = some (.slice og raw.length cg)) w1.drew := ⟨r2, c2⟩
  have HDR := Lib.hid (show Kept w w1.drew from HK1.out.drew)
  have HD1 := Lib.hid (show Kept w1 w1.drew from (Kept.refl _).drew)
  clear hz1 hs1 hk1 hrb r2 r3 r4 c2
  cases f with
  | true =>
    go_upto_region 1 with fail
    refine wp_region_calm ?_
    refine wp_region_E (fun (W : World) => W.cell? ⟨rb, 2, none⟩ = some (.int .i64 g.id) ∧ W.cell? ⟨X, 2, none⟩ = some (.slice og raw.length cg)) 100 (by kernel_rfl) ?_
    refine wpAnyE_take (i := 0) (v := .pointer (some ⟨X, 0, none⟩)) (listed' := #[true, false, false, false, false, false, false, false, false, false, false, false, false]) (by rfl) (by kernel_rfl) (by kernel_rfl) calm_put hS (by rfl) ?_ ?_
    · intro W hW; clear hW; go_simp; try (with_reducible rfl)
    simp only [Act.put, List.getElem_toArray, List.getElem_cons_succ, List.getElem_cons_zero, List.setIfInBounds_toArray, List.set_cons_zero, List.set_cons_succ]
    refine wpAnyE_take (i := 1) (v := .pointer (some ⟨X, 0, none⟩)) (listed' := #[true, true, false, false, false, false, false, false, false, false, false, false, false]) (by rfl) (by kernel_rfl) (by kernel_rfl) calm_put hS (by rfl) ?_ ?_
    · intro W hW; clear hW; go_simp; try (with_reducible rfl)
    simp only [Act.put, List.getElem_toArray, List.getElem_cons_succ, List.getElem_cons_zero, List.setIfInBounds_toArray, List.set_cons_zero, List.set_cons_succ]
    refine wpAnyE_take (i := 2) (v := .pointer (some ⟨X, 2, none⟩)) (listed' := #[true, true, true, false, false, false, false, false, false, false, false, false, false]) (by rfl) (by kernel_rfl) (by kernel_rfl) calm_put hS (by rfl) ?_ ?_
    · intro W hW; clear hW; go_simp; try (with_reducible rfl)
    simp only [Act.put, List.getElem_toArray, List.getElem_cons_succ, List.getElem_cons_zero, List.setIfInBounds_toArray, List.set_cons_zero, List.set_cons_succ]
    refine wpAnyE_take (i := 3) (v := .slice og raw.length cg) (listed' := #[true, true, true, true, false, false, false, false, false, false, false, false, false]) (by rfl) (by kernel_rfl) (by kernel_rfl) calm_put hS (by rfl) ?_ ?_
    · intro W hW; obtain ⟨ci, c2⟩ := hW; go_simp; try (with_reducible rfl)
    simp only [Act.put, List.getElem_toArray, List.getElem_cons_succ, List.getElem_cons_zero, List.setIfInBounds_toArray, List.set_cons_zero, List.set_cons_succ]
    refine wpAnyE_take (i := 4) (v := .pointer (some ⟨rb, 2, none⟩)) (listed' := #[true, true, true, true, true, false, false, false, false, false, false, false, false]) (by rfl) (by kernel_rfl) (by kernel_rfl) calm_put hS (by rfl) ?_ ?_
    · intro W hW; clear hW; go_simp; try (with_reducible rfl)
    simp only [Act.put, List.getElem_toArray, List.getElem_cons_succ, List.getElem_cons_zero, List.setIfInBounds_toArray, List.set_cons_zero, List.set_cons_succ]
    refine wpAnyE_take (i := 5) (v := .pointer (some ⟨rb, 2, none⟩)) (listed' := #[true, true, true, true, true, true, false, false, false, false, false, false, false]) (by rfl) (by kernel_rfl) (by kernel_rfl) calm_put hS (by rfl) ?_ ?_
    · intro W hW; clear hW; go_simp; try (with_reducible rfl)
    simp only [Act.put, List.getElem_toArray, List.getElem_cons_succ, List.getElem_cons_zero, List.setIfInBounds_toArray, List.set_cons_zero, List.set_cons_succ]
    refine wpAnyE_take (i := 6) (v := .int .i64 g.id) (listed' := #[true, true, true, true, true, true, true, false, false, false, false, false, false]) (by rfl) (by kernel_rfl) (by kernel_rfl) calm_put hS (by rfl) ?_ ?_
    · intro W hW; obtain ⟨ci, c2⟩ := hW; go_simp; try (with_reducible rfl)
    simp only [Act.put, List.getElem_toArray, List.getElem_cons_succ, List.getElem_cons_zero, List.setIfInBounds_toArray, List.set_cons_zero, List.set_cons_succ]
    refine wpAnyE_one (i := 7) (listed' := #[true, true, true, true, true, true, true, true, false, false, false, false, false]) (by rfl) (by kernel_rfl) (by kernel_rfl) (by rfl) (fun K hK => ?_)
    simp only [Act.put, List.getElem_toArray, List.getElem_cons_succ, List.getElem_cons_zero, List.setIfInBounds_toArray, List.set_cons_zero, List.set_cons_succ]
    go_wp2_with fail
    refine Calls.mono (HBS.out _ HDR.out) ?_
    rintro e w3 ⟨rfl, hk3⟩
    have hS : (fun (W : World) => W.cell? ⟨rb, 2, none⟩ = some (.int .i64 g.id) ∧ W.cell? ⟨X, 2, none⟩ = some (.slice og raw.length cg)) _ := ⟨hk3.cell' hS.1, hk3.cell' hS.2⟩
    refine hK _ _ (fun _ => hS) ?_; clear hK K
    refine wpAnyE_take (i := 8) (v := .tuple #[.int .i64 (pos : Int), .bool true]) (listed' := #[true, true, true, true, true, true, true, true, true, false, false, false, false]) (by rfl) (by kernel_rfl) (by kernel_rfl) calm_put hS (by rfl) ?_ ?_
    · intro W hW; clear hW; go_simp; try (with_reducible rfl)
    simp only [Act.put, List.getElem_toArray, List.getElem_cons_succ, List.getElem_cons_zero, List.setIfInBounds_toArray, List.set_cons_zero, List.set_cons_succ]
    refine wpAnyE_take (i := 9) (v := .int .i64 (pos : Int)) (listed' := #[true, true, true, true, true, true, true, true, true, true, false, false, false]) (by rfl) (by kernel_rfl) (by kernel_rfl) calm_put hS (by rfl) ?_ ?_
    · intro W hW; clear hW; go_simp; try (with_reducible rfl)
    simp only [Act.put, List.getElem_toArray, List.getElem_cons_succ, List.getElem_cons_zero, List.setIfInBounds_toArray, List.set_cons_zero, List.set_cons_succ]
    refine wpAnyE_take (i := 10) (v := .bool true) (listed' := #[true, true, true, true, true, true, true, true, true, true, true, false, false]) (by rfl) (by kernel_rfl) (by kernel_rfl) calm_put hS (by rfl) ?_ ?_
    · intro W hW; clear hW; go_simp; try (with_reducible rfl)
    simp only [Act.put, List.getElem_toArray, List.getElem_cons_succ, List.getElem_cons_zero, List.setIfInBounds_toArray, List.set_cons_zero, List.set_cons_succ]
    refine wpAnyE_one (i := 11) (listed' := #[true, true, true, true, true, true, true, true, true, true, true, true, false]) (by rfl) (by kernel_rfl) (by kernel_rfl) (by rfl) (fun K hK => ?_)
    simp only [Act.put, List.getElem_toArray, List.getElem_cons_succ, List.getElem_cons_zero, List.setIfInBounds_toArray, List.set_cons_zero, List.set_cons_succ]
    go_wp2
    refine hK _ _ (fun _ => hS) ?_; clear hK K
    refine wpAnyE_one (i := 12) (listed' := #[true, true, true, true, true, true, true, true, true, true, true, true, true]) (by rfl) (by kernel_rfl) (by kernel_rfl) (by rfl) (fun K hK => ?_)
    simp only [Act.put, List.getElem_toArray, List.getElem_cons_succ, List.getElem_cons_zero, List.setIfInBounds_toArray, List.set_cons_zero, List.set_cons_succ]
    go_wp2
    refine hK _ _ (fun _ => hS) ?_; clear hK K
    refine wpAnyE_done (by kernel_rfl) ?_ _
    refine calm_normal ?_
    have HK3 := Lib.hid (HDR.out.trans hk3)
    clear hS hk3
    go_wp2
    go_ret
    exact ⟨rfl, But.kept HK3.out⟩
  | false =>
    go_upto_region 1 with fail
    refine wp_region_calm ?_
    refine wp_region_E (fun (W : World) => W.cell? ⟨rb, 2, none⟩ = some (.int .i64 g.id) ∧ W.cell? ⟨X, 2, none⟩ = some (.slice og raw.length cg)) 100 (by kernel_rfl) ?_
    refine wpAnyE_take (i := 0) (v := .pointer (some ⟨X, 0, none⟩)) (listed' := #[true, false, false, false, false, false, false, false, false, false, false, false, false]) (by rfl) (by kernel_rfl) (by kernel_rfl) calm_put hS (by rfl) ?_ ?_
    · intro W hW; clear hW; go_simp; try (with_reducible rfl)
    simp only [Act.put, List.getElem_toArray, List.getElem_cons_succ, List.getElem_cons_zero, List.setIfInBounds_toArray, List.set_cons_zero, List.set_cons_succ]
    refine wpAnyE_take (i := 1) (v := .pointer (some ⟨X, 0, none⟩)) (listed' := #[true, true, false, false, false, false, false, false, false, false, false, false, false]) (by rfl) (by kernel_rfl) (by kernel_rfl) calm_put hS (by rfl) ?_ ?_
    · intro W hW; clear hW; go_simp; try (with_reducible rfl)
    simp only [Act.put, List.getElem_toArray, List.getElem_cons_succ, List.getElem_cons_zero, List.setIfInBounds_toArray, List.set_cons_zero, List.set_cons_succ]
    refine wpAnyE_take (i := 2) (v := .pointer (some ⟨X, 2, none⟩)) (listed' := #[true, true, true, false, false, false, false, false, false, false, false, false, false]) (by rfl) (by kernel_rfl) (by kernel_rfl) calm_put hS (by rfl) ?_ ?_
    · intro W hW; clear hW; go_simp; try (with_reducible rfl)
    simp only [Act.put, List.getElem_toArray, List.getElem_cons_succ, List.getElem_cons_zero, List.setIfInBounds_toArray, List.set_cons_zero, List.set_cons_succ]
    refine wpAnyE_take (i := 3) (v := .slice og raw.length cg) (listed' := #[true, true, true, true, false, false, false, false, false, false, false, false, false]) (by rfl) (by kernel_rfl) (by kernel_rfl) calm_put hS (by rfl) ?_ ?_
    · intro W hW; obtain ⟨ci, c2⟩ := hW; go_simp; try (with_reducible rfl)
    simp only [Act.put, List.getElem_toArray, List.getElem_cons_succ, List.getElem_cons_zero, List.setIfInBounds_toArray, List.set_cons_zero, List.set_cons_succ]
    refine wpAnyE_take (i := 4) (v := .pointer (some ⟨rb, 2, none⟩)) (listed' := #[true, true, true, true, true, false, false, false, false, false, false, false, false]) (by rfl) (by kernel_rfl) (by kernel_rfl) calm_put hS (by rfl) ?_ ?_
    · intro W hW; clear hW; go_simp; try (with_reducible rfl)
    simp only [Act.put, List.getElem_toArray, List.getElem_cons_succ, List.getElem_cons_zero, List.setIfInBounds_toArray, List.set_cons_zero, List.set_cons_succ]
    refine wpAnyE_take (i := 5) (v := .pointer (some ⟨rb, 2, none⟩)) (listed' := #[true, true, true, true, true, true, false, false, false, false, false, false, false]) (by rfl) (by kernel_rfl) (by kernel_rfl) calm_put hS (by rfl) ?_ ?_
    · intro W hW; clear hW; go_simp; try (with_reducible rfl)
    simp only [Act.put, List.getElem_toArray, List.getElem_cons_succ, List.getElem_cons_zero, List.setIfInBounds_toArray, List.set_cons_zero, List.set_cons_succ]
    refine wpAnyE_take (i := 6) (v := .int .i64 g.id) (listed' := #[true, true, true, true, true, true, true, false, false, false, false, false, false]) (by rfl) (by kernel_rfl) (by kernel_rfl) calm_put hS (by rfl) ?_ ?_
    · intro W hW; obtain ⟨ci, c2⟩ := hW; go_simp; try (with_reducible rfl)
    simp only [Act.put, List.getElem_toArray, List.getElem_cons_succ, List.getElem_cons_zero, List.setIfInBounds_toArray, List.set_cons_zero, List.set_cons_succ]
    refine wpAnyE_one (i := 7) (listed' := #[true, true, true, true, true, true, true, true, false, false, false, false, false]) (by rfl) (by kernel_rfl) (by kernel_rfl) (by rfl) (fun K hK => ?_)
    simp only [Act.put, List.getElem_toArray, List.getElem_cons_succ, List.getElem_cons_zero, List.setIfInBounds_toArray, List.set_cons_zero, List.set_cons_succ]
    go_wp2_with fail
    refine Calls.mono (HBS.out _ HDR.out) ?_
    rintro e w3 ⟨rfl, hk3⟩
    have hS : (fun (W : World) => W.cell? ⟨rb, 2, none⟩ = some (.int .i64 g.id) ∧ W.cell? ⟨X, 2, none⟩ = some (.slice og raw.length cg)) _ := ⟨hk3.cell' hS.1, hk3.cell' hS.2⟩
    refine hK _ _ (fun _ => hS) ?_; clear hK K
    refine wpAnyE_take (i := 8) (v := .tuple #[.int .i64 (pos : Int), .bool false]) (listed' := #[true, true, true, true, true, true, true, true, true, false, false, false, false]) (by rfl) (by kernel_rfl) (by kernel_rfl) calm_put hS (by rfl) ?_ ?_
    · intro W hW; clear hW; go_simp; try (with_reducible rfl)
    simp only [Act.put, List.getElem_toArray, List.getElem_cons_succ, List.getElem_cons_zero, List.setIfInBounds_toArray, List.set_cons_zero, List.set_cons_succ]
    refine wpAnyE_take (i := 9) (v := .int .i64 (pos : Int)) (listed' := #[true, true, true, true, true, true, true, true, true, true, false, false, false]) (by rfl) (by kernel_rfl) (by kernel_rfl) calm_put hS (by rfl) ?_ ?_
    · intro W hW; clear hW; go_simp; try (with_reducible rfl)
    simp only [Act.put, List.getElem_toArray, List.getElem_cons_succ, List.getElem_cons_zero, List.setIfInBounds_toArray, List.set_cons_zero, List.set_cons_succ]
    refine wpAnyE_take (i := 10) (v := .bool false) (listed' := #[true, true, true, true, true, true, true, true, true, true, true, false, false]) (by rfl) (by kernel_rfl) (by kernel_rfl) calm_put hS (by rfl) ?_ ?_
    · intro W hW; clear hW; go_simp; try (with_reducible rfl)
    simp only [Act.put, List.getElem_toArray, List.getElem_cons_succ, List.getElem_cons_zero, List.setIfInBounds_toArray, List.set_cons_zero, List.set_cons_succ]
    refine wpAnyE_one (i := 11) (listed' := #[true, true, true, true, true, true, true, true, true, true, true, true, false]) (by rfl) (by kernel_rfl) (by kernel_rfl) (by rfl) (fun K hK => ?_)
    simp only [Act.put, List.getElem_toArray, List.getElem_cons_succ, List.getElem_cons_zero, List.setIfInBounds_toArray, List.set_cons_zero, List.set_cons_succ]
    go_wp2
    refine hK _ _ (fun _ => hS) ?_; clear hK K
    refine wpAnyE_one (i := 12) (listed' := #[true, true, true, true, true, true, true, true, true, true, true, true, true]) (by rfl) (by kernel_rfl) (by kernel_rfl) (by rfl) (fun K hK => ?_)
    simp only [Act.put, List.getElem_toArray, List.getElem_cons_succ, List.getElem_cons_zero, List.setIfInBounds_toArray, List.set_cons_zero, List.set_cons_succ]
    go_wp2
    refine hK _ _ (fun _ => hS) ?_; clear hK K
    refine wpAnyE_done (by kernel_rfl) ?_ _
    refine calm_normal ?_
    have HK3 := Lib.hid (HDR.out.trans hk3)
    have hk13 := HD1.out.trans hk3
    have HX3 := Lib.hid (hk13.block HX1.out)
    have r2 := hk13.cell' HRR.out.1
    have r3 := hk13.cell' HRR.out.2.1
    have r4 := hk13.cell' HRR.out.2.2
    clear hS hk3 hk13
    go_wp2_with (refine stop_at (o := ⟨some 7, .alloc _, _, _, _, _⟩) ?_)
    refine Stop.mk ?_
    refine wpList_alloc_abs rfl _ rfl _ zero_grpA ?_
    intro w4 hz4 hs4 hs4' hk4
    obtain ⟨Y, hY⟩ : ∃ Y, Y = w3.heap.size := ⟨_, rfl⟩
    rw [← hY] at hz4 ⊢
    have hY4 : b4 ≤ Y := by have := HK3.out.size; omega
    have HYQ := Lib.hid hY; clear hY
    go_wp2_with (refine stop_at (o := ⟨none, .store _ _ _, _, _, _, _⟩) ?_)
    refine Stop.mk ?_
    refine wpList_store_agg (o := ⟨none, .store _ _ _, _, _, _, _⟩) rfl _ _ rfl agT_grp Y 0 rfl [.int .i64 g.id, .int .i64 g.kind, .slice oe g.ext.length ce] rfl rfl (by intro v hv; simp only [List.mem_cons, List.not_mem_nil, or_false] at hv; rcases hv with rfl | rfl | rfl <;> rfl) _ _ hz4.out (by simp) ?_
    intro w5 hw5
    replace hw5 := hw5.all rfl
    have hk35 : Kept w3 w5 := hw5.kept hk4 (by have := HYQ.out; omega)
    have y2 := hw5.cells 2 (by simp)
    simp only [Nat.zero_add, List.getElem_cons_zero, List.getElem_cons_succ] at y2
    have HY5 := Lib.hid hw5.blk
    have HK5 := Lib.hid (HK3.out.trans hk35)
    have HX5 := Lib.hid (hk35.block HX3.out)
    clear hz4 hs4 hs4' hk4 hw5 hk35 r2 r3 r4
    have hcl := cln_x g.ext (.slice oe g.ext.length ce) w5 hfew (HEXT.out.kept (HKX.out.trans HK5.out))
    have HCL := Lib.hid hcl; clear hcl
    go_wp2_with fail
    refine Calls.mono HCL.out ?_
    rintro e w6 ⟨ve2, rfl, ha, ho, hr, hk6⟩
    obtain ⟨oe2, ce2, hve2, _⟩ := hr.form
    have HVE1 := Lib.hid (slice_one hve2)
    have HVE := Lib.hid (slice_one hve2).2
    have HOE := Lib.hid (Own.of_clone ha ho)
    have HK6 := Lib.hid (HK5.out.trans hk6)
    have HY6 := Lib.hid (hk6.block HY5.out)
    have HX6 := Lib.hid (hk6.block HX5.out)
    have HY6l := Lib.hid (show Y < w5.heap.size from (Array.getElem?_eq_some_iff.1 HY5.out).1)
    have HS5 := Lib.hid (show b4 ≤ w5.heap.size by have := HK5.out.size; omega)
    clear ha ho hr hk6 hve2 y2
    go_wp2_with (refine stop_at (o := ⟨none, .store _ _ _, _, _, _, _⟩) ?_)
    refine Stop.mk ?_
    refine wpList_set_cell rfl _ _ rfl size_extsT Y 2 rfl ve2 rfl HVE1.out.1 HVE1.out.2 [.int .i64 g.id, .int .i64 g.kind, .slice oe g.ext.length ce] _ HY6.out (by simp) ?_
    intro w7 hw7
    have hb7 : But (fun k => k = Y) w6 w7 := But.wrote hw7 rfl
    have hc7 := hw7.cells
    have y0 := hc7 0 (by simp); have y1 := hc7 1 (by simp); have y2 := hc7 2 (by simp)
    simp only [Nat.zero_add, List.set_cons_succ, List.set_cons_zero, List.getElem_cons_zero, List.getElem_cons_succ] at y0 y1 y2
    have hX7 := hb7.blk (k := X) (by show ¬ X = Y; omega) HX6.out
    have HK7 := Lib.hid (But.to_kept HK6.out hb7 (fun i hi => by have := HYQ.out; have := HK3.out.size; omega))
    have HEX7 : Hid (∀ W, But (fun k => b0 ≤ k ∧ k < b4) w7.drew W → RSl pairV 2 W ve2 g.ext) := Lib.hid (fun W hb => ((HOE.out.but hb7 (fun k hk => .inl (by have := HY6l.out; omega))).but (show But (fun k => b0 ≤ k ∧ k < b4) w7 W from ((But.kept ((Kept.refl w7).drew)).trans hb)) (fun k hk => .inl (by have := HS5.out; omega))).rsl pairV_len)
    have c2 : w7.cell? ⟨X, 2, none⟩ = some (.slice og raw.length cg) := (stv_cells (Cells.of_block hX7 : Cells w7 X 0 (stC s sm _ sp _))).2.2.1
    have hS : (fun (W : World) => W.cell? ⟨X, 2, none⟩ = some (.slice og raw.length cg) ∧ W.cell? ⟨Y, 0, none⟩ = some (.int .i64 g.id) ∧ W.cell? ⟨Y, 1, none⟩ = some (.int .i64 g.kind) ∧ W.cell? ⟨Y, 2, none⟩ = some ve2) w7.drew := ⟨c2, y0, y1, y2⟩
    have HK7d := Lib.hid (show Kept w w7.drew from HK7.out.drew)
    have HX7d := Lib.hid (show w7.drew.heap[X]? = _ from hX7)
    have HSZ7 := Lib.hid (show b4 ≤ w7.drew.heap.size by have := HK7.out.size; show b4 ≤ w7.heap.size; omega)
    clear hw7 hb7 hc7 hX7 c2 y0 y1 y2
    go_upto_region 6 with fail
    refine wp_region_calm ?_
    refine wp_region_X (fun (W : World) => W.cell? ⟨X, 2, none⟩ = some (.slice og raw.length cg) ∧ W.cell? ⟨Y, 0, none⟩ = some (.int .i64 g.id) ∧ W.cell? ⟨Y, 1, none⟩ = some (.int .i64 g.kind) ∧ W.cell? ⟨Y, 2, none⟩ = some ve2) (fun i => decide (9 ≤ i)) (by kernel_rfl) ?_
    refine wpAnyX_take (i := 0) (v := .pointer (some ⟨X, 0, none⟩)) (listed' := #[true, false, false, false, false, false, false, false, false, false, false, false]) (by rfl) (by kernel_rfl) (by kernel_rfl) calm_put hS (by rfl) ?_ ?_
    · intro W hW; clear hW; go_simp; try (with_reducible rfl)
    simp only [Act.put, List.getElem_toArray, List.getElem_cons_succ, List.getElem_cons_zero, List.setIfInBounds_toArray, List.set_cons_zero, List.set_cons_succ]
    refine wpAnyX_take (i := 1) (v := .pointer (some ⟨X, 0, none⟩)) (listed' := #[true, true, false, false, false, false, false, false, false, false, false, false]) (by rfl) (by kernel_rfl) (by kernel_rfl) calm_put hS (by rfl) ?_ ?_
    · intro W hW; clear hW; go_simp; try (with_reducible rfl)
    simp only [Act.put, List.getElem_toArray, List.getElem_cons_succ, List.getElem_cons_zero, List.setIfInBounds_toArray, List.set_cons_zero, List.set_cons_succ]
    refine wpAnyX_take (i := 2) (v := .pointer (some ⟨X, 0, none⟩)) (listed' := #[true, true, true, false, false, false, false, false, false, false, false, false]) (by rfl) (by kernel_rfl) (by kernel_rfl) calm_put hS (by rfl) ?_ ?_
    · intro W hW; clear hW; go_simp; try (with_reducible rfl)
    simp only [Act.put, List.getElem_toArray, List.getElem_cons_succ, List.getElem_cons_zero, List.setIfInBounds_toArray, List.set_cons_zero, List.set_cons_succ]
    refine wpAnyX_take (i := 3) (v := .pointer (some ⟨X, 2, none⟩)) (listed' := #[true, true, true, true, false, false, false, false, false, false, false, false]) (by rfl) (by kernel_rfl) (by kernel_rfl) calm_put hS (by rfl) ?_ ?_
    · intro W hW; clear hW; go_simp; try (with_reducible rfl)
    simp only [Act.put, List.getElem_toArray, List.getElem_cons_succ, List.getElem_cons_zero, List.setIfInBounds_toArray, List.set_cons_zero, List.set_cons_succ]
    refine wpAnyX_take (i := 4) (v := .slice og raw.length cg) (listed' := #[true, true, true, true, true, false, false, false, false, false, false, false]) (by rfl) (by kernel_rfl) (by kernel_rfl) calm_put hS (by rfl) ?_ ?_
    · intro W hW; obtain ⟨c2, y0, y1, y2⟩ := hW; go_simp; try (with_reducible rfl)
    simp only [Act.put, List.getElem_toArray, List.getElem_cons_succ, List.getElem_cons_zero, List.setIfInBounds_toArray, List.set_cons_zero, List.set_cons_succ]
    refine wpAnyX_take (i := 5) (v := .int .i64 (pos : Int)) (listed' := #[true, true, true, true, true, true, false, false, false, false, false, false]) (by rfl) (by kernel_rfl) (by kernel_rfl) calm_put hS (by rfl) ?_ ?_
    · intro W hW; clear hW; go_simp; try (with_reducible rfl)
    simp only [Act.put, List.getElem_toArray, List.getElem_cons_succ, List.getElem_cons_zero, List.setIfInBounds_toArray, List.set_cons_zero, List.set_cons_succ]
    refine wpAnyX_take (i := 6) (v := .agg #[.int .i64 g.id, .int .i64 g.kind, ve2]) (listed' := #[true, true, true, true, true, true, true, false, false, false, false, false]) (by rfl) (by kernel_rfl) (by kernel_rfl) calm_put hS (by rfl) ?_ ?_
    · intro W hW; obtain ⟨c2, y0, y1, y2⟩ := hW; go_simp; try (with_reducible rfl)
    simp only [Act.put, List.getElem_toArray, List.getElem_cons_succ, List.getElem_cons_zero, List.setIfInBounds_toArray, List.set_cons_zero, List.set_cons_succ]
    refine wpAnyX_one (i := 7) (listed' := #[true, true, true, true, true, true, true, true, false, false, false, false]) (by rfl) (by kernel_rfl) (by kernel_rfl) (by rfl) (fun K hK => ?_)
    simp only [Act.put, List.getElem_toArray, List.getElem_cons_succ, List.getElem_cons_zero, List.setIfInBounds_toArray, List.set_cons_zero, List.set_cons_succ]
    generalize w7.drew = wd7 at *
    refine wp_one_agg _ rfl ty_grp (by decide) (grw (g.id, g.kind, ve2)) rfl rfl ?_
    intro w8 hz8 hk8
    have hS : (fun (W : World) => W.cell? ⟨X, 2, none⟩ = some (.slice og raw.length cg) ∧ W.cell? ⟨Y, 0, none⟩ = some (.int .i64 g.id) ∧ W.cell? ⟨Y, 1, none⟩ = some (.int .i64 g.kind) ∧ W.cell? ⟨Y, 2, none⟩ = some ve2) _ := ⟨hk8.cell' hS.1, hk8.cell' hS.2.1, hk8.cell' hS.2.2.1, hk8.cell' hS.2.2.2⟩
    refine hK _ _ (fun _ => hS) ?_; clear hK K
    obtain ⟨VB, hVB⟩ : ∃ b, b = wd7.heap.size := ⟨_, rfl⟩
    rw [← hVB] at hz8 ⊢
    have HK8 := Lib.hid (HK7d.out.trans hk8)
    have HVB := Lib.hid (show b4 ≤ VB by have := HSZ7.out; omega)
    have HX8 := Lib.hid (hk8.block HX7d.out)
    have HEX8 := Lib.hid (fun W hb => HEX7.out W ((But.kept hk8).trans hb))
    clear hk8 hVB
    refine wpAnyX_one (i := 8) (listed' := #[true, true, true, true, true, true, true, true, true, false, false, false]) (by rfl) (by kernel_rfl) (by kernel_rfl) (by rfl) (fun K hK => ?_)
    simp only [Act.put, List.getElem_toArray, List.getElem_cons_succ, List.getElem_cons_zero, List.setIfInBounds_toArray, List.set_cons_zero, List.set_cons_succ]
    go_wp2_with fail
    refine Calls.mono (HIN.out w8 b1 b2 _ VB (g.id, g.kind, ve2) (HO.out.g.kept HK8.out) hz8.out (.inr (by have := HVB.out; omega)) HVE.out (by have := HK8.out.size; omega)) ?_
    rintro e w9 ⟨v9, rfl, ho9, hb9⟩
    obtain ⟨o9, k9, hv9⟩ := ho9.form
    have HV9 := Lib.hid (slice_one hv9)
    have HO9 := Lib.hid ho9
    have HB9 := Lib.hid hb9
    have hX9 := hb9.blk (k := X) (by show ¬ (b1 ≤ X ∧ X < b2); omega) HX8.out
    have HX9 := Lib.hid hX9
    have hS : (fun (W : World) => W.cell? ⟨X, 2, none⟩ = some (.slice og raw.length cg) ∧ W.cell? ⟨Y, 0, none⟩ = some (.int .i64 g.id) ∧ W.cell? ⟨Y, 1, none⟩ = some (.int .i64 g.kind) ∧ W.cell? ⟨Y, 2, none⟩ = some ve2) _ := ⟨hb9.cell (by show ¬ (b1 ≤ X ∧ X < b2); omega) hS.1, hb9.cell (by show ¬ (b1 ≤ Y ∧ Y < b2); omega) hS.2.1, hb9.cell (by show ¬ (b1 ≤ Y ∧ Y < b2); omega) hS.2.2.1, hb9.cell (by show ¬ (b1 ≤ Y ∧ Y < b2); omega) hS.2.2.2⟩
    refine hK _ _ (fun _ => hS) ?_; clear hK K
    clear ho9 hb9 hX9 hv9
    refine wpAnyX_one (i := 9) (listed' := #[true, true, true, true, true, true, true, true, true, true, false, false]) (by rfl) (by kernel_rfl) (by kernel_rfl) (by rfl) (fun K hK => ?_)
    simp only [Act.put, List.getElem_toArray, List.getElem_cons_succ, List.getElem_cons_zero, List.setIfInBounds_toArray, List.set_cons_zero, List.set_cons_succ]
    go_wp2
    refine hK _ _ (fun h => by simp at h) ?_; clear hK K
    refine wpAnyX_one (i := 10) (listed' := #[true, true, true, true, true, true, true, true, true, true, true, false]) (by rfl) (by kernel_rfl) (by kernel_rfl) (by rfl) (fun K hK => ?_)
    simp only [Act.put, List.getElem_toArray, List.getElem_cons_succ, List.getElem_cons_zero, List.setIfInBounds_toArray, List.set_cons_zero, List.set_cons_succ]
    go_wp2
    refine hK _ _ (fun h => by simp at h) ?_; clear hK K
    refine wpAnyX_one (i := 11) (listed' := #[true, true, true, true, true, true, true, true, true, true, true, true]) (by rfl) (by kernel_rfl) (by kernel_rfl) (by rfl) (fun K hK => ?_)
    simp only [Act.put, List.getElem_toArray, List.getElem_cons_succ, List.getElem_cons_zero, List.setIfInBounds_toArray, List.set_cons_zero, List.set_cons_succ]
    refine wp_set_cell _ _ rfl size_grpsT X 2 rfl v9 rfl HV9.out.1 HV9.out.2 (stC s sm (.slice og raw.length cg) sp (.slice od s.dirty.length cd)) _ HX9.out (by rw [HL.out]; decide) ?_
    intro w10 hw10
    refine hK _ _ (fun h => by simp at h) ?_; clear hK K
    refine wpAnyX_done (by kernel_rfl) ?_ _
    refine calm_normal ?_
    rw [stC_set2 s (makeAt s pos g) sm _ sp _ _ rfl rfl] at hw10
    have HW10 := Lib.hid hw10.blk
    have hb10 : But (fun k => k = X) w9 w10 := But.wrote hw10 rfl
    have HALL : Hid (But (fun k => k = X ∨ (base ≤ k ∧ k < b4)) w w10) := Lib.hid (((But.kept (S := fun k => k = X ∨ (base ≤ k ∧ k < b4)) HK8.out).trans (HB9.out.mono fun k hk => by omega)).trans (hb10.mono fun k hk => by omega))
    have h := HO.out
    have hrl := (h.ext w (But.refl _ _)).len
    have HST : Hid (∀ W', But (fun k => b0 ≤ k ∧ k < base) w10 W' → StM W' (makeAt s pos g) sm v9 sp (.slice od s.dirty.length cd) (raw.take pos ++ (g.id, g.kind, ve2) :: raw.drop pos)) := Lib.hid fun W' hbW =>
      { ms := ((((h.m.kept HK8.out).but HB9.out (fun k hk => .inr (by omega))).but hb10 (fun k hk => .inl (by omega))).but hbW (fun k hk => .inl (by omega))).rsl trip_len
        gs := ((HO9.out.but hb10 (fun k hk => .inl (by omega))).but hbW (fun k hk => .inl (by omega))).rsl grw_len
        rel := GRels.insert (h.ext W' ((HALL.out.mono fun k hk => by omega).trans (hbW.mono fun k hk => by omega))) pos ⟨rfl, rfl, HEX8.out W' (((HB9.out.mono fun k hk => by omega).trans (hb10.mono fun k hk => by omega)).trans (hbW.mono fun k hk => by omega)), hfew⟩ hp
        mp := ((((h.p.kept HK8.out).but HB9.out (fun k hk => .inl (by omega))).but hb10 (fun k hk => .inl (by omega))).but hbW (fun k hk => .inl (by omega))).rsl trip_len
        dirty := ((((h.d.kept HK8.out).but HB9.out (fun k hk => .inl (by omega))).but hb10 (fun k hk => .inl (by omega))).but hbW (fun k hk => .inl (by omega))).rsl oneV_len
        plug := h.plug
        lms := h.lms
        lgs := by show (s.gs.take pos ++ g :: s.gs.drop pos).length ≤ 4096; simp; omega
        lmp := h.lmp
        ldi := h.ldi }
    clear hw10 hb10 hS
    go_wp2
    go_ret
    exact ⟨rfl, ⟨_, _, _, _, _, HW10.out, HST.out⟩, HALL.out⟩
end Go.Proofs.YtiijfocdjcjlaaaGreat
/- slices.Insert at the end, BinarySearchFunc of nothing; state.step at a made group. -/
namespace Go.Proofs.YtiijfocdjcjlaaaGreat
open Go.RowKit Go.ChangeMaps Go.MapKept
set_option linter.unusedVariables false
set_option linter.unusedSimpArgs false
set_option maxRecDepth 100000
set_option maxHeartbeats 1000000
theorem grw_one {y : Gw} (h : y.2.2.oneCell' = true) : ∀ u ∈ grw y, u.oneCell' = true := by
  intro u hu
  simp only [grw, List.mem_cons, List.not_mem_nil, or_false] at hu
  rcases hu with rfl | rfl | rfl
  · rfl
  · rfl
  · exact h
theorem own_of_row {α : Type} {enc : α → List Value} {n E lo : Nat} {W : World} {v : Value} {l : List α} (h : W.ownsRow lo E n v l.length (l.flatMap enc)) (h0 : 0 < l.length) : Own E enc n W lo W.heap.size v l := by
  rcases owns_form h with ⟨_, h1, _⟩ | ⟨g, cap, rfl, hg, hgl, _, _⟩
  · omega
  · exact .inl ⟨g, cap, rfl, hg, hgl, h⟩
theorem ins_end (raw : List Gw) (hlen : raw.length ≤ 4096) : InsP raw raw.length := by
  intro W lo hi v vb y hO hvb hne hy hlo
  have HSRC := Lib.hid (Src.of_cells (Cells.of_block hvb) (show (grw y).length = 1 * 3 by rw [grw_len]) (Nat.le_refl 1))
  have HY := Lib.hid (grw_one hy)
  have hrow : raw.flatMap grw ++ grw y = (raw ++ [y]).flatMap grw := by simp [List.flatMap_append]
  have HROW := Lib.hid hrow
  have HPOS := Lib.hid (show raw.take raw.length ++ y :: raw.drop raw.length = raw ++ [y] by simp)
  clear hvb hne hrow
  rcases hO with ⟨g, cap, rfl, h1, h2, ho⟩ | ⟨h0, ao, rfl⟩
  · have hcap : raw.length ≤ cap := by
      rcases ho.2 with ⟨h, _⟩ | ⟨g', c', cur, h, _, _, hn, _⟩
      · cases h
      · cases h; exact hn
    have hn0 : (0 : Int) ≤ (raw.length : Int) := by omega
    rcases Nat.eq_or_lt_of_le hcap with hc | hc
    · subst hc
      have HO := Lib.hid ho; clear ho
      go_enter Tryz.func113, Tryz.ntmps113
      go_wp2_with (at_builtin; refine stop_at ?_)
      refine Stop.mk ?_
      refine wpList_append_app _ rfl _ _ rfl ty_grp lo (.slice (some ⟨g, 0, none⟩) raw.length raw.length) raw.length (raw.flatMap grw) rfl (.inl HO.out) _ 1 (grw y) rfl HSRC.out HY.out (by unfold maxLen; omega) (by omega) hlo ?_
      intro v' W' _ hg hb hown
      have ho' := hown (.inl (by omega))
      rw [HROW.out, show raw.length + 1 = (raw ++ [y]).length by simp] at ho'
      have HOWN := Lib.hid (own_of_row ho' (by simp))
      have HBUT := Lib.hid ((But.refl (fun k => lo ≤ k ∧ k < hi) W).grown hg (fun k hk => .inl (by simp [Value.ownBlock] at hk; omega)))
      clear hg hb hown ho'
      go_wp2
      go_ret
      exact ⟨_, rfl, by rw [HPOS.out]; exact HOWN.out, HBUT.out⟩
    · have hcn : ¬ cap = raw.length := by omega
      have HO := Lib.hid ho; clear ho
      go_enter Tryz.func113, Tryz.ntmps113
      go_wp2_with (at_builtin; refine stop_at ?_)
      refine Stop.mk ?_
      refine wpList_append_app _ rfl _ _ rfl ty_grp lo (.slice (some ⟨g, 0, none⟩) raw.length cap) raw.length (raw.flatMap grw) rfl (.inl HO.out) _ 1 (grw y) rfl HSRC.out HY.out (by unfold maxLen; omega) (by omega) hlo ?_
      intro v' W' _ hg hb hown
      have ho' := hown (.inl (by omega))
      rw [HROW.out, show raw.length + 1 = (raw ++ [y]).length by simp] at ho'
      have HOWN := Lib.hid (own_of_row ho' (by simp))
      have HBUT := Lib.hid ((But.refl (fun k => lo ≤ k ∧ k < hi) W).grown hg (fun k hk => .inl (by simp [Value.ownBlock] at hk; omega)))
      clear hg hb hown ho'
      go_wp2
      go_ret
      exact ⟨_, rfl, by rw [HPOS.out]; exact HOWN.out, HBUT.out⟩
  · subst h0
    have hk0 : Kept W W := Kept.refl _
    have happ : App W W.heap.size 37 3 (.slice ao 0 0) 0 (([] : List Gw).flatMap grw) := .inr ⟨by simp, ao, rfl, fun _ => rfl, fun b hb j u hu => by simp at hu⟩
    have HA := Lib.hid happ
    clear happ hk0
    cases ao with
    | none =>
      go_enter Tryz.func113, Tryz.ntmps113
      go_wp2_with (at_builtin; refine stop_at ?_)
      refine Stop.mk ?_
      refine wpList_append_app _ rfl _ _ rfl ty_grp W.heap.size (.slice none 0 0) 0 (([] : List Gw).flatMap grw) rfl HA.out _ 1 (grw y) rfl HSRC.out HY.out (by unfold maxLen; omega) (by omega) (Nat.le_refl _) ?_
      intro v' W' _ hg hb hown
      have ho' := hown (.inl (by omega))
      have ho2 : W'.ownsRow W.heap.size 37 3 v' ([y] : List Gw).length (([y] : List Gw).flatMap grw) := by simpa using ho'
      have HOWN := Lib.hid (own_of_row (ownsRow_base ho2 hlo) (by simp))
      have HBUT : Hid (But (fun k => lo ≤ k ∧ k < hi) W W') := Lib.hid (But.kept hb)
      clear hg hb hown ho' ho2
      go_wp2
      go_ret
      exact ⟨_, rfl, by simpa using HOWN.out, HBUT.out⟩
    | some a =>
      go_enter Tryz.func113, Tryz.ntmps113
      go_wp2_with (at_builtin; refine stop_at ?_)
      refine Stop.mk ?_
      refine wpList_append_app _ rfl _ _ rfl ty_grp W.heap.size (.slice (some a) 0 0) 0 (([] : List Gw).flatMap grw) rfl HA.out _ 1 (grw y) rfl HSRC.out HY.out (by unfold maxLen; omega) (by omega) (Nat.le_refl _) ?_
      intro v' W' _ hg hb hown
      have ho' := hown (.inl (by omega))
      have ho2 : W'.ownsRow W.heap.size 37 3 v' ([y] : List Gw).length (([y] : List Gw).flatMap grw) := by simpa using ho'
      have HOWN := Lib.hid (own_of_row (ownsRow_base ho2 hlo) (by simp))
      have HBUT : Hid (But (fun k => lo ≤ k ∧ k < hi) W W') := Lib.hid (But.kept hb)
      clear hg hb hown ho' ho2
      go_wp2
      go_ret
      exact ⟨_, rfl, by simpa using HOWN.out, HBUT.out⟩
theorem find_empty (id : Int) : FindP [] id 0 false := by
  intro W v hm
  obtain ⟨oa, cap, rfl, _⟩ := hm.form
  clear hm
  go_enter Tryz.func111, Tryz.ntmps111
  go_wp2
  go_loopw [9, 10] (fun i j wr => i = .int .i64 0 ∧ j = .int .i64 0 ∧ W = wr) (fun _ _ _ => 0)
  case atStart => exact ⟨rfl, rfl, rfl⟩
  case round =>
    obtain ⟨rfl, rfl, rfl⟩ := hrel
    go_wp2
    go_ret2
    exact ⟨rfl, Kept.refl _⟩
theorem step_make (s : St) (x : Gw) (g : Grp) (pos : Nat) (f : Bool) (wx : World) (hx : GRel wx x g) (hlg : s.gs.length ≤ 4000) (hp : pos ≤ s.gs.length) (hF : ∀ raw : List Gw, raw.map (fun x => x.1) = s.gs.map (·.id) → FindP raw g.id pos f) (hI : ∀ raw : List Gw, raw.length = s.gs.length → InsP raw pos) :
    StepC wx (rcMake x) s (if f then 9 else 0) (makeAt s pos g) := by
  intro X b0 base b1 b2 b3 b4 sm sg sp sd raw w hkx hxb hO hX0 hX1 hX
  have hrel := hO.ext w (But.refl _ _)
  have hd := fun (W : World) (hk : Kept w W) => st_doMake s X b0 base b1 b2 b3 b4 sm sg sp sd raw x g pos f wx W (hkx.trans hk) hx
    ⟨hO.le0, hO.le1, hO.le2, hO.le3, hO.le4, Nat.le_trans hO.le5 hk.size, hO.m.kept hk, hO.g.kept hk, hO.p.kept hk, hO.d.kept hk, fun W' hb => hO.ext W' ((But.kept hk).trans hb), hO.plug, hO.lms, hO.lgs, hO.lmp, hO.ldi⟩ hX0 hX1 hxb (hk.block hX) (hF raw hrel.ids) (hI raw hrel.len) (by rw [hrel.len]; exact hp) hlg
  have HD := Lib.hid hd; clear hd hO hX hrel hF hI
  go_enter Tryz.func37, Tryz.ntmps37
  go_wp2_with (refine stop_at (o := ⟨some 3, _, _, _, _, _⟩) ?_)
  refine Stop.mk ?_
  refine wpList_box_rowS rfl _ _ rfl (rcMake x) rfl ?_
  intro w1 hz1 hs1 hk1
  obtain ⟨rb, hrb⟩ : ∃ rb, rb = w.heap.size := ⟨_, rfl⟩
  rw [← hrb] at hz1 ⊢
  have c0 : w1.cell? ⟨rb, 0, none⟩ = some (.int .i64 2) := (Cells.of_block hz1.out) 0 (by show 0 < 142; decide)
  have HC := Lib.hid (Cells.of_block hz1.out : Cells w1 rb 0 (rcMake x))
  have HK1 := Lib.hid hk1
  clear hz1 hs1 hk1 hrb
  go_wp2_with (refine stop_at (o := ⟨some 15, _, _, _, _, _⟩) ?_)
  refine Stop.mk ?_
  refine wpList_load_agg rfl _ rfl agT_rec rb 0 rfl _ HC.out (rcv_len _ _ _ _ _ _ _ _ _ _ _) ?_
  go_wp2_with fail
  refine Calls.mono (HD.out w1 HK1.out) ?_
  rintro e w2 ⟨rfl, hs, hb⟩
  have HB := Lib.hid ((But.kept (S := fun k => k = X ∨ (base ≤ k ∧ k < b4)) HK1.out).trans hb)
  have HS := Lib.hid hs
  clear hs hb
  cases f with
  | true =>
    go_wp2
    go_ret
    exact ⟨rfl, HB.out⟩
  | false =>
    go_wp2
    go_ret
    exact ⟨rfl, HS.out trivial, HB.out⟩
end Go.Proofs.YtiijfocdjcjlaaaGreat
