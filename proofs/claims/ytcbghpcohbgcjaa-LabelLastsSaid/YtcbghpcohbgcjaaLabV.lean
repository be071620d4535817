/- LabV: several texts in one. -/
import Derived.Test.YtcbghpcohbgcjaaLabE
import Derived.Test.YtcbghpcohbgcjaaMja
import Derived.Test.YtcbghpcohbgcjaaRkb
import Derived.Great.BuildSlice
import Derived.Deep.QuietTactic
import Derived.BigQuiet
import Derived.Deep.DeepCutAuto
import Derived.Test.YtcbghpcohbgcjaaLabD
import Derived.Test.YtcbghpcohbgcjaaRke
/- label.Load's newest: slices.MaxFunc over one or two labels (gen_load.py). -/
namespace Go.Proofs.Ytcbghpcohbgcjaa
open Go.RowKit
set_option linter.unusedVariables false
set_option linter.unusedSimpArgs false

theorem exec_load_labO {W : World} {a : Act} {o : Oper} (x : Operand) (ho : o.op = .load 71 x) (b off : Nat) (hx : a.eval x = .pointer (some ⟨b, off, none⟩)) (l : Lab) (sl : Value) (hc : Cells W b off (Lab.vals l sl)) :
    (execOp a.eval o).run Try.prog W = .ok (.value (.agg (Lab.vals l sl).toArray)) W := by
  obtain ⟨⟨d, hd1, hd2⟩, hs⟩ := ty_lab
  unfold execOp
  simp only [ho, hx, Instr.loadAt, Instr.sureAddr, Sem.run_bind, Sem.run_pure, Result.andThen_ok, run_loadVar_mid W b off 71 (Lab.vals l sl) d (rangeAt_of_cells hc) hd1 hd2 (by rw [hs]; rfl)]
section
set_option maxHeartbeats 2000000
set_option maxRecDepth 100000
theorem label_less (l k : Lab) (s t : Value) (hs : s.oneCell' = true) (ht : t.oneCell' = true) (w : World) (hl : 0 ≤ l.gen ∧ l.gen < 4294967296) (hk : 0 ≤ k.gen ∧ k.gen < 4294967296) :
    Calls Try.prog 83 #[l.val s, k.val t] w fun e w' => e = .returned (.int .i64 (l.gen - k.gen)) ∧ Kept w w' := by
  obtain ⟨a1, g1, m1, b1, ms1⟩ := l
  obtain ⟨a2, g2, m2, b2, ms2⟩ := k
  obtain ⟨hl1, hl2⟩ := hl
  obtain ⟨hk1, hk2⟩ := hk
  simp only [Lab.val] at *
  go_enter Try.func83, Try.ntmps83
  go_wp2_with (refine stop_at (o := ⟨some 2, _, _, _, _, _⟩) ?_)
  refine Stop.mk ?_
  refine wpList_box_row rfl _ _ rfl [.int .i64 a1, .int .i64 g1, .int .i64 m1, .int .i64 b1, s] rfl ?_
  intro w1 hz1 hs1 hk1'
  have p1 : w1.cell? ⟨w.heap.size, 1, none⟩ = some (.int .i64 g1) := cell_of_row _ _ 1 _ _ _ hz1.out
  generalize w.heap.size = X at *
  clear hz1 hs1
  go_wp2_with (refine stop_at (o := ⟨some 3, _, _, _, _, _⟩) ?_)
  refine Stop.mk ?_
  refine wpList_box_row rfl _ _ rfl [.int .i64 a2, .int .i64 g2, .int .i64 m2, .int .i64 b2, t] rfl ?_
  intro w2 hz2 hs2 hk2'
  have q1 : w2.cell? ⟨w1.heap.size, 1, none⟩ = some (.int .i64 g2) := cell_of_row _ _ 1 _ _ _ hz2.out
  replace p1 := hk2'.cell' p1
  have HK := Lib.hid (hk1'.trans hk2')
  generalize w1.heap.size = Y at *
  clear hz2 hs2 hk1' hk2'
  go_wp2
  go_ret
  exact ⟨rfl, HK.out⟩
theorem max_one (l : Lab) (sl : Value) (hs : sl.oneCell' = true) (b off cap : Nat) (w : World) (hc : Cells w b off (Lab.vals l sl)) :
    Calls Try.prog 82 #[.slice (some ⟨b, off, none⟩) 1 cap, .func (.func 83) #[] #[]] w fun e w' => e = .returned (l.val sl) ∧ Kept w w' := by
  have HC := Lib.hid hc
  have HO := Lib.hid hs
  clear hc hs
  go_enter Try.func82, Try.ntmps82
  go_wp2_with (refine stop_at (o := ⟨some 4, _, _, _, _, _⟩) ?_)
  refine Stop.mk ?_
  refine wpList_alloc_abs rfl 71 rfl [.int .i64 0, .int .i64 0, .int .i64 0, .int .i64 0, .slice none 0 0] zero_lab ?_
  intro w1 hz1 hs1 hn1 hk1
  have HR1 := hz1
  have HK1 := Lib.hid hk1
  have HLT : Hid (w.heap.size ≤ w.heap.size) := Lib.hid (Nat.le_refl _)
  generalize hR : w.heap.size = Rb at *
  clear hz1 hs1 hn1 hk1
  go_wp2_with (refine stop_at (o := ⟨some 13, _, _, _, _, _⟩) ?_)
  refine Stop.mk ?_
  refine wpList_load_agg rfl _ rfl ty_lab b off (by first | rfl | simp) (Lab.vals l sl) (Cells.kept HC.out HK1.out) rfl ?_
  go_wp2_with (refine stop_at (o := ⟨some 5, _, _, _, _, _⟩) ?_)
  refine Stop.mk ?_
  refine wpList_new_row rfl rfl _ _ rfl rfl ty_lab [.int .i64 0, .int .i64 0, .int .i64 0, .int .i64 0, .slice none 0 0] zero_lab rfl (Lab.vals l sl) rfl rfl (lab_one _ _ HO.out) rfl ?_
  intro w2 hz2 hs2 hk2
  have HM2 := hz2
  have HR2 := Lib.hid (hk2.block HR1.out)
  have HK2 := Lib.hid (HK1.out.trans hk2)
  generalize w1.heap.size = M at *
  clear hz2 hs2 hk2 HR1 HK1
  go_wp2
  refine wp_loop_rounds 1 ?_
  rw [rounds_succ]
  go_wp2_with (refine stop_at (o := ⟨some 32, _, _, _, _, _⟩) ?_)
  refine Stop.mk ?_
  refine wpList_load_agg rfl _ rfl ty_lab M 0 rfl (Lab.vals l sl) (by simpa using Cells.of_block HM2.out) rfl ?_
  go_wp2_with (refine stop_at (o := ⟨none, .store _ _ _, _, _, _, _⟩) ?_)
  refine Stop.mk ?_
  refine wpList_store_agg rfl _ _ rfl ty_lab Rb 0 rfl (Lab.vals l sl) rfl rfl (lab_one _ _ HO.out) _ _ HR2.out (by decide) ?_
  intro w3 hw3
  replace hw3 := hw3.all rfl
  go_wp2
  refine bodyPost_ret (results_lab1 rfl _ _ Rb l sl rfl hw3.cells) rfl ?_
  exact ⟨rfl, hw3.kept HK2.out (by omega)⟩
theorem max_two (l k : Lab) (sl sk : Value) (hs : sl.oneCell' = true) (hs2 : sk.oneCell' = true) (hl : 0 ≤ l.gen ∧ l.gen < 4294967296) (hk : 0 ≤ k.gen ∧ k.gen < 4294967296) (b off cap : Nat) (w : World) (hc : Cells w b off (Lab.vals l sl)) (hc2 : Cells w b (off + 1 * 5) (Lab.vals k sk)) :
    Calls Try.prog 82 #[.slice (some ⟨b, off, none⟩) 2 cap, .func (.func 83) #[] #[]] w fun e w' => e = .returned (if l.gen < k.gen then k.val sk else l.val sl) ∧ Kept w w' := by
  have HC := Lib.hid hc
  have HO := Lib.hid hs
  have HC2 := Lib.hid hc2
  have HO2 := Lib.hid hs2
  have HG := Lib.hid hl
  have HG2 := Lib.hid hk
  have HLS := Lib.hid (fun W => label_less k l sk sl hs2 hs W hk hl)
  clear hc hs hc2 hs2 hl hk
  go_enter Try.func82, Try.ntmps82
  go_wp2_with (refine stop_at (o := ⟨some 4, _, _, _, _, _⟩) ?_)
  refine Stop.mk ?_
  refine wpList_alloc_abs rfl 71 rfl [.int .i64 0, .int .i64 0, .int .i64 0, .int .i64 0, .slice none 0 0] zero_lab ?_
  intro w1 hz1 hs1 hn1 hk1
  have HR1 := hz1
  have HK1 := Lib.hid hk1
  have HLT : Hid (w.heap.size ≤ w.heap.size) := Lib.hid (Nat.le_refl _)
  have HS1 := Lib.hid hs1
  generalize hR : w.heap.size = Rb at *
  clear hz1 hs1 hn1 hk1
  go_wp2_with (refine stop_at (o := ⟨some 13, _, _, _, _, _⟩) ?_)
  refine Stop.mk ?_
  refine wpList_load_agg rfl _ rfl ty_lab b off (by first | rfl | simp) (Lab.vals l sl) (Cells.kept HC.out HK1.out) rfl ?_
  go_wp2_with (refine stop_at (o := ⟨some 5, _, _, _, _, _⟩) ?_)
  refine Stop.mk ?_
  refine wpList_new_row rfl rfl _ _ rfl rfl ty_lab [.int .i64 0, .int .i64 0, .int .i64 0, .int .i64 0, .slice none 0 0] zero_lab rfl (Lab.vals l sl) rfl rfl (lab_one _ _ HO.out) rfl ?_
  intro w2 hz2 hs2 hk2
  have HM2 := hz2
  have HR2 := Lib.hid (hk2.block HR1.out)
  have HK2 := Lib.hid (HK1.out.trans hk2)
  have HNE : Hid (Rb ≠ w1.heap.size) := Lib.hid (by have := HS1.out; omega)
  have HMW : Hid (w.heap.size ≤ w1.heap.size) := Lib.hid HK1.out.size
  generalize w1.heap.size = M at *
  clear hz2 hs2 hk2 HR1 HK1
  go_wp2
  refine wp_loop_rounds 2 ?_
  rw [rounds_succ]
  go_upto_region 7 with fail
  have hS : Cells w2.drew b (off + 1 * 5) (Lab.vals k sk) ∧ Cells w2.drew M 0 (Lab.vals l sl) ∧ Hid (Kept w2 w2.drew) := ⟨Cells.kept HC2.out (HK2.out.trans (Kept.refl _).drew), by simpa using Cells.of_block ((Kept.refl _).drew.block HM2.out), Lib.hid (Kept.refl _).drew⟩
  refine wp_region_calm ?_
  refine wp_region_E (fun W => Cells W b (off + 1 * 5) (Lab.vals k sk) ∧ Cells W M 0 (Lab.vals l sl) ∧ Hid (Kept w2 W)) 100 (by kernel_rfl) ?_
  refine wpAnyE_take (i := 0) (v := ?_) (listed' := #[true, false, false, false, false, false, false, false]) (by rfl) (by kernel_rfl) (by kernel_rfl) calm_put hS (by rfl) ?_ ?_
  rotate_left
  · intro W hW; clear hW; go_simp; try (with_reducible rfl)
  simp only [Act.put, List.getElem_toArray, List.getElem_cons_succ, List.getElem_cons_zero, List.setIfInBounds_toArray, List.set_cons_zero, List.set_cons_succ]
  refine wpAnyE_take (i := 1) (v := ?_) (listed' := #[true, true, false, false, false, false, false, false]) (by rfl) (by kernel_rfl) (by kernel_rfl) calm_put hS (by rfl) ?_ ?_
  rotate_left
  · intro W hW; clear hW; go_simp; try (with_reducible rfl)
  simp only [Act.put, List.getElem_toArray, List.getElem_cons_succ, List.getElem_cons_zero, List.setIfInBounds_toArray, List.set_cons_zero, List.set_cons_succ]
  refine wpAnyE_take (i := 2) (v := ?_) (listed' := #[true, true, true, false, false, false, false, false]) (by rfl) (by kernel_rfl) (by kernel_rfl) calm_put hS (by rfl) ?_ ?_
  rotate_left
  · intro W hW; clear hW; go_simp; try (with_reducible rfl)
  simp only [Act.put, List.getElem_toArray, List.getElem_cons_succ, List.getElem_cons_zero, List.setIfInBounds_toArray, List.set_cons_zero, List.set_cons_succ]
  refine wpAnyE_take (i := 3) (v := ?_) (listed' := #[true, true, true, true, false, false, false, false]) (by rfl) (by kernel_rfl) (by kernel_rfl) calm_put hS (by rfl) ?_ ?_
  rotate_left
  · intro W hW; clear hW; go_simp; try (with_reducible rfl)
  simp only [Act.put, List.getElem_toArray, List.getElem_cons_succ, List.getElem_cons_zero, List.setIfInBounds_toArray, List.set_cons_zero, List.set_cons_succ]
  refine wpAnyE_take (i := 4) (v := .agg (Lab.vals k sk).toArray) (listed' := #[true, true, true, true, true, false, false, false]) (by rfl) (by kernel_rfl) (by kernel_rfl) calm_put hS (by rfl) ?_ ?_
  · intro W hW; skip; exact exec_load_labO _ rfl b (off + 1 * 5) rfl k sk hW.1
  simp only [Act.put, List.getElem_toArray, List.getElem_cons_succ, List.getElem_cons_zero, List.setIfInBounds_toArray, List.set_cons_zero, List.set_cons_succ]
  refine wpAnyE_take (i := 5) (v := .agg (Lab.vals l sl).toArray) (listed' := #[true, true, true, true, true, true, false, false]) (by rfl) (by kernel_rfl) (by kernel_rfl) calm_put hS (by rfl) ?_ ?_
  · intro W hW; skip; exact exec_load_labO _ rfl M 0 rfl l sl hW.2.1
  simp only [Act.put, List.getElem_toArray, List.getElem_cons_succ, List.getElem_cons_zero, List.setIfInBounds_toArray, List.set_cons_zero, List.set_cons_succ]
  refine wpAnyE_one (i := 6) (listed' := #[true, true, true, true, true, true, true, false]) (by rfl) (by kernel_rfl) (by kernel_rfl) (by rfl) (fun K hK => ?_)
  simp only [Act.put, List.getElem_toArray, List.getElem_cons_succ, List.getElem_cons_zero, List.setIfInBounds_toArray, List.set_cons_zero, List.set_cons_succ]
  go_wp2_with fail
  refine Calls.mono (HLS.out _) ?_
  rintro e w3 ⟨rfl, hk3⟩
  have hS3 := (⟨Cells.kept hS.1 hk3, Cells.kept hS.2.1 hk3, Lib.hid (hS.2.2.out.trans hk3)⟩ : _ ∧ _ ∧ _)
  clear hS hk3
  have hS := hS3
  clear hS3
  refine hK _ _ (fun _ => hS) ?_; clear hK K
  refine wpAnyE_take (i := 7) (v := ?_) (listed' := #[true, true, true, true, true, true, true, true]) (by rfl) (by kernel_rfl) (by kernel_rfl) calm_put hS (by rfl) ?_ ?_
  rotate_left
  · intro W hW; clear hW; go_simp; try (with_reducible rfl)
  simp only [Act.put, List.getElem_toArray, List.getElem_cons_succ, List.getElem_cons_zero, List.setIfInBounds_toArray, List.set_cons_zero, List.set_cons_succ]
  refine wpAnyE_done (by kernel_rfl) ?_ _
  refine calm_normal ?_
  have HM3 := Lib.hid (hS.2.2.out.block HM2.out)
  have HR3 := Lib.hid (hS.2.2.out.block HR2.out)
  have HK3 := Lib.hid (HK2.out.trans hS.2.2.out)
  have HC3 := Lib.hid hS.1
  clear hS HM2 HR2 HK2 HLS
  by_cases hlt : l.gen < k.gen
  · have hd : 0 < k.gen - l.gen := by omega
    go_wp2_with (refine stop_at (o := ⟨some 31, _, _, _, _, _⟩) ?_)
    refine Stop.mk ?_
    refine wpList_load_agg rfl _ rfl ty_lab b (off + 1 * 5) (by first | rfl | simp) (Lab.vals k sk) HC3.out rfl ?_
    go_wp2_with (refine stop_at (o := ⟨none, .store _ _ _, _, _, _, _⟩) ?_)
    refine Stop.mk ?_
    refine wpList_store_agg rfl _ _ rfl ty_lab M 0 rfl (Lab.vals k sk) rfl rfl (lab_one _ _ HO2.out) _ _ HM3.out (by show 0 + 5 ≤ 5; decide) ?_
    intro w4 hw4
    replace hw4 := hw4.all rfl
    have HM4 := Lib.hid hw4.blk
    have HR4 := Lib.hid ((hw4.oth Rb HNE.out).trans HR3.out)
    have HK4 := Lib.hid (hw4.kept HK3.out HMW.out)
    clear hw4 HM3 HR3 HK3 HC3
    go_wp2
    rw [rounds_succ]
    go_wp2_with (refine stop_at (o := ⟨some 32, _, _, _, _, _⟩) ?_)
    refine Stop.mk ?_
    refine wpList_load_agg rfl _ rfl ty_lab M 0 rfl (Lab.vals k sk) (by simpa using Cells.of_block HM4.out) rfl ?_
    go_wp2_with (refine stop_at (o := ⟨none, .store _ _ _, _, _, _, _⟩) ?_)
    refine Stop.mk ?_
    refine wpList_store_agg rfl _ _ rfl ty_lab Rb 0 rfl (Lab.vals k sk) rfl rfl (lab_one _ _ HO2.out) _ _ HR4.out (by decide) ?_
    intro w3 hw3
    replace hw3 := hw3.all rfl
    go_wp2
    refine bodyPost_ret (results_lab1 rfl _ _ Rb k sk rfl hw3.cells) rfl ?_
    exact ⟨rfl, hw3.kept HK4.out (by omega)⟩
  · have hd : ¬ 0 < k.gen - l.gen := by omega
    go_wp2
    rw [rounds_succ]
    go_wp2_with (refine stop_at (o := ⟨some 32, _, _, _, _, _⟩) ?_)
    refine Stop.mk ?_
    refine wpList_load_agg rfl _ rfl ty_lab M 0 rfl (Lab.vals l sl) (by simpa using Cells.of_block HM3.out) rfl ?_
    go_wp2_with (refine stop_at (o := ⟨none, .store _ _ _, _, _, _, _⟩) ?_)
    refine Stop.mk ?_
    refine wpList_store_agg rfl _ _ rfl ty_lab Rb 0 rfl (Lab.vals l sl) rfl rfl (lab_one _ _ HO.out) _ _ HR3.out (by decide) ?_
    intro w3 hw3
    replace hw3 := hw3.all rfl
    go_wp2
    refine bodyPost_ret (results_lab1 rfl _ _ Rb l sl rfl hw3.cells) rfl ?_
    exact ⟨rfl, hw3.kept HK3.out (by omega)⟩
end
end Go.Proofs.Ytcbghpcohbgcjaa
/- label.Load on a law's bank. -/
namespace Go.Proofs.Ytcbghpcohbgcjaa
open Go.RowKit
set_option linter.unusedVariables false
set_option linter.unusedSimpArgs false

theorem lab_info : (Try.prog.info? 71).map (fun i => (i.zero, i.size, i.bytes)) = some (some (.agg #[.int .i64 0, .int .i64 0, .int .i64 0, .int .i64 0, .slice none 0 0]), 5, 56) := by kernel_rfl
theorem ty_labs : ElemT Try.prog 92 71 5 56 := by
  refine ⟨Try.underlying92, ?_, by decide⟩
  have h1 := lab_info
  cases hi : Try.prog.info? 71 with
  | none => simp [hi] at h1
  | some i =>
    simp only [hi, Option.map_some, Option.some.injEq, Prod.mk.injEq] at h1
    exact ⟨i, _, rfl, h1.1, h1.2.1, h1.2.2, by decide⟩
theorem build_lab (W : World) : (Instr.build 71 #[]).run Try.prog W = .ok (Lab.zero.val (.slice none 0 0)) W := run_build W 71 #[] (Lab.vals Lab.zero (.slice none 0 0)).toArray (by kernel_rfl)
theorem fill_lab (cells : Array Value) (l : Lab) (sl : Value) (hc : cells.size = 5) : Instr.fill (fun i => some (i * 5, 5)) cells [(0, .agg (Lab.vals l sl).toArray)] = some (Lab.vals l sl).toArray := by
  obtain ⟨r, hr, hsz, hk⟩ := Great.fill_dense (s := 5) (by decide) [.agg (Lab.vals l sl).toArray] 0 cells (fun v hv => by rw [List.mem_singleton.1 hv]; rfl) (by rw [hc, List.length_singleton]; decide)
  refine hr.trans (congrArg some (Array.ext_getElem? fun k => ?_))
  rw [hk k]
  by_cases h : k < 5
  · rw [if_pos ⟨by omega, by show k < (0 + 1) * 5; omega⟩, Nat.div_eq_of_lt h, Nat.mod_eq_of_lt h]; rfl
  · rw [if_neg (by show ¬ (0 * 5 ≤ k ∧ k < (0 + 1) * 5); omega), Array.getElem?_eq_none (by omega), Array.getElem?_eq_none (by show 5 ≤ k; omega)]
/-- the slice v, in a block of its own, reads the labels of L -/
def lvals (L : List (Lab × Value)) : List Value := L.flatMap fun p => Lab.vals p.1 p.2
structure LIn (W0 W : World) (v : Value) (L : List (Lab × Value)) : Prop where
  own : W.ownsRow 0 71 5 v L.length (lvals L)
  fresh : ∀ g, v.ownBlock = some g → W0.heap.size ≤ g
  all : ∀ p ∈ L, MSl W p.2 p.1.ms ∧ (0 ≤ p.1.gen ∧ p.1.gen < 4294967296) ∧ ∀ b, p.2.ownBlock = some b → v.ownBlock ≠ some b ∧ b < W.heap.size ∧ W0.heap.size ≤ b
theorem LIn.nil (W0 W : World) : LIn W0 W (.slice none 0 0) [] := ⟨World.ownsRow_nil W _ _ _, fun g h => by simp [Value.ownBlock] at h, fun p h => by cases h⟩
theorem LIn.kept {W0 W W' : World} {v : Value} {L : List (Lab × Value)} (h : LIn W0 W v L) (hk : Kept W W') : LIn W0 W' v L :=
  ⟨ownsRow_kept h.own hk, h.fresh, fun p hp => ⟨(h.all p hp).1.kept hk, (h.all p hp).2.1, fun b hb => ⟨((h.all p hp).2.2 b hb).1, Nat.lt_of_lt_of_le ((h.all p hp).2.2 b hb).2.1 hk.size, ((h.all p hp).2.2 b hb).2.2⟩⟩⟩
theorem lvals_length (L : List (Lab × Value)) : (lvals L).length = L.length * 5 := by
  induction L with
  | nil => rfl
  | cons p L ih =>
    have e : lvals (p :: L) = Lab.vals p.1 p.2 ++ lvals L := rfl
    have e2 : (Lab.vals p.1 p.2).length = 5 := rfl
    rw [e, List.length_append, ih, e2, List.length_cons]; omega
theorem MSl.same {W W' : World} {v : Value} {ms : List Mem} (h : MSl W v ms) (hs : ∀ b, v.ownBlock = some b → W'.heap[b]? = W.heap[b]?) : MSl W' v ms := by
  rcases h with h | ⟨b, off, cap, rfl, h⟩
  · exact .inl h
  · refine .inr ⟨b, off, cap, rfl, fun i hi => ?_⟩
    have e := hs b rfl
    obtain ⟨h0, h1, h2⟩ := h i hi
    exact ⟨(World.cell?_of_block (a := ⟨b, _, none⟩) e).trans h0, (World.cell?_of_block (a := ⟨b, _, none⟩) e).trans h1, (World.cell?_of_block (a := ⟨b, _, none⟩) e).trans h2⟩
theorem MSl.lt {W : World} {v : Value} {ms : List Mem} (h : MSl W v ms) (hn : ms ≠ []) {b : Nat} (hb : v.ownBlock = some b) : b < W.heap.size := by
  rcases h with ⟨e, _⟩ | ⟨b', off, cap, rfl, h⟩
  · exact absurd e hn
  · simp only [Value.ownBlock, Option.some.injEq] at hb
    subst hb
    have h0 := (h 0 (List.length_pos_iff.2 hn)).1
    have hc : Cells W b' (off + 0 * 3) [.int .i64 (ms[0]'(List.length_pos_iff.2 hn)).id] := fun j hj => by
      have e : j = 0 := by simpa using hj
      subst e; simpa using h0
    exact hc.lt (by simp)
def candL (d : Int) (s : List Int) : List Lab := if ofOk s = true ∧ (parse s).member = d then [parse s] else []
def pickL : List Lab → Lab × Int
  | [] => (Lab.zero, 8)
  | [x] => (x, 0)
  | x :: y :: _ => (if x.gen < y.gen then y else x, 0)
def BankT.loadL (T : BankT) (d : Int) : Lab × Int :=
  if (T.read d 0).2 ≠ 0 then (Lab.zero, (T.read d 0).2) else if (T.read d 1).2 ≠ 0 then (Lab.zero, (T.read d 1).2) else pickL (candL d (T.read d 0).1 ++ candL d (T.read d 1).1)
def BankT.cands (T : BankT) (d : Int) : Nat → List Lab
  | 0 => []
  | k + 1 => BankT.cands T d k ++ candL d (T.read d (k : Int)).1
/-- '[]api.Label{x}', and what is appended to -/
theorem wpList_one_lab {ops : Array Oper} {rest : List Oper} {o : Oper} {a : Act} {w : World} {Q : Exit → Act → World → Prop} (hg : o.guard = none) (x : Operand) (ho : o.op = .buildSlice 92 1 #[(0, x)])
    (l : Lab) (sl : Value) (hx : a.eval x = .agg (Lab.vals l sl).toArray)
    (h : ∀ w1, Hid (w1.heap[w.heap.size]? = some (.cells (Lab.vals l sl).toArray 71 (0, 0))) → w.heap.size < w1.heap.size → Kept w w1 → wpList Try.prog ops Q rest (a.put o.dst (.slice (some ⟨w.heap.size, 0, none⟩) 1 1)) w1) : wpList Try.prog ops Q (o :: rest) a w := by
  have h1 := lab_info
  cases hi : Try.prog.info? 71 with
  | none => simp [hi] at h1
  | some i =>
    simp only [hi, Option.map_some, Option.some.injEq, Prod.mk.injEq] at h1
    refine wpList_buildSlice hg _ 71 1 _ ho (Lab.vals l sl).toArray i _ Try.underlying92 hi h1.1 (by rw [h1.2.1]; decide) (by rw [h1.2.1]; decide) ?_ (h _ (Lib.hid (heap_alloc_new w _)) (by simp) ((Kept.refl _).alloc _))
    have he : (#[(0, x)].map fun (i, x) => ((i, a.eval x) : Nat × Value)).toList = [(0, .agg (Lab.vals l sl).toArray)] := by simp [hx]
    rw [he, h1.2.1]
    exact fill_lab _ l sl (by simp)
theorem wpList_append_lab {ops : Array Oper} {rest : List Oper} {o : Oper} {a : Act} {W0 W : World} {v : Value} {Q : Exit → Act → World → Prop} (hgd : o.guard = none) (s x : Operand) (ho : o.op = .call { callee := .builtin .append, args := #[s, x], argTypes := #[92, 92] })
    (L : List (Lab × Value)) (hs : a.eval s = v) (hv : LIn W0 W v L) (hl : L.length < 20000) (b : Nat) (hx : a.eval x = .slice (some ⟨b, 0, none⟩) 1 1) (l : Lab) (sl : Value) (hm : MSl W sl l.ms) (hg : 0 ≤ l.gen ∧ l.gen < 4294967296) (hown : ∀ b, sl.ownBlock = some b → v.ownBlock ≠ some b ∧ b < W.heap.size ∧ W0.heap.size ≤ b) (hK : Kept W0 W) (hb : W.heap[b]? = some (.cells (Lab.vals l sl).toArray 71 (0, 0)))
    (h : ∀ v' W', LIn W0 W' v' (L ++ [(l, sl)]) → Kept W0 W' → wpList Try.prog ops Q rest (a.put o.dst v') W') : wpList Try.prog ops Q (o :: rest) a W := by
  refine wpList_plain hgd fun K hK' => ?_
  obtain ⟨v', W', hr, h1, h2⟩ := own_append ty_labs (b := b) hv.own hl (by decide) (Lab.vals l sl) rfl (fun j u hu => by
    have := cell_of_row W b j _ _ _ hb
    rw [this]; simpa using hu) (lab_one l sl hm.one) o.type
  unfold Oper.wp execOp
  simp only [ho, resolve, invoke, builtin, Sem.run_bind, Sem.run_pure, Result.andThen_ok, List.map_toArray, List.map_cons, List.map_nil, hs, hx, hr]
  have he : lvals (L ++ [(l, sl)]) = lvals L ++ Lab.vals l sl := by simp [lvals]
  refine hK' _ _ (h v' W' ⟨by rw [he, List.length_append]; exact h1, fun g hg' => ?_, fun p hp => ?_⟩ ?_)
  · rcases h2 with ⟨e, _⟩ | ⟨g', e, h3, _, _⟩
    · exact hv.fresh g (e ▸ hg')
    · rw [e] at hg'; injection hg' with hg'
      have := hK.size; omega
  · have hp' : MSl W p.2 p.1.ms ∧ (0 ≤ p.1.gen ∧ p.1.gen < 4294967296) ∧ ∀ b, p.2.ownBlock = some b → v.ownBlock ≠ some b ∧ b < W.heap.size ∧ W0.heap.size ≤ b := by
      rcases List.mem_append.1 hp with hp | hp
      · exact hv.all p hp
      · rw [List.mem_singleton.1 hp]; exact ⟨hm, hg, hown⟩
    refine ⟨hp'.1.same fun b hb => h2.blk (hp'.2.2 b hb).2.1 (hp'.2.2 b hb).1, hp'.2.1, fun b hb => ⟨fun e => ?_, Nat.lt_of_lt_of_le (hp'.2.2 b hb).2.1 h2.size, (hp'.2.2 b hb).2.2⟩⟩
    rcases h2 with ⟨e', _⟩ | ⟨g', e', h3, _, _⟩
    · exact (hp'.2.2 b hb).1 (e' ▸ e)
    · rw [e'] at e; injection e with e
      have := (hp'.2.2 b hb).2.1; omega
  · rcases h2 with ⟨_, hb⟩ | ⟨_, _, _, _, hk⟩
    · exact But.to_kept hK hb (fun k hk => hv.fresh k hk)
    · exact hK.trans hk
theorem parse_gen (bs : List Int) (hb : ∀ x ∈ bs, IsByte x) (h : ofOk bs = true) : 0 ≤ (parse bs).gen ∧ (parse bs).gen < 4294967296 := by
  have hr : rightB (parse bs) = true := by
    simp only [ofOk, Bool.and_eq_true] at h
    first | exact h.1.2 | exact h.2.1 | exact h.1
  simp only [rightB, headB, inB, Bool.and_eq_true, decide_eq_true_eq] at hr
  omega
theorem parse_ne (bs : List Int) (h : ofOk bs = true) : (parse bs).ms ≠ [] := by
  have hr : rightB (parse bs) = true := by
    simp only [ofOk, Bool.and_eq_true] at h
    first | exact h.1.2 | exact h.2.1 | exact h.1
  simp only [rightB, headB, inB, Bool.and_eq_true, decide_eq_true_eq] at hr
  intro e
  rw [e] at hr
  simp at hr
theorem cells_tail {W : World} {g : Nat} {xs ys : List Value} (h : Cells W g 0 (xs ++ ys)) : Cells W g 0 xs ∧ Cells W g xs.length ys :=
  ⟨fun j hj => by
    have := h j (by rw [List.length_append]; omega)
    rw [this, List.getElem_append_left hj], fun j hj => by
    have := h (xs.length + j) (by rw [List.length_append]; omega)
    rw [Nat.zero_add] at this
    rw [this, List.getElem_append_right (by omega)]
    simp⟩
theorem LIn.form {W0 W : World} {v : Value} {L : List (Lab × Value)} (h : LIn W0 W v L) : ∃ ao cap, v = .slice ao L.length cap ∧ (L ≠ [] → ∃ g, ao = some ⟨g, 0, none⟩ ∧ Cells W g 0 (lvals L)) := by
  rcases owns_form h.own with ⟨rfl, h0, _⟩ | ⟨g, cap, rfl, hb, hg, hn, hc⟩
  · exact ⟨none, 0, by rw [h0], fun hn => absurd (List.eq_nil_of_length_eq_zero h0) hn⟩
  · exact ⟨_, cap, rfl, fun _ => ⟨g, rfl, hc⟩⟩
theorem LIn.apart {W0 W : World} {v sl : Value} {L : List (Lab × Value)} (h : LIn W0 W v L) (hown : ∀ b, sl.ownBlock = some b → W.heap.size ≤ b) : ∀ b, sl.ownBlock = some b → v.ownBlock ≠ some b := fun b hb e => by
  have := own_lt h.own e
  have := hown b hb
  omega
section
variable {w0 W : World} {R : Nat → Prop} {q : Nat} {T : BankT}
set_option maxHeartbeats 4000000
set_option maxRecDepth 100000
theorem label_Load (h : BK w0 R W q T) (u : T.Use) (d : Int) :
    Calls Try.prog 45 #[.pointer (some ⟨q, 0, none⟩), .int .i64 d] W fun e w' => ∃ sl, e = .returned (.tuple #[(T.loadL d).1.val sl, .int .i64 (T.loadL d).2]) ∧ MSl w' sl (T.loadL d).1.ms ∧ Kept W w' := by
  have HB0 := Lib.hid h
  have HU := Lib.hid u
  clear h u
  obtain ⟨res, hres⟩ : ∃ res, T.loadL d = res := ⟨_, rfl⟩
  have HRES := Lib.hid hres
  rw [hres]
  clear hres
  go_enter Try.func45, Try.ntmps45
  go_wp2_with (refine stop_at (o := ⟨some 4, _, _, _, _, _⟩) ?_)
  refine Stop.mk ?_
  refine wpList_alloc_abs rfl 71 rfl [.int .i64 0, .int .i64 0, .int .i64 0, .int .i64 0, .slice none 0 0] zero_lab ?_
  intro w1 hz1 hs1 hn1 hk1
  have HX1 := hz1
  have HK1 := Lib.hid hk1
  have HB1 := Lib.hid (HB0.out.kept hk1).1
  have HXS := Lib.hid (Nat.le_refl W.heap.size)
  generalize hX : W.heap.size = X at HX1 HXS hs1 hn1 ⊢
  have HXW := Lib.hid (Nat.le_of_eq hX)
  clear hz1 hs1 hn1 hk1 hX HB0
  go_wp2
  go_loopw [6, 12] (fun v i wr => ∃ (k : Nat) (L : List (Lab × Value)), k ≤ 2 ∧ i = .int .i64 k ∧ Hid (LIn w1 wr v L) ∧ Hid (L.map (fun p => p.1) = T.cands d k) ∧ L.length ≤ k ∧ Hid (Kept w1 wr) ∧ Hid (∀ j : Nat, j < k → (T.read d (j : Int)).2 = 0)) (fun _ i _ => 2 - (intOf i).toNat)
  case atStart => exact ⟨0, [], Nat.zero_le _, rfl, Lib.hid (LIn.nil _ _), Lib.hid rfl, Nat.le_refl _, Lib.hid (Kept.refl _), Lib.hid (fun j h => absurd h (Nat.not_lt_zero _))⟩
  case round =>
    obtain ⟨k, L, hk, rfl, HL, HM, hlen, HK, HE⟩ := hrel
    by_cases hlt : k < 2
    · obtain ⟨s, c, hr⟩ : ∃ s c, T.read d (k : Int) = (s, c) := ⟨_, _, rfl⟩
      have HR := Lib.hid hr
      have HS64 : Hid (s.length = 64 ∧ ∀ x ∈ s, IsByte x) := Lib.hid (by have := BankT.read_sec HU.out.inv d (k : Int); rw [hr] at this; exact this)
      clear hr
      go_wp2_with fail
      refine Calls.mono (st_read (HB1.out.kept HK.out).1 HU.out d (k : Int) HR.out) ?_
      rintro e w2 ⟨rfl, _, hk2⟩
      have HK2 := Lib.hid (HK.out.trans hk2)
      have HL2 := Lib.hid (HL.out.kept hk2)
      clear hk2 HK HL
      go_wp2_with (refine stop_at (o := ⟨some 8, _, _, _, _, _⟩) ?_)
      refine Stop.mk ?_
      refine wpList_new_row rfl rfl _ _ rfl rfl ty_sec (u8s zeroB) zero_sec (by rw [u8s_length, zeroB_length]) (u8s s) rfl (by rw [u8s_length, HS64.out.1]) (u8s_one _) rfl ?_
      intro w3 hz3 hs3 hk3
      have HZ3 := hz3
      have HK3 := Lib.hid (HK2.out.trans hk3)
      have HL3 := Lib.hid (HL2.out.kept hk3)
      generalize w2.heap.size = Z at *
      clear hz3 hs3 hk3 HK2 HL2
      by_cases hc : c = 0
      · subst hc
        go_wp2_with (refine stop_at (o := ⟨some 28, _, _, _, _, _⟩) ?_)
        refine Stop.mk ?_
        refine wpList_load_agg rfl _ rfl ty_sec Z 0 rfl (u8s s) (by simpa using Cells.of_block HZ3.out) (by rw [u8s_length, HS64.out.1]) ?_
        go_wp2_with fail
        refine Calls.mono (label_Of_own s w3 HS64.out.2 HS64.out.1) ?_
        rintro e w4 ⟨hk4, hof⟩
        have HK4 := Lib.hid (HK3.out.trans hk4)
        have HL4 := Lib.hid (HL3.out.kept hk4)
        have HSZ3 := Lib.hid HK3.out.size
        clear hk4 HK3
        rcases hof with ⟨hok, sl, rfl, hm, hown⟩ | ⟨hno, rfl⟩
        · have HC1 := Lib.hid (parse_gen s HS64.out.2 hok)
          have HAP := Lib.hid (HL3.out.apart hown)
          have HFR := Lib.hid (fun b hb => Nat.le_trans HSZ3.out (hown b hb))
          have HLT := Lib.hid (fun b hb => hm.lt (parse_ne s hok) (b := b) hb)
          have HM4 := Lib.hid hm
          have HCA : Hid ((parse s).member = d → candL d s = [parse s]) := Lib.hid fun e => if_pos ⟨hok, e⟩
          have HCN : Hid ((parse s).member ≠ d → candL d s = []) := Lib.hid fun e => if_neg (fun h => e h.2)
          clear hm hown hok HL3
          generalize parse s = l at *
          go_wp2_with (refine stop_at (o := ⟨some 10, _, _, _, _, _⟩) ?_)
          refine Stop.mk ?_
          refine wpList_new_row rfl rfl _ _ rfl rfl ty_lab [.int .i64 0, .int .i64 0, .int .i64 0, .int .i64 0, .slice none 0 0] zero_lab rfl (Lab.vals l sl) rfl rfl (lab_one l sl HM4.out.one) rfl ?_
          intro w5 hz5 hs5 hk5
          have HY5 := hz5
          have p2 : w5.cell? ⟨w4.heap.size, 2, none⟩ = some (.int .i64 l.member) := cell_of_row _ _ 2 _ _ _ hz5.out
          have HK5 := Lib.hid (HK4.out.trans hk5)
          have HL5 := Lib.hid (HL4.out.kept hk5)
          have HM5 := Lib.hid (HM4.out.kept hk5)
          have HSZ := Lib.hid hk5.size
          have HLT5 := Lib.hid (fun b hb => Nat.lt_of_lt_of_le (HLT.out b hb) HSZ.out)
          generalize w4.heap.size = Y at *
          clear hz5 hs5 hk5 HK4 HL4 HM4 HLT HSZ
          by_cases hmem : l.member = d
          · have hmd : (l.member == d) = true := by simpa using hmem
            go_wp2_with (refine stop_at (o := ⟨some 41, _, _, _, _, _⟩) ?_)
            refine Stop.mk ?_
            refine wpList_load_agg rfl _ rfl ty_lab Y 0 rfl (Lab.vals l sl) (by simpa using Cells.of_block HY5.out) rfl ?_
            refine wpList_one_lab rfl _ rfl l sl rfl ?_
            intro w6 hz6 hs6 hk6
            refine wpList_append_lab rfl _ _ rfl L rfl (HL5.out.kept hk6) (by omega) w5.heap.size rfl l sl (HM5.out.kept hk6) HC1.out (fun b hb => ⟨HAP.out b hb, Nat.lt_of_lt_of_le (HLT5.out b hb) hk6.size, HFR.out b hb⟩) (HK5.out.trans hk6) hz6.out ?_
            intro v' w7 hl7 hk7
            have HL7 := Lib.hid hl7
            have HK7 := Lib.hid hk7
            have HM7 : Hid ((L ++ [(l, sl)]).map (fun p => p.1) = T.cands d (k + 1)) := Lib.hid (by rw [List.map_append, HM.out, BankT.cands, HR.out, HCA.out hmem]; rfl)
            have HE7 : Hid (∀ j : Nat, j < k + 1 → (T.read d (j : Int)).2 = 0) := Lib.hid fun j hj => by
              by_cases e : j = k
              · rw [e, HR.out]
              · exact HE.out j (by omega)
            clear hl7 hk7 hz6 hs6 hk6 hmd hmem p2 HL5 HM5 HK5 HE HM
            go_wp2
            go_roundw
            case rel => exact ⟨k + 1, L ++ [(l, sl)], hlt, by go_num, HL7, HM7, by rw [List.length_append, List.length_singleton]; omega, HK7, HE7⟩
            case measure => simp [intOf]; omega
          · have hmd : (l.member == d) = false := by simpa using hmem
            have HM7 : Hid (L.map (fun p => p.1) = T.cands d (k + 1)) := Lib.hid (by rw [HM.out, BankT.cands, HR.out, HCN.out hmem, List.append_nil])
            have HE7 : Hid (∀ j : Nat, j < k + 1 → (T.read d (j : Int)).2 = 0) := Lib.hid fun j hj => by
              by_cases e : j = k
              · rw [e, HR.out]
              · exact HE.out j (by omega)
            clear hmem HE HM
            go_wp2
            go_roundw
            case rel => exact ⟨k + 1, L, hlt, by go_num, HL5, HM7, by omega, HK5, HE7⟩
            case measure => simp [intOf]; omega
        · have HM7 : Hid (L.map (fun p => p.1) = T.cands d (k + 1)) := Lib.hid (by rw [HM.out, BankT.cands, HR.out]; show _ = _ ++ candL d s; rw [show candL d s = [] from if_neg (fun h => by rw [hno] at h; cases h.1), List.append_nil])
          have HE7 : Hid (∀ j : Nat, j < k + 1 → (T.read d (j : Int)).2 = 0) := Lib.hid fun j hj => by
              by_cases e : j = k
              · rw [e, HR.out]
              · exact HE.out j (by omega)
          clear hno HE HM
          go_wp2_with (refine stop_at (o := ⟨some 10, _, _, _, _, _⟩) ?_)
          refine Stop.mk ?_
          refine wpList_new_row rfl rfl _ _ rfl rfl ty_lab [.int .i64 0, .int .i64 0, .int .i64 0, .int .i64 0, .slice none 0 0] zero_lab rfl (Lab.vals Lab.zero (.slice none 0 0)) rfl rfl (lab_one Lab.zero (.slice none 0 0) rfl) rfl ?_
          intro w5 hz5 hs5 hk5
          have HK5 := Lib.hid (HK4.out.trans hk5)
          have HL5 := Lib.hid (HL4.out.kept hk5)
          clear hz5 hs5 hk5 HK4 HL4
          go_wp2
          go_roundw
          case rel => exact ⟨k + 1, L, hlt, by go_num, HL5, HM7, by omega, HK5, HE7⟩
          case measure => simp [intOf]; omega
      · have hcb : (c == 0) = false := by simpa using hc
        have hrc : res = (Lab.zero, c) := by
          rw [← HRES.out]
          unfold BankT.loadL
          have hk2 : k = 0 ∨ k = 1 := by omega
          rcases hk2 with rfl | rfl
          · have h0 : T.read d 0 = (s, c) := HR.out
            rw [h0, if_pos hc]
          · have h0 := HE.out 0 (by decide)
            have h1 : T.read d 1 = (s, c) := HR.out
            rw [show T.read d 0 = T.read d ((0 : Nat) : Int) from rfl, if_neg (by rw [h0]; decide), h1, if_pos hc]
        have HRC := Lib.hid hrc
        clear hrc HE HM
        go_wp2_with (refine stop_at (o := ⟨some 25, _, _, _, _, _⟩) ?_)
        refine Stop.mk ?_
        refine wpList_build_zero rfl rfl (Lab.zero.val (.slice none 0 0)) build_lab ?_
        go_wp2_with (refine stop_at (o := ⟨none, .store _ _ _, _, _, _, _⟩) ?_)
        refine Stop.mk ?_
        refine wpList_store_agg rfl _ _ rfl ty_lab X 0 rfl (Lab.vals Lab.zero (.slice none 0 0)) rfl rfl (lab_one Lab.zero (.slice none 0 0) rfl) _ _ (HK3.out.block HX1.out) (by decide) ?_
        intro w4 hw4
        replace hw4 := hw4.all rfl
        go_wp2
        refine bodyPost_ret (results_lab rfl _ _ X Lab.zero (.slice none 0 0) rfl hw4.cells) rfl ?_
        exact ⟨.slice none 0 0, by rw [HRC.out]; rfl, by rw [HRC.out]; exact .inl ⟨rfl, rfl⟩, hw4.kept (HK1.out.trans HK3.out) HXW.out⟩
    · have hk2 : k = 2 := by omega
      have hrc : res = pickL (L.map (fun p => p.1)) := by
        rw [← HRES.out]
        unfold BankT.loadL
        have h0 := HE.out 0 (by omega)
        have h1 := HE.out 1 (by omega)
        rw [show T.read d 0 = T.read d ((0 : Nat) : Int) from rfl, show T.read d 1 = T.read d ((1 : Nat) : Int) from rfl, if_neg (by rw [h0]; decide), if_neg (by rw [h1]; decide), HM.out, hk2]
        simp [BankT.cands]
      have HRC := Lib.hid hrc
      have hk3 : 2 ≤ k := by omega
      have hlen2 := Lib.hid (show L.length ≤ 2 by omega)
      obtain ⟨ao, cp, rfl, hcl⟩ := HL.out.form
      have HXN : Hid (X < w1.heap.size) := Lib.hid (Array.getElem?_eq_some_iff.1 HX1.out).1
      have HAL : Hid (∀ p ∈ L, MSl wr p.2 p.1.ms ∧ (0 ≤ p.1.gen ∧ p.1.gen < 4294967296) ∧ ∀ b, p.2.ownBlock = some b → b ≠ X) := Lib.hid fun p hp => ⟨(HL.out.all p hp).1, (HL.out.all p hp).2.1, fun b hb e => by
        have := ((HL.out.all p hp).2.2 b hb).2.2
        have := HXN.out
        omega⟩
      clear hrc HE HM hlt hk hk2 HL HRES
      rcases L with _ | ⟨p, _ | ⟨p2, _ | ⟨p3, L⟩⟩⟩
      · clear hcl
        go_wp2_with (refine stop_at (o := ⟨some 48, _, _, _, _, _⟩) ?_)
        refine Stop.mk ?_
        refine wpList_build_zero rfl rfl (Lab.zero.val (.slice none 0 0)) build_lab ?_
        go_wp2_with (refine stop_at (o := ⟨none, .store _ _ _, _, _, _, _⟩) ?_)
        refine Stop.mk ?_
        refine wpList_store_agg rfl _ _ rfl ty_lab X 0 rfl (Lab.vals Lab.zero (.slice none 0 0)) rfl rfl (lab_one Lab.zero (.slice none 0 0) rfl) _ _ (HK.out.block HX1.out) (by decide) ?_
        intro w3 hw3
        replace hw3 := hw3.all rfl
        go_wp2
        refine bodyPost_ret (results_lab rfl _ _ X Lab.zero (.slice none 0 0) rfl hw3.cells) rfl ?_
        exact ⟨.slice none 0 0, by rw [HRC.out]; rfl, by rw [HRC.out]; exact .inl ⟨rfl, rfl⟩, hw3.kept (HK1.out.trans HK.out) HXW.out⟩
      · obtain ⟨g, rfl, hc⟩ := hcl (by simp)
        obtain ⟨l, sl⟩ := p
        have HP := Lib.hid (HAL.out (l, sl) (by simp))
        have HC := Lib.hid (cells_tail (xs := Lab.vals l sl) (ys := []) hc).1
        clear hc hcl HAL
        go_wp2_with fail
        refine Calls.mono (max_one l sl HP.out.1.one g 0 cp wr HC.out) ?_
        rintro e w2 ⟨rfl, hk2⟩
        go_wp2_with (refine stop_at (o := ⟨none, .store _ _ _, _, _, _, _⟩) ?_)
        refine Stop.mk ?_
        refine wpList_store_agg rfl _ _ rfl ty_lab X 0 rfl (Lab.vals l sl) rfl rfl (lab_one l sl HP.out.1.one) _ _ (hk2.block (HK.out.block HX1.out)) (by decide) ?_
        intro w3 hw3
        replace hw3 := hw3.all rfl
        go_wp2
        refine bodyPost_ret (results_lab rfl _ _ X l sl rfl hw3.cells) rfl ?_
        exact ⟨sl, by rw [HRC.out]; rfl, by rw [HRC.out]; exact (HP.out.1.kept hk2).same (fun b hb => hw3.oth b (HP.out.2.2 b hb)), hw3.kept (HK1.out.trans (HK.out.trans hk2)) HXW.out⟩
      · obtain ⟨g, rfl, hc⟩ := hcl (by simp)
        obtain ⟨l, sl⟩ := p
        obtain ⟨l2, sl2⟩ := p2
        have HP := Lib.hid (HAL.out (l, sl) (by simp))
        have HP2 := Lib.hid (HAL.out (l2, sl2) (by simp))
        have HC := Lib.hid (cells_tail (xs := Lab.vals l sl) (ys := Lab.vals l2 sl2) hc)
        clear hc hcl HAL
        go_wp2_with fail
        refine Calls.mono (max_two l l2 sl sl2 HP.out.1.one HP2.out.1.one HP.out.2.1 HP2.out.2.1 g 0 cp wr HC.out.1 HC.out.2) ?_
        rintro e w2 ⟨rfl, hk2⟩
        by_cases hgt : l.gen < l2.gen
        · replace HRC : Hid (res = (l2, 0)) := Lib.hid (by rw [HRC.out]; show (if l.gen < l2.gen then l2 else l, (0 : Int)) = _; rw [if_pos hgt])
          rw [if_pos hgt]
          go_wp2_with (refine stop_at (o := ⟨none, .store _ _ _, _, _, _, _⟩) ?_)
          refine Stop.mk ?_
          refine wpList_store_agg rfl _ _ rfl ty_lab X 0 rfl (Lab.vals l2 sl2) rfl rfl (lab_one l2 sl2 HP2.out.1.one) _ _ (hk2.block (HK.out.block HX1.out)) (by decide) ?_
          intro w3 hw3
          replace hw3 := hw3.all rfl
          go_wp2
          refine bodyPost_ret (results_lab rfl _ _ X l2 sl2 rfl hw3.cells) rfl ?_
          exact ⟨sl2, by rw [HRC.out]; rfl, by rw [HRC.out]; exact (HP2.out.1.kept hk2).same (fun b hb => hw3.oth b (HP2.out.2.2 b hb)), hw3.kept (HK1.out.trans (HK.out.trans hk2)) HXW.out⟩
        · replace HRC : Hid (res = (l, 0)) := Lib.hid (by rw [HRC.out]; show (if l.gen < l2.gen then l2 else l, (0 : Int)) = _; rw [if_neg hgt])
          rw [if_neg hgt]
          go_wp2_with (refine stop_at (o := ⟨none, .store _ _ _, _, _, _, _⟩) ?_)
          refine Stop.mk ?_
          refine wpList_store_agg rfl _ _ rfl ty_lab X 0 rfl (Lab.vals l sl) rfl rfl (lab_one l sl HP.out.1.one) _ _ (hk2.block (HK.out.block HX1.out)) (by decide) ?_
          intro w3 hw3
          replace hw3 := hw3.all rfl
          go_wp2
          refine bodyPost_ret (results_lab rfl _ _ X l sl rfl hw3.cells) rfl ?_
          exact ⟨sl, by rw [HRC.out]; rfl, by rw [HRC.out]; exact (HP.out.1.kept hk2).same (fun b hb => hw3.oth b (HP.out.2.2 b hb)), hw3.kept (HK1.out.trans (HK.out.trans hk2)) HXW.out⟩
      · exfalso
        have := hlen2.out
        simp at this
end
end Go.Proofs.Ytcbghpcohbgcjaa
/- The document's SameMembers and Same, of what is the same. -/
namespace Go.Proofs.Ytcbghpcohbgcjaa
open Go.RowKit
set_option linter.unusedVariables false
set_option linter.unusedSimpArgs false

attribute [local go_sem ↓] Go.wp_at_zero Go.wp_at_succ
set_option maxHeartbeats 2000000 in
set_option maxRecDepth 100000 in
theorem same_members (ms : List Mem) (s1 s2 : Value) (w : World) (hlen : ms.length ≤ 9223372036854775807) (h1 : MSl w s1 ms) (h2 : MSl w s2 ms) :
    Calls Try.prog 84 #[s1, s2] w fun e w' => e = .returned (.bool true) ∧ Kept w w' := by
  obtain ⟨o1, c1, rfl⟩ := h1.form
  obtain ⟨o2, c2, rfl⟩ := h2.form
  have H1 := Lib.hid h1; clear h1
  have H2 := Lib.hid h2; clear h2
  go_enter Try.func84, Try.ntmps84
  go_wp2
  go_loopw [5] (fun i wr => ∃ k : Nat, k ≤ ms.length ∧ i = .int .i64 k ∧ Kept w wr) (fun i _ => ms.length - (intOf i).toNat)
  case atStart => exact ⟨0, Nat.zero_le _, rfl, Kept.refl _⟩
  case round =>
    obtain ⟨k, hk, rfl, hkr⟩ := hrel
    have hsz := hkr.size
    by_cases hlt : k < ms.length
    · obtain ⟨b1, off1, cap1, hsl, hm⟩ : ∃ b off cap', Value.slice o1 ms.length c1 = .slice (some ⟨b, off, none⟩) ms.length cap' ∧ MRow w b off ms := by
        rcases H1.out with ⟨h, _⟩ | h
        · have h' : ms = [] := h
          subst h'; simp at hlt
        · exact h
      cases hsl
      obtain ⟨b2, off2, cap2, hsl, hn⟩ : ∃ b off cap', Value.slice o2 ms.length c2 = .slice (some ⟨b, off, none⟩) ms.length cap' ∧ MRow w b off ms := by
        rcases H2.out with ⟨h, _⟩ | h
        · have h' : ms = [] := h
          subst h'; simp at hlt
        · exact h
      cases hsl
      obtain ⟨m0, m1, m2⟩ := (hm.kept hkr) k hlt
      obtain ⟨n0, n1, n2⟩ := (hn.kept hkr) k hlt
      clear hm hn
      generalize ms[k].id = x at *
      generalize ms[k].sec = y at *
      generalize ms[k].st = z at *
      go_upto_region 6 with fail
      go_quiet (fail)
      go_wp2
      go_roundw
      case rel => exact ⟨k + 1, by omega, by go_num, hkr.drewN _⟩
      case measure => simp [intOf]; omega
    · go_wp2
      go_ret
      exact ⟨rfl, hkr⟩

set_option maxHeartbeats 2000000 in
set_option maxRecDepth 100000 in
theorem same_labels (l : Lab) (s1 s2 : Value) (w : World) (hlen : l.ms.length ≤ 9223372036854775807) (h1 : MSl w s1 l.ms) (h2 : MSl w s2 l.ms) :
    Calls Try.prog 46 #[l.val s1, l.val s2] w fun e w' => e = .returned (.bool true) ∧ Kept w w' := by
  obtain ⟨array, gen, member, blocks, ms⟩ := l
  simp only [Lab.val]
  have hS := fun (W : World) (hk : Kept w W) => same_members ms s1 s2 W hlen (h1.kept hk) (h2.kept hk)
  have HS := Lib.hid hS; clear hS
  obtain ⟨o1, c1, rfl⟩ := h1.form
  obtain ⟨o2, c2, rfl⟩ := h2.form
  clear h1 h2
  go_enter Try.func46, Try.ntmps46
  go_wp2_with (go_at_call 84; refine (HS.out _ (((Kept.refl w).alloc _).alloc _)).mono ?_; rintro e w2 ⟨rfl, hk2⟩)
  go_ret
  exact ⟨rfl, (((Kept.refl w).alloc _).alloc _).trans hk2⟩

end Go.Proofs.Ytcbghpcohbgcjaa
/- The plain law: a right label's sector is read as that label. -/
namespace Go.Proofs.Ytcbghpcohbgcjaa
open Go.RowKit
set_option linter.unusedVariables false
set_option linter.unusedSimpArgs false

theorem beVal1 (v : Int) (h0 : 0 ≤ v) (h : v < 256) : beVal (beBytes v 1) = v := by simp [beVal, beBytes]; omega
theorem beVal2 (v : Int) (h0 : 0 ≤ v) (h : v < 65536) : beVal (beBytes v 2) = v := by simp [beVal, beBytes]; omega
theorem beVal4 (v : Int) (h0 : 0 ≤ v) (h : v < 4294967296) : beVal (beBytes v 4) = v := by simp [beVal, beBytes]; omega
theorem beBytes_byte (v : Int) (n : Nat) : ∀ x ∈ beBytes v n, IsByte x := by
  induction n with
  | zero => intro x hx; simp [beBytes] at hx
  | succ n ih =>
    intro x hx
    simp only [beBytes, List.mem_cons] at hx
    rcases hx with rfl | hx
    · simp only [IsByte]; omega
    · exact ih x hx
theorem getB_mid (bs pre mid post : List Int) (k n : Nat) (e : bs = pre ++ (mid ++ post)) (hk : pre.length = k) (hn : mid.length = n) : getB bs k n = beVal mid := by
  subst e hk hn
  simp [getB, List.drop_append, List.take_append]

def Lab.pre (l : Lab) : List Int := [66, 87] ++ fldBytes l.flds
theorem Lab.pre_length (l : Lab) : l.pre.length = 14 := by simp [Lab.pre, Lab.flds_len]
theorem Lab.sec_pre (l : Lab) : l.sec = l.pre ++ (memBytes l.ms ++ List.replicate (64 - l.text.length) 0) := by
  simp [Lab.sec, Lab.text, Lab.pre, List.append_assoc]
theorem memBytes_append (a b : List Mem) : memBytes (a ++ b) = memBytes a ++ memBytes b := by simp [memBytes]
theorem memBytes_at (ms : List Mem) (i : Nat) (h : i < ms.length) : memBytes ms = memBytes (ms.take i) ++ (ms[i].bytes ++ memBytes (ms.drop (i + 1))) := by
  have e : ms = ms.take i ++ (ms[i] :: ms.drop (i + 1)) := by
    rw [← List.drop_eq_getElem_cons h, List.take_append_drop]
  have e2 : memBytes (ms[i] :: ms.drop (i + 1)) = ms[i].bytes ++ memBytes (ms.drop (i + 1)) := by simp only [memBytes, List.flatMap_cons]
  rw [← e2, ← memBytes_append, ← e]
theorem lab_sec_mem (l : Lab) (i : Nat) (h : i < l.ms.length) : ∃ post, l.sec = (l.pre ++ memBytes (l.ms.take i)) ++ (l.ms[i].bytes ++ post) := by
  rw [l.sec_pre, memBytes_at l.ms i h]
  exact ⟨memBytes (l.ms.drop (i + 1)) ++ List.replicate (64 - l.text.length) 0, by simp only [List.append_assoc]⟩
theorem sec_bytes (l : Lab) : ∀ x ∈ l.sec, IsByte x := by
  intro x hx
  simp only [Lab.sec, Lab.text, List.mem_append, List.mem_replicate] at hx
  rcases hx with (hx | hx | hx) | ⟨_, rfl⟩
  · simp at hx; rcases hx with rfl | rfl <;> simp [IsByte]
  · simp only [fldBytes, List.mem_flatMap] at hx
    obtain ⟨p, _, hx⟩ := hx
    exact beBytes_byte _ _ x hx
  · simp only [memBytes, List.mem_flatMap, Mem.bytes, List.mem_append] at hx
    obtain ⟨m, _, hx⟩ := hx
    rcases hx with hx | hx | hx <;> exact beBytes_byte _ _ x hx
  · simp [IsByte]

theorem parse_sec (l : Lab) (hr : rightB l = true) : parse l.sec = l := by
  have hf := l.fld hr
  have hm := l.mem hr
  have hn : l.ms.length ≤ 12 := by
    simp only [rightB, headB, inB, Bool.and_eq_true, decide_eq_true_eq] at hr; omega
  simp only [mayPut_iff, Lab.flds, List.mem_cons, List.not_mem_nil, or_false, forall_eq_or_imp, forall_eq] at hf
  simp only [mayPut_iff] at hm
  simp only [show (8 * 4 : Int).toNat = 32 from rfl, show (8 * 2 : Int).toNat = 16 from rfl, show (8 * 1 : Int).toNat = 8 from rfl, Int.reducePow] at hf hm
  obtain ⟨⟨_, _, a0, a1⟩, ⟨_, _, g0, g1⟩, ⟨_, _, m0, m1⟩, ⟨_, _, b0, b1⟩, _, _, l0, l1⟩ := hf
  obtain ⟨R, hS⟩ : ∃ R, l.sec = [66, 87] ++ (beBytes l.array 4 ++ (beBytes l.gen 4 ++ (beBytes l.member 1 ++ (beBytes l.blocks 2 ++ (beBytes l.ms.length 1 ++ R))))) :=
    ⟨memBytes l.ms ++ List.replicate (64 - l.text.length) 0, by
      rw [l.sec_pre, Lab.pre, fldBytes, Lab.flds]
      simp only [List.flatMap_cons, List.flatMap_nil, List.append_nil, List.append_assoc]
      rfl⟩
  have e1 : getB l.sec 2 4 = l.array := (getB_mid _ [66, 87] (beBytes l.array 4) _ 2 4 hS rfl (beBytes_length _ _)).trans (beVal4 _ a0 (by omega))
  have e2 : getB l.sec 6 4 = l.gen := (getB_mid _ ([66, 87] ++ beBytes l.array 4) (beBytes l.gen 4) _ 6 4 (by rw [hS]; simp only [List.append_assoc]; rfl) (by simp [beBytes_length]) (beBytes_length _ _)).trans (beVal4 _ g0 (by omega))
  have e3 : getB l.sec 10 1 = l.member := (getB_mid _ ([66, 87] ++ (beBytes l.array 4 ++ beBytes l.gen 4)) (beBytes l.member 1) _ 10 1 (by rw [hS]; simp only [List.append_assoc]; rfl) (by simp [beBytes_length]) (beBytes_length _ _)).trans (beVal1 _ m0 (by omega))
  have e4 : getB l.sec 11 2 = l.blocks := (getB_mid _ ([66, 87] ++ (beBytes l.array 4 ++ (beBytes l.gen 4 ++ beBytes l.member 1))) (beBytes l.blocks 2) _ 11 2 (by rw [hS]; simp only [List.append_assoc]; rfl) (by simp [beBytes_length]) (beBytes_length _ _)).trans (beVal2 _ b0 (by omega))
  have e5 : l.sec.getD 13 0 = l.ms.length := by
    rw [hS]; simp [beBytes]; omega
  have e6 : parseMs l.sec l.ms.length = l.ms := by
    refine List.ext_getElem (parseMs_length _ _) fun i hi hi' => ?_
    obtain ⟨post, hp⟩ := lab_sec_mem l i hi'
    have hb := hm _ (List.getElem_mem hi')
    obtain ⟨⟨_, _, i0, i1⟩, ⟨_, _, s0, s1⟩, _, _, t0, t1⟩ := hb
    have hlen : (l.pre ++ memBytes (l.ms.take i)).length = 14 + 4 * i := by
      rw [List.length_append, l.pre_length, memBytes_length, List.length_take]; omega
    have f1 : getB l.sec (14 + 4 * i) 1 = l.ms[i].id := (getB_mid _ (l.pre ++ memBytes (l.ms.take i)) (beBytes l.ms[i].id 1) (beBytes l.ms[i].sec 2 ++ (beBytes l.ms[i].st 1 ++ post)) _ 1 (by rw [hp]; simp only [Mem.bytes, List.append_assoc]) hlen (beBytes_length _ _)).trans (beVal1 _ i0 (by omega))
    have f2 : getB l.sec (15 + 4 * i) 2 = l.ms[i].sec := (getB_mid _ (l.pre ++ memBytes (l.ms.take i) ++ beBytes l.ms[i].id 1) (beBytes l.ms[i].sec 2) (beBytes l.ms[i].st 1 ++ post) _ 2 (by rw [hp]; simp only [Mem.bytes, List.append_assoc]) (by rw [List.length_append, hlen, beBytes_length]; omega) (beBytes_length _ _)).trans (beVal2 _ s0 (by omega))
    have f3 : getB l.sec (17 + 4 * i) 1 = l.ms[i].st := (getB_mid _ (l.pre ++ memBytes (l.ms.take i) ++ beBytes l.ms[i].id 1 ++ beBytes l.ms[i].sec 2) (beBytes l.ms[i].st 1) post _ 1 (by rw [hp]; simp only [Mem.bytes, List.append_assoc]) (by rw [List.length_append, List.length_append, hlen, beBytes_length, beBytes_length]; omega) (beBytes_length _ _)).trans (beVal1 _ t0 (by omega))
    simp only [parseMs, List.getElem_map, List.getElem_range, memAt, f1, f2, f3]
  rw [parse, e1, e2, e3, e4, e5, Int.toNat_natCast, e6]

theorem sec_ok (l : Lab) (hr : rightB l = true) : ofOk l.sec = true := by
  have hn : l.ms.length ≤ 12 := by
    simp only [rightB, headB, inB, Bool.and_eq_true, decide_eq_true_eq] at hr; omega
  have hh : ofHead l.sec = true := by
    have hp := parse_sec l hr
    have h13 : (l.sec.getD 13 0) ≤ 12 := by
      have hl : (parse l.sec).ms.length = (l.sec.getD 13 0).toNat := by simp [parse, parseMs_length]
      rw [hp] at hl; omega
    have h2 : l.sec.take 2 = [66, 87] := by rw [l.sec_pre]; simp [Lab.pre]
    simp only [ofHead, h2, h13]; rfl
  simp [ofOk, hh, parse_sec l hr, hr]

end Go.Proofs.Ytcbghpcohbgcjaa
/- label.Save on a law's bank; law04's sectors: six sectors of a bank, read into a slice. -/
namespace Go.Proofs.Ytcbghpcohbgcjaa
open Go.RowKit
set_option linter.unusedVariables false
set_option linter.unusedSimpArgs false

/-- what label.Save does with a label that is right -/
def BankT.saveL (T : BankT) (l : Lab) : BankT × Int := if (T.write l.member (l.gen.tmod 2) l.sec).2 ≠ 0 then T.write l.member (l.gen.tmod 2) l.sec else (T.write l.member (l.gen.tmod 2) l.sec).1.flushC l.member
section
variable {w0 W : World} {R : Nat → Prop} {q : Nat} {T : BankT}
set_option maxHeartbeats 2000000
set_option maxRecDepth 100000
theorem label_Save (h : BK w0 R W q T) (u : T.Use) (l : Lab) (sl : Value) (hm : MSl W sl l.ms) (hr : rightB l = true) (g : Nat) (hg : l.gen = (g : Int)) (u1 : (T.write l.member (l.gen.tmod 2) l.sec).1.Use) :
    Calls Try.prog 44 #[.pointer (some ⟨q, 0, none⟩), l.val sl] W fun e w' => e = .returned (.int .i64 (T.saveL l).2) ∧ BK w0 R w' q (T.saveL l).1 ∧ SameR R W w' := by
  have hN : l.ms.length ≤ 12 := by
    simp only [rightB, headB, inB, Bool.and_eq_true, decide_eq_true_eq] at hr
    omega
  have HX := Lib.hid (l.sec_length hN)
  have HSL1 := Lib.hid hm.one
  have HMS := Lib.hid hm
  have HPUT := Lib.hid (fun (W' : World) (hm' : MSl W' sl l.ms) => label_Put_ok l sl W' hm' hr)
  obtain ⟨T1, c, hw⟩ : ∃ T1 c, T.write l.member (l.gen.tmod 2) l.sec = (T1, c) := ⟨_, _, rfl⟩
  unfold BankT.saveL
  rw [hw] at u1 ⊢
  simp only [] at u1 ⊢
  obtain ⟨T2, d, hf⟩ : ∃ T2 d, T1.flushC l.member = (T2, d) := ⟨_, _, rfl⟩
  rw [hf]
  obtain ⟨Tr, cr, hres⟩ : ∃ Tr cr, (if c ≠ 0 then (T1, c) else (T2, d)) = (Tr, cr) := ⟨_, _, rfl⟩
  rw [hres]
  have hz : l.gen.tmod 2 = ((g % 2 : Nat) : Int) := by rw [hg, Int.tmod_eq_emod_of_nonneg (by omega)]; rfl
  rw [hz] at hw
  have hz1 : (g : Int) % 2 = ((g % 2 : Nat) : Int) := by omega
  have hz2 : (g : Int).tmod 2 = ((g % 2 : Nat) : Int) := by rw [← hg]; exact hz
  generalize g % 2 = k at *
  have HW := Lib.hid hw; have HF := Lib.hid hf; have HU := Lib.hid u; have HU1 := Lib.hid u1; have HB := Lib.hid h; have HRES := Lib.hid hres
  clear hw hf u u1 h hres hz hm hr hN
  have hv : l.val sl = .agg #[.int .i64 l.array, .int .i64 (g : Int), .int .i64 l.member, .int .i64 l.blocks, sl] := by unfold Lab.val; rw [hg]
  have HV := Lib.hid hv
  generalize l.sec = sec at *
  generalize l.member = m at *
  generalize l.array = ar at *
  generalize l.blocks = bl at *
  rw [hv]
  clear hv hg
  go_enter Try.func44, Try.ntmps44
  go_wp2_with (refine stop_at (o := ⟨some 3, _, _, _, _, _⟩) ?_)
  refine Stop.mk ?_
  refine wpList_box_row rfl _ _ rfl [.int .i64 ar, .int .i64 (g : Int), .int .i64 m, .int .i64 bl, sl] rfl ?_
  intro w1 hz1' hs1 hk1
  have p1 : w1.cell? ⟨W.heap.size, 1, none⟩ = some (.int .i64 (g : Int)) := cell_of_row _ _ 1 _ _ _ hz1'.out
  have p2 : w1.cell? ⟨W.heap.size, 2, none⟩ = some (.int .i64 m) := cell_of_row _ _ 2 _ _ _ hz1'.out
  have HL1 := Lib.hid (Cells.of_block hz1'.out)
  have HB1 := Lib.hid (HB.out.box hk1 hs1)
  have HS := Lib.hid (show SameR R W w1 from (HB.out.kept hk1).2)
  have HM1 := Lib.hid (HMS.out.kept hk1)
  have HLT := Lib.hid hs1
  generalize W.heap.size = X at *
  clear hz1' hs1 hk1 HB HMS
  go_wp2_with (refine stop_at (o := ⟨some 9, _, _, _, _, _⟩) ?_)
  refine Stop.mk ?_
  refine wpList_load_agg rfl _ rfl ty_lab X 0 rfl [.int .i64 ar, .int .i64 (g : Int), .int .i64 m, .int .i64 bl, sl] HL1.out rfl ?_
  rw [← HV.out]
  go_wp2_with fail
  refine Calls.mono (HPUT.out w1 HM1.out) ?_
  rintro e w2 ⟨rfl, hk2⟩
  replace p1 := hk2.cell' p1
  replace p2 := hk2.cell' p2
  have HB2 := Lib.hid (HB1.out.kept hk2).1
  replace HS := Lib.hid (show SameR R W w2 from HS.out.trans fun k hk => (HB1.out.kept hk2).2 k (.inl hk))
  clear hk2 HB1 HM1 HL1 HPUT
  go_wp2_with (refine stop_at (o := ⟨some 5, _, _, _, _, _⟩) ?_)
  refine Stop.mk ?_
  refine wpList_new_row rfl rfl _ _ rfl rfl ty_sec (u8s zeroB) zero_sec (by rw [u8s_length, zeroB_length]) (u8s sec) rfl (by rw [u8s_length, HX.out]) (u8s_one _) rfl ?_
  intro w4 hz4 hs4 hk4
  have HB4 := Lib.hid (HB2.out.kept hk4).1
  have HX4 := hz4
  replace p1 := hk4.cell' p1
  replace p2 := hk4.cell' p2
  replace HS := Lib.hid (show SameR R W w4 from HS.out.trans fun k hk => (HB2.out.kept hk4).2 k (.inl hk))
  clear hz4 hs4 hk4 HB2
  go_wp2_with (refine stop_at (o := ⟨some 23, _, _, _, _, _⟩) ?_)
  refine Stop.mk ?_
  refine wpList_load_agg rfl _ rfl ty_sec w2.heap.size 0 rfl (u8s sec) (by simpa using Cells.of_block HX4.out) (by rw [u8s_length, HX.out]) ?_
  go_wp2_with fail
  refine Calls.mono (st_writeE HB4.out HU.out m (k : Int) HX.out HW.out) ?_
  rintro e w5 ⟨rfl, hb5, hs5⟩
  have HB5 := Lib.hid hb5
  replace p2 := (World.cell?_of_block (a := ⟨X, 2, none⟩) (hs5 X (.inr rfl))).trans p2
  replace HS := Lib.hid (show SameR R W w5 from HS.out.trans fun k hk => hs5 k (.inl hk))
  clear hb5 hs5 HB4 p1
  by_cases hc : c = 0
  · subst hc
    have hres := HRES.out
    rw [if_neg (by decide)] at hres
    obtain ⟨rfl, rfl⟩ : T2 = Tr ∧ d = cr := by cases hres; exact ⟨rfl, rfl⟩
    clear hres HRES
    go_wp2_with fail
    refine Calls.mono (st_flush HB5.out HU1.out m (c := d) (T' := T2) (by rw [HF.out]) (by rw [HF.out])) ?_
    rintro e w6 ⟨rfl, hb6, hs6⟩
    go_wp2
    go_ret
    exact ⟨rfl, hb6.less (fun k hk => .inl hk), HS.out.trans fun k hk => hs6 k (.inl hk)⟩
  · have hres := HRES.out
    rw [if_pos hc] at hres
    obtain ⟨rfl, rfl⟩ : T1 = Tr ∧ c = cr := by cases hres; exact ⟨rfl, rfl⟩
    clear hres HRES
    have hcb : (c == 0) = false := by simpa using hc
    go_wp2
    go_ret
    exact ⟨rfl, HB5.out.less (fun k hk => .inl hk), HS.out⟩
end
theorem ty_secs : ElemT Try.prog 64 36 64 64 := by
  refine ⟨Try.underlying64, ?_, by decide⟩
  have h1 := secs_info
  cases hi : Try.prog.info? 36 with
  | none => simp [hi] at h1
  | some i =>
    simp only [hi, Option.map_some, Option.some.injEq, Prod.mk.injEq] at h1
    exact ⟨i, _, rfl, h1.1, h1.2.1, h1.2.2, by decide⟩
/-- the slice v, in a block of its own, reads L -/
def SL (W : World) (v : Value) (L : List (List Int)) : Prop := W.ownsRow 0 36 64 v L.length (secs L) ∧ ∀ s ∈ L, s.length = 64
theorem SL.nil (W : World) : SL W (.slice none 0 0) [] := ⟨World.ownsRow_nil W _ _ _, fun s h => by cases h⟩
theorem SL.kept {W W' : World} {v : Value} {L : List (List Int)} (h : SL W v L) (hk : Kept W W') : SL W' v L := ⟨ownsRow_kept h.1 hk, h.2⟩
theorem SL.same {W W' : World} {v : Value} {L : List (List Int)} (h : SL W v L) (hs : ∀ g, v.ownBlock = some g → W'.heap[g]? = W.heap[g]?) : SL W' v L := ⟨own_same h.1 hs, h.2⟩
theorem SL.form {W : World} {v : Value} {L : List (List Int)} (h : SL W v L) : ∃ ao cap, v = .slice ao L.length cap ∧ ∀ i (hi : i < L.length), ∃ g, ao = some ⟨g, 0, none⟩ ∧ Cells W g (i * 64) (u8s L[i]) ∧ L[i].length = 64 := by
  rcases owns_form h.1 with ⟨rfl, h0, _⟩ | ⟨g, cap, rfl, hb, hg, hn, hc⟩
  · exact ⟨none, 0, by rw [h0], fun i hi => by omega⟩
  · refine ⟨_, cap, rfl, fun i hi => ⟨g, rfl, ?_, h.2 _ (List.getElem_mem _)⟩⟩
    have := cells_sec hc h.2 hi
    rwa [List.getD_eq_getElem?_getD, List.getElem?_eq_getElem hi, Option.getD_some] at this
theorem secs_snoc (L : List (List Int)) (s : List Int) : secs (L ++ [s]) = secs L ++ u8s s := by simp [secs, u8s]
theorem fill_sec (cells : Array Value) (s : List Int) (hc : cells.size = 64) (hs : s.length = 64) : Instr.fill (fun i => some (i * 64, 64)) cells [(0, .agg (u8s s).toArray)] = some (u8s s).toArray := by
  have hl := u8s_length s
  obtain ⟨r, hr, hsz, hk⟩ := Great.fill_dense (s := 64) (by decide) [.agg (u8s s).toArray] 0 cells (fun v hv => by rw [List.mem_singleton.1 hv]; show (u8s s).toArray.size = 64; rw [List.size_toArray, hl, hs]) (by rw [hc, List.length_singleton]; decide)
  refine hr.trans (congrArg some (Array.ext_getElem? fun k => ?_))
  rw [hk k]
  by_cases h : k < 64
  · rw [if_pos ⟨by omega, by show k < (0 + 1) * 64; omega⟩, Nat.div_eq_of_lt h, Nat.mod_eq_of_lt h]; rfl
  · rw [if_neg (by show ¬ (0 * 64 ≤ k ∧ k < (0 + 1) * 64); omega), Array.getElem?_eq_none (by omega), Array.getElem?_eq_none (by rw [List.size_toArray, hl, hs]; omega)]
/-- '[]api.Sector{s}', and what is appended to -/
theorem wpList_one_sec {ops : Array Oper} {rest : List Oper} {o : Oper} {a : Act} {w : World} {Q : Exit → Act → World → Prop} (hg : o.guard = none) (x : Operand) (ho : o.op = .buildSlice 64 1 #[(0, x)])
    (s : List Int) (hs : s.length = 64) (hx : a.eval x = .agg (u8s s).toArray)
    (h : ∀ w1, Hid (w1.heap[w.heap.size]? = some (.cells (u8s s).toArray 36 (0, 0))) → w.heap.size < w1.heap.size → Kept w w1 → wpList Try.prog ops Q rest (a.put o.dst (.slice (some ⟨w.heap.size, 0, none⟩) 1 1)) w1) : wpList Try.prog ops Q (o :: rest) a w := by
  have h1 := secs_info
  cases hi : Try.prog.info? 36 with
  | none => simp [hi] at h1
  | some i =>
    simp only [hi, Option.map_some, Option.some.injEq, Prod.mk.injEq] at h1
    refine wpList_buildSlice hg _ 36 1 _ ho (u8s s).toArray i _ Try.underlying64 hi h1.1 (by rw [h1.2.1]; decide) (by rw [h1.2.1]; decide) ?_ (h _ (Lib.hid (heap_alloc_new w _)) (by simp) ((Kept.refl _).alloc _))
    have he : (#[(0, x)].map fun (i, x) => ((i, a.eval x) : Nat × Value)).toList = [(0, .agg (u8s s).toArray)] := by simp [hx]
    rw [he, h1.2.1]
    exact fill_sec _ s (by simp) hs
section
variable {w0 W W' : World} {R : Nat → Prop} {q : Nat} {T : BankT} {v v' : Value}
theorem BK.grw (h : BK w0 R W q T) (hg : Grw W W' v v') (hR : ∀ k, v.ownBlock = some k → R k) (h0 : ∀ k, v.ownBlock = some k → w0.heap.size ≤ k) : BK w0 (fun k => R k ∨ v'.ownBlock = some k) W' q T := by
  rcases hg with ⟨e, hb⟩ | ⟨g, e, h1, h2, hk⟩
  · obtain ⟨Y, hy, h⟩ := h
    refine ⟨Y, hy, ⟨h.d.same fun b hb' => hb.block b (h.d.lt hb') (fun e' => (h.off b (hR b e')).2 hb'), But.to_kept h.keeps hb h0, h.own, fun k hk => ?_⟩⟩
    have hk' : R k := by
      rcases hk with hk | hk
      · exact hk
      · exact hR k (e ▸ hk)
    exact ⟨Nat.lt_of_lt_of_le (h.off k hk').1 hb.size, (h.off k hk').2⟩
  · refine (h.more hk g h1 h2).less fun k hk' => ?_
    rcases hk' with hk' | hk'
    · exact .inl hk'
    · rw [e] at hk'; exact .inr (by injection hk' with hk'; exact hk'.symm)
/-- one sector more in a slice beside the bank -/
theorem wpList_append_sec {ops : Array Oper} {rest : List Oper} {o : Oper} {a : Act} {Q : Exit → Act → World → Prop} (hgd : o.guard = none) (s x : Operand) (ho : o.op = .call { callee := .builtin .append, args := #[s, x], argTypes := #[64, 64] })
    (L : List (List Int)) (hs : a.eval s = v) (hv : SL W v L) (hl : L.length < 20000) (b : Nat) (hx : a.eval x = .slice (some ⟨b, 0, none⟩) 1 1) (z : List Int) (hz : z.length = 64) (hb : W.heap[b]? = some (.cells (u8s z).toArray 36 (0, 0)))
    (h : ∀ v' W', SL W' v' (L ++ [z]) → Grw W W' v v' → wpList Try.prog ops Q rest (a.put o.dst v') W') : wpList Try.prog ops Q (o :: rest) a W := by
  refine wpList_plain hgd fun K hK => ?_
  obtain ⟨v', W', hr, h1, h2⟩ := own_append ty_secs (b := b) hv.1 hl (by decide) (u8s z) (by rw [u8s_length, hz]) (fun j u hu => by
    have := cell_of_row W b j _ _ _ hb
    rw [this]; simpa using hu) (u8s_one _) o.type
  unfold Oper.wp execOp
  simp only [ho, resolve, invoke, builtin, Sem.run_bind, Sem.run_pure, Result.andThen_ok, List.map_toArray, List.map_cons, List.map_nil, hs, hx, hr]
  refine hK _ _ (h v' W' ⟨by rw [secs_snoc, List.length_append]; exact h1, fun t ht => ?_⟩ h2)
  rcases List.mem_append.1 ht with ht | ht
  · exact hv.2 t ht
  · rw [List.mem_singleton.1 ht]; exact hz
end
/-- the first six sectors of three disks -/
def BankT.six (T : BankT) : Nat → List (List Int)
  | 0 => []
  | k + 1 => BankT.six T k ++ [T.N (k % 3) (k / 3)]
theorem BankT.six_len (T : BankT) (k : Nat) : (T.six k).length = k := by
  induction k with
  | zero => rfl
  | succ k ih => rw [BankT.six, List.length_append, ih]; rfl
theorem BankT.six_at (T : BankT) (k i : Nat) (h : i < (T.six k).length) : (T.six k)[i] = T.N (i % 3) (i / 3) := by
  induction k with
  | zero => exact absurd h (Nat.not_lt_zero _)
  | succ k ih =>
    have hl := T.six_len k
    by_cases e : i < k
    · have : (T.six (k + 1))[i]? = (T.six k)[i]? := by rw [BankT.six, List.getElem?_append_left (by omega)]
      rw [List.getElem?_eq_getElem h, List.getElem?_eq_getElem (by omega)] at this
      rw [Option.some.inj this]; exact ih (by omega)
    · have e2 : i = k := by rw [BankT.six_len] at h; omega
      subst e2
      have : (T.six (i + 1))[i]? = some (T.N (i % 3) (i / 3)) := by rw [BankT.six, List.getElem?_append_right (by omega), hl]; simp
      rw [List.getElem?_eq_getElem h] at this
      exact Option.some.inj this
section
variable {w0 W : World} {R : Nat → Prop} {q : Nat} {T : BankT}
set_option maxHeartbeats 2000000
set_option maxRecDepth 100000
theorem law_sectors {z : Nat} (h : BK w0 R W q T) (u : T.Use) (hs : Still T 3 z) (hz : 2 ≤ z) :
    Calls Try.prog 41 #[.pointer (some ⟨q, 0, none⟩)] W fun e w' => ∃ v, e = .returned v ∧ SL w' v (T.six 6) ∧ BK w0 (fun k => R k ∨ v.ownBlock = some k) w' q T ∧ Kept W w' := by
  have HB0 := Lib.hid h; have HI := Lib.hid hs; have HZ := Lib.hid hz
  have HW := Lib.hid h.keeps
  have HU := Lib.hid u
  clear h hs hz u
  go_enter Try.func41, Try.ntmps41
  go_wp2
  go_loopw [3, 4] (fun v i wr => ∃ k : Nat, k ≤ 6 ∧ i = .int .i64 k ∧ Hid (SL wr v (T.six k) ∧ ∀ g, v.ownBlock = some g → W.heap.size ≤ g) ∧ Hid (BK w0 (fun k => R k ∨ v.ownBlock = some k) wr q T) ∧ Hid (Kept W wr)) (fun _ i _ => 6 - (intOf i).toNat)
  case atStart => exact ⟨0, Nat.zero_le _, rfl, Lib.hid ⟨SL.nil _, fun g h => by simp [Value.ownBlock] at h⟩, Lib.hid (HB0.out.less fun k hk => hk.elim id (fun h => by simp [Value.ownBlock] at h)), Lib.hid (Kept.refl _)⟩
  case round =>
    obtain ⟨k, hk, rfl, HS, HB, HK⟩ := hrel
    by_cases hlt : k < 6
    · have hdm : ((k : Int) % 3) = ((k % 3 : Nat) : Int) := by omega
      have hdq : ((k : Int) / 3) = ((k / 3 : Nat) : Int) := by omega
      have hdqt : (k : Int).tdiv 3 = ((k / 3 : Nat) : Int) := by rw [Int.tdiv_eq_ediv_of_nonneg (by omega)]; exact hdq
      have hdmt : (k : Int).tmod 3 = ((k % 3 : Nat) : Int) := by rw [Int.tmod_eq_emod_of_nonneg (by omega)]; exact hdm
      have hd3 : k % 3 < 3 := by omega
      have ha2 : k / 3 < z := by have := HZ.out; omega
      have HN : Hid (T.six (k + 1) = T.six k ++ [T.N (k % 3) (k / 3)]) := Lib.hid rfl
      have HR := Lib.hid (HI.out.read hd3 ha2)
      have HN64 : Hid ((T.N (k % 3) (k / 3)).length = 64) := Lib.hid (by have := (BankT.read_sec HI.out.inv ((k % 3 : Nat) : Int) ((k / 3 : Nat) : Int)).1; rw [HR.out] at this; exact this)
      have HL6 := Lib.hid (T.six_len k)
      generalize k % 3 = d at *
      generalize k / 3 = a at *
      generalize T.N d a = s at *
      clear hd3 ha2
      go_wp2_with fail
      refine Calls.mono (st_read HB.out HU.out (d : Int) (a : Int) HR.out) ?_
      rintro e w2 ⟨rfl, hb, hk2⟩
      have HB2 := Lib.hid hb
      have HS2 := Lib.hid (And.intro (HS.out.1.kept hk2) HS.out.2)
      have HK2 := Lib.hid (HK.out.trans hk2)
      clear hb hk2 HB HS HK hdm hdq hdqt hdmt
      go_wp2_with (refine stop_at (o := ⟨some 5, _, _, _, _, _⟩) ?_)
      refine Stop.mk ?_
      refine wpList_new_row rfl rfl _ _ rfl rfl ty_sec (u8s zeroB) zero_sec (by rw [u8s_length, zeroB_length]) (u8s s) rfl (by rw [u8s_length, HN64.out]) (u8s_one _) rfl ?_
      intro w4 hz4 hs4 hk4
      have HX4 := hz4
      have HB4 := Lib.hid (HB2.out.kept hk4).1
      have HS4 := Lib.hid (And.intro (HS2.out.1.kept hk4) HS2.out.2)
      have HK4 := Lib.hid (HK2.out.trans hk4)
      generalize w2.heap.size = X at *
      clear hz4 hs4 hk4 HB2 HS2 HK2
      go_wp2_with (refine stop_at (o := ⟨some 24, _, _, _, _, _⟩) ?_)
      refine Stop.mk ?_
      refine wpList_load_agg rfl _ rfl ty_sec X 0 rfl (u8s s) (by simpa using Cells.of_block HX4.out) (by rw [u8s_length, HN64.out]) ?_
      refine wpList_one_sec rfl _ rfl s HN64.out rfl ?_
      intro w5 hz5 hs5 hk5
      have HB5 := Lib.hid (HB4.out.kept hk5).1
      have HS5 := Lib.hid (And.intro (HS4.out.1.kept hk5) HS4.out.2)
      have HK5 := Lib.hid (HK4.out.trans hk5)
      clear hs5 hk5 HB4 HS4 HK4 HX4
      refine wpList_append_sec rfl _ _ rfl (T.six k) rfl HS5.out.1 (by rw [HL6.out]; omega) w4.heap.size rfl s HN64.out hz5.out ?_
      intro v' w6 hsl hgr
      have HB6 : Hid (BK w0 (fun k => R k ∨ v'.ownBlock = some k) w6 q T) := Lib.hid ((HB5.out.grw hgr (fun k hk => .inr hk) (fun k hk => Nat.le_trans HW.out.size (HS5.out.2 k hk))).less fun k hk => hk.elim (fun h => .inl (.inl h)) .inr)
      have HS6 : Hid (SL w6 v' (T.six (k + 1)) ∧ ∀ g, v'.ownBlock = some g → W.heap.size ≤ g) := Lib.hid ⟨by rw [HN.out]; exact hsl, fun g hg => by
        rcases hgr with ⟨e, _⟩ | ⟨g', e, h1, _, _⟩
        · exact HS5.out.2 g (e ▸ hg)
        · rw [e] at hg; injection hg with hg
          have := HK5.out.size; omega⟩
      have HK6 : Hid (Kept W w6) := Lib.hid (by
        rcases hgr with ⟨_, hb⟩ | ⟨_, _, _, _, hk⟩
        · exact But.to_kept HK5.out hb (fun k hk => HS5.out.2 k hk)
        · exact HK5.out.trans hk)
      clear hsl hgr hz5 HB5 HS5 HK5
      go_wp2
      go_roundw
      case rel => exact ⟨k + 1, hlt, by go_num, HS6, HB6, HK6⟩
      case measure => simp [intOf]; omega
    · have hk6 : k = 6 := by omega
      subst hk6
      clear hlt
      go_wp2
      go_ret
      exact ⟨_, rfl, HS.out.1, HB.out, HK.out⟩
end
set_option maxRecDepth 100000 in
theorem open_ssrc {H : Type} {enc : TypeId × Value → H} {w : World} {base : Nat} {spare : Nat → Bool} {held : Bool} {fuel : Nat} {v : Value} {x : DataW H × List MemPlace}
    (h : DataW.trod enc Try.prog w base spare held fuel 64 [v] = some x) : ∃ l, SSrc w v l := by
  rcases Go.Deep.open_slice Try.underlying64 h with ⟨hcs, _⟩ | ⟨a, len, cap, m, n, D, Pl, hcs, _, hl, hmx, hm, _, hi⟩
  · simp at hcs; subst hcs; exact ⟨[], SSrc.nil w⟩
  simp at hcs
  subst hcs
  have hlm : len ≤ m := by rw [hm]; split <;> omega
  have hu : Try.prog.underlying 36 = some (.array 64 5) := by kernel_rfl
  have hC : Try.prog.cellsOf 36 = 64 := by kernel_rfl
  have hC1 : Try.prog.cellsOf 5 = 1 := by kernel_rfl
  have key : ∀ i, ∃ s : List Int, i < len → (∀ j, j < 64 → w.cell? ((a.add (i * 64)).add j) = some (.int .u8 (s.getD j 0))) ∧ s.length = 64 ∧ ∀ x ∈ s, IsByte x := by
    intro i
    by_cases hil : i < len
    · obtain ⟨cs', hc, ht⟩ := hi i (by omega)
      rw [hC] at hc
      obtain ⟨_, hcl, hat⟩ := World.cells?_some hc
      obtain ⟨xs, n', _, _, _, hxl, hf⟩ := DataW.trod_array hu ht
      have k2 : ∀ j, ∃ z : Int, j < 64 → cs'[j]? = some (.int .u8 z) ∧ IsByte z := by
        intro j
        by_cases hj : j < 64
        · have h1 := hf j hj
          rw [hC1, Nat.mul_one, List.getElem?_eq_getElem (by omega)] at h1
          have h2 : (cs'.drop j).take 1 = [cs'[j]] := by rw [List.drop_eq_getElem_cons (by omega)]; rfl
          rw [h2] at h1
          obtain ⟨z, hz, _, hw⟩ := DataW.trod_int Try.underlying5 h1
          simp at hz
          refine ⟨z, fun _ => ⟨by rw [List.getElem?_eq_getElem (by omega), hz], ?_⟩⟩
          simp [Lit.wf, IntKind.min, IntKind.max, IntKind.signed, IntKind.bits] at hw
          exact ⟨by omega, by omega⟩
        · exact ⟨0, fun h => absurd h hj⟩
      obtain ⟨f, hf'⟩ := Classical.axiomOfChoice k2
      refine ⟨(List.range 64).map f, fun _ => ⟨fun j hj => ?_, by simp, fun x hx => ?_⟩⟩
      · have h1 := (hf' j hj).1
        have h2 := hat j (by omega)
        rw [h2, h1]
        simp [List.getD_eq_getElem?_getD, hj]
      · simp only [List.mem_map, List.mem_range] at hx
        obtain ⟨j, hj, rfl⟩ := hx
        exact (hf' j hj).2
    · exact ⟨[], fun h' => absurd h' hil⟩
  obtain ⟨f, hf⟩ := Classical.axiomOfChoice key
  refine ⟨(List.range len).map f, some a, cap, by simp, by simpa using hl, hmx, fun k hk => ?_⟩
  have hk' : k < len := by simpa using hk
  obtain ⟨h1, h2, h3⟩ := hf k hk'
  obtain ⟨b, off, spot⟩ := a
  have hsp := World.cell?_spot ((hf 0 (by omega)).1 0 (by decide))
  have hspot : spot = none := by simpa [Addr.add] using hsp
  subst hspot
  have e : ((List.range len).map f)[k] = f k := by simp
  refine ⟨b, off, rfl, ?_, by rw [e]; exact h2, by rw [e]; exact h3⟩
  rw [e]
  intro j hj
  rw [u8s_length, h2] at hj
  have := h1 j hj
  simp only [Addr.add_mid] at this
  rw [this]
  simp [u8s, List.getD_eq_getElem?_getD, List.getElem?_eq_getElem (show j < (f k).length by omega)]
end Go.Proofs.Ytcbghpcohbgcjaa
/- Labels of the laws: what both LabelNewer and LabelLasts use. -/
namespace Go.Proofs.Ytcbghpcohbgcjaa
open Go.RowKit
set_option linter.unusedVariables false
set_option linter.unusedSimpArgs false

theorem sec64 {l : Lab} (h : rightB l = true) : l.sec.length = 64 := Lab.sec_length _ (by
  simp only [rightB, headB, inB, Bool.and_eq_true, decide_eq_true_eq] at h; omega)
attribute [local go_sem ↓] Go.wp_at_zero Go.wp_at_succ
set_option maxHeartbeats 1000000 in
set_option maxRecDepth 100000 in
/-- plain's members lie in a block of their own -/
theorem law_plain_own (gen member : Int) (w : World) :
    Calls Try.prog 42 #[.int .i64 gen, .int .i64 member] w fun e w' => ∃ sl b, e = .returned ((plainL gen member).val sl) ∧ MSl w' sl plainMs ∧ sl.ownBlock = some b ∧ w.heap.size ≤ b ∧ b < w'.heap.size ∧ Kept w w' := by
  go_enter Try.func42, Try.ntmps42
  go_wp2_with (refine wpList_store_agg rfl _ _ rfl ty_lab w.heap.size 0 rfl [.int .i64 9, .int .i64 gen, .int .i64 member, .int .i64 16, .slice (some ⟨w.heap.size + 1, 0, none⟩) 3 3] rfl rfl (lab_one (plainL gen member) _ rfl) [.int .i64 0, .int .i64 0, .int .i64 0, .int .i64 0, .slice none 0 0] 71 (((Kept.refl _).alloc _).block (heap_alloc_new w _)) (by decide) ?_; intro w1 hw1)
  replace hw1 := hw1.all rfl
  refine bodyPost_ret (results_lab1 rfl _ _ w.heap.size (plainL gen member) (.slice (some ⟨w.heap.size + 1, 0, none⟩) 3 3) rfl hw1.cells) rfl ?_
  refine ⟨_, w.heap.size + 1, rfl, .inr ⟨w.heap.size + 1, 0, 3, rfl, ?_⟩, rfl, by omega, by rw [hw1.size, World.size_alloc, World.size_alloc]; omega, hw1.kept (((Kept.refl _).alloc _).alloc _) (by omega)⟩
  refine MRow.of_cells ?_
  have h2 := heap_alloc_new (w.alloc (Obj.cells #[.int .i64 0, .int .i64 0, .int .i64 0, .int .i64 0, .slice none 0 0] 71)) (Obj.cells (mvals plainMs).toArray 122)
  rw [World.size_alloc] at h2
  exact Cells.of_block (by rw [hw1.oth (w.heap.size + 1) (by omega)]; exact h2)
theorem plain_right2 (g m : Nat) (h1 : 1 ≤ g) (h2 : g ≤ 4294967295) (hm : m < 3) : rightB (plainL (g : Int) (m : Int)) = true := by
  have h3 : m = 0 ∨ m = 1 ∨ m = 2 := by omega
  have e1 : inB (g : Int) 1 4294967295 = true := by simp [inB]; omega
  rcases h3 with rfl | rfl | rfl
  all_goals
    unfold rightB headB
    show ((inB 9 0 4294967295 && (inB (g : Int) 1 4294967295 && _)) && _) = true
    rw [e1]
    rfl
/-- what Load tells of a member's two labels -/
theorem load_two {T : BankT} (h : Still T 3 200) {d : Nat} (hd : d < 3) : T.loadL (d : Int) = pickL (candL (d : Int) (T.N d 0) ++ candL (d : Int) (T.N d 1)) := by
  have r0 := h.read hd (show 0 < 200 by decide)
  have r1 := h.read hd (show 1 < 200 by decide)
  unfold BankT.loadL
  rw [show ((0 : Nat) : Int) = 0 from rfl] at r0
  rw [show ((1 : Nat) : Int) = 1 from rfl] at r1
  rw [r0, r1, if_neg (fun h => h rfl), if_neg (fun h => h rfl)]
theorem cand_lab {l : Lab} (hr : rightB l = true) (d : Int) : candL d l.sec = if l.member = d then [l] else [] := by
  unfold candL
  rw [sec_ok l hr, parse_sec l hr]
  by_cases e : l.member = d
  · rw [if_pos ⟨rfl, e⟩, if_pos e]
  · rw [if_neg (fun h => e h.2), if_neg e]
theorem cand_zero (d : Int) : candL d zeroB = [] := if_neg (fun h => by rw [zero_no] at h; cases h.1)
end Go.Proofs.Ytcbghpcohbgcjaa
