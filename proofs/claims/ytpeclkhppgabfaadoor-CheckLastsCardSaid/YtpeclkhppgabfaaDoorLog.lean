/- metalog.New, Room, Next, fails, member walked. -/
import Derived.Test.YtpeclkhppgabfaaDoorScn
import Derived.Lib.SliceRun
namespace Go.Proofs.YtpeclkhppgabfaaDoor
open Go.RowKit
set_option linter.unusedVariables false
set_option linter.unusedSimpArgs false

structure LogT where
  gen : Int
  num : Nat
  pos : Nat
  dead : Bool
def logVals (q lg n c : Nat) (t : LogT) : List Value := [.pointer (some ⟨q, 0, none⟩), .slice (some ⟨lg, 0, none⟩) n c, .int .i64 t.gen, .int .i64 (t.num : Int), .int .i64 (t.pos : Int), .bool t.dead]
/-- a log in block p over the bank in block q -/
structure LogD (W : World) (p q lg c : Nat) (L : List Int) (t : LogT) : Prop where
  blk : W.heap[p]? = some (.cells (logVals q lg L.length c t).toArray 101 (0, 0))
  live : Cells W lg 0 (ints L)
section
variable {W W' : World} {p q lg c : Nat} {L : List Int} {t : LogT} {R : Nat → Prop}
theorem LogD.kept (h : LogD W p q lg c L t) (hk : Kept W W') : LogD W' p q lg c L t := ⟨hk.block h.blk, h.live.kept hk⟩
theorem LogD.same (h : LogD W p q lg c L t) (hs : SameR R W W') (hp : R p) (hl : R lg) : LogD W' p q lg c L t := ⟨(hs p hp).trans h.blk, hs.cells hl h.live⟩
theorem LogD.c0 (h : LogD W p q lg c L t) : W.cell? ⟨p, 0, none⟩ = some (.pointer (some ⟨q, 0, none⟩)) := cell_of_row _ _ 0 _ _ _ h.blk
theorem LogD.c1 (h : LogD W p q lg c L t) : W.cell? ⟨p, 1, none⟩ = some (.slice (some ⟨lg, 0, none⟩) L.length c) := cell_of_row _ _ 1 _ _ _ h.blk
theorem LogD.c2 (h : LogD W p q lg c L t) : W.cell? ⟨p, 2, none⟩ = some (.int .i64 t.gen) := cell_of_row _ _ 2 _ _ _ h.blk
theorem LogD.c3 (h : LogD W p q lg c L t) : W.cell? ⟨p, 3, none⟩ = some (.int .i64 (t.num : Int)) := cell_of_row _ _ 3 _ _ _ h.blk
theorem LogD.c4 (h : LogD W p q lg c L t) : W.cell? ⟨p, 4, none⟩ = some (.int .i64 (t.pos : Int)) := cell_of_row _ _ 4 _ _ _ h.blk
theorem LogD.c5 (h : LogD W p q lg c L t) : W.cell? ⟨p, 5, none⟩ = some (.bool t.dead) := cell_of_row _ _ 5 _ _ _ h.blk
end
theorem eq_nilR (w : World) (a : Option Addr) (n c : Nat) : (binOp .eql 28 (.slice a n c) (.slice none 0 0)).run Tryd.prog w = .ok (.bool a.isNone) w := by
  simp only [binOp]
  simp [Op.equal, Op.maxDepth, Lib.run_equalIn_slice_nil w 9999 28 3 a n c 0 0 Tryd.underlying28]
theorem ty_intsR : ElemT Tryd.prog 28 3 1 8 := by
  obtain ⟨i, h1, h2, h3, h4⟩ := info_parts (P := Tryd.prog) (e := 3) (z := .int .i64 0) (size := 1) (bytes := 8) (by kernel_rfl)
  exact ⟨by kernel_rfl, ⟨i, _, h1, h2, h3, h4, by rfl⟩, by decide⟩
theorem ints_oneR (l : List Int) : ∀ u ∈ ints l, u.oneCell' = true := by
  intro u hu
  simp only [ints, List.mem_map] at hu
  obtain ⟨n, _, rfl⟩ := hu
  rfl
set_option maxHeartbeats 2000000 in
set_option maxRecDepth 100000 in
theorem ints_CloneR (l : List Int) (b c : Nat) (w : World) (h0 : 0 < l.length) (hl : l.length ≤ 4096) (hc : l.length ≤ c) (hr : Cells w b 0 (ints l)) :
    Calls Tryd.prog 50 #[.slice (some ⟨b, 0, none⟩) l.length c] w fun e w' => ∃ g cap, e = .returned (.slice (some ⟨g, 0, none⟩) l.length cap) ∧ Cells w' g 0 (ints l) ∧ w.heap.size ≤ g ∧ g < w'.heap.size ∧ Kept w w' := by
  have HR := Lib.hid hr; clear hr
  have e1 := eq_nilR
  have ka : ∀ o, Kept w (w.alloc o) := fun o => (Kept.refl _).alloc o
  go_enter Tryd.func50, Tryd.ntmps50
  go_wp2_with (at_builtin; refine stop_at ?_)
  refine Stop.mk ?_
  refine wpList_append_app _ rfl _ _ rfl ty_intsR w.heap.size (.slice (some ⟨w.heap.size, 0, none⟩) 0 0) 0 [] rfl (.inr ⟨rfl, _, rfl, by simp, by simp⟩) _ l.length (ints l) rfl (Src.of_cells (Cells.kept HR.out (ka _)) (by rw [ints_length, Nat.mul_one]) hc) (ints_oneR l) (by simp only [maxLen]; omega) (by omega) (by simp) ?_
  intro v' w' _ _ hb hown
  have ho := hown (.inl h0)
  rw [Nat.zero_add, List.nil_append] at ho
  clear hown
  have HK := Lib.hid (show Kept w w' from (ka _).below (Nat.le_refl _) hb)
  rcases owns_form ho with ⟨_, h, _⟩ | ⟨g, cap, rfl, hg, hlt, hn, hcl⟩
  · omega
  have HG := Lib.hid (And.intro hcl (And.intro hg hlt))
  clear ho hb hcl hg hlt hn
  go_wp2
  go_ret
  exact ⟨g, cap, rfl, HG.out.1, HG.out.2.1, HG.out.2.2, HK.out⟩
set_option maxHeartbeats 2000000 in
set_option maxRecDepth 100000 in
theorem meta_New (q B c : Nat) (L : List Int) (gen : Int) (w : World) (h0 : 0 < L.length) (hl : L.length ≤ 4096) (hc : L.length ≤ c) (hr : Cells w B 0 (ints L)) :
    Calls Tryd.prog 25 #[.pointer (some ⟨q, 0, none⟩), .slice (some ⟨B, 0, none⟩) L.length c, .int .i64 gen] w fun e w' => ∃ p lg cap, e = .returned (.pointer (some ⟨p, 0, none⟩)) ∧ LogD w' p q lg cap L ⟨gen, 0, 0, false⟩ ∧ w.heap.size ≤ lg ∧ lg < p ∧ p < w'.heap.size ∧ Kept w w' := by
  have HR := Lib.hid hr; clear hr
  go_enter Tryd.func25, Tryd.ntmps25
  go_wp2_with fail
  refine Calls.mono (ints_CloneR L B c _ h0 hl hc HR.out) ?_
  rintro e w1 ⟨lg, cap, rfl, hlg, hge, hlt, hk1⟩
  have HL := Lib.hid hlg
  have HE := Lib.hid (And.intro hge hlt)
  have HK := Lib.hid hk1
  clear hlg hge hlt hk1
  go_wp2_with (refine stop_at (o := ⟨some 12, _, _, _, _, _⟩) ?_)
  refine Stop.mk ?_
  refine wpList_box_row rfl _ _ rfl (logVals q lg L.length cap ⟨gen, 0, 0, false⟩) rfl ?_
  intro w2 hz2 hs2 hk2
  have HZ := hz2
  have HK2 := Lib.hid (HK.out.trans hk2)
  have HL2 := Lib.hid (HL.out.kept hk2)
  have HS := Lib.hid (And.intro HE.out.2 hs2)
  generalize w1.heap.size = p at *
  clear hz2 hs2 hk2
  go_wp2
  go_ret
  exact ⟨p, lg, cap, rfl, ⟨HZ.out, HL2.out⟩, HE.out.1, HS.out.1, HS.out.2, HK2.out⟩
section
variable {w0 W : World} {R : Nat → Prop} {p q lg c : Nat} {T : BankT} {L : List Int} {t : LogT}
set_option maxHeartbeats 2000000
set_option maxRecDepth 100000
theorem meta_Room (h : LogD W p q lg c L t) (hp : t.pos ≤ 48) : Calls Tryd.prog 28 #[.pointer (some ⟨p, 0, none⟩)] W fun e w' => e = .returned (.int .i64 (48 - (t.pos : Int))) ∧ W = w' := by
  have c4 := h.c4
  clear h
  go_enter Tryd.func28, Tryd.ntmps28
  go_wp2
  go_ret
  exact ⟨rfl, rfl⟩
theorem meta_Next (h : LogD W p q lg c L t) : Calls Tryd.prog 29 #[.pointer (some ⟨p, 0, none⟩)] W fun e w' => e = .returned (.int .i64 (t.num : Int)) ∧ W = w' := by
  have c3 := h.c3
  clear h
  go_enter Tryd.func29, Tryd.ntmps29
  go_wp2
  go_ret
  exact ⟨rfl, rfl⟩
theorem meta_fails (h : LogD W p q lg c L t) (x : Int) : Calls Tryd.prog 53 #[.pointer (some ⟨p, 0, none⟩), .int .i64 x] W fun e w' => e = .returned (.int .i64 x) ∧ Wrote W w' p (logVals q lg L.length c { t with dead := true }) 101 := by
  have HB := Lib.hid h.blk
  clear h
  go_enter Tryd.func53, Tryd.ntmps53
  go_wp2_with (refine stop_at (o := ⟨none, .store _ _ _, _, _, _, _⟩) ?_)
  refine Stop.mk ?_
  refine wpList_set_cell rfl _ _ rfl size_bool p 5 rfl (.bool true) rfl rfl rfl _ _ HB.out (show 5 < 6 by decide) ?_
  intro w1 hw1
  have HW : Hid (Wrote W w1 p (logVals q lg L.length c { t with dead := true }) 101) := Lib.hid hw1
  clear hw1
  go_wp2
  go_ret
  exact ⟨rfl, HW.out⟩
theorem meta_member (h : BK w0 R W q T) (hl : LogD W p q lg c L t) (hp : R p) (hlg : R lg) (P : List (List Int)) (hP : ∀ s ∈ P, SecB s) (hPl : P.length ≤ 4000) (u : T.UseN P.length) (d : Int) (hpos : t.pos ≤ 48) (X : Nat) (hX : R X) (hXs : W.heap[X]? = some (.cells (secs P).toArray 39 (0, 0))) :
    Calls Tryd.prog 51 #[.pointer (some ⟨p, 0, none⟩), .int .i64 d, .slice (some ⟨X, 0, none⟩) P.length P.length] W fun e w' => e = .returned (.int .i64 (BankT.layL d (2 + (t.pos : Int)) P T).2) ∧ BK w0 R w' q (BankT.layL d (2 + (t.pos : Int)) P T).1 ∧ SameR R W w' := by
  obtain ⟨Tr, cr, hres⟩ : ∃ Tr cr, BankT.layL d (2 + (t.pos : Int)) P T = (Tr, cr) := ⟨_, _, rfl⟩
  rw [hres]
  have HRES := Lib.hid (show BankT.layL d (2 + (t.pos : Int) + ((0 : Nat) : Int)) (P.drop 0) T = (Tr, cr) by rw [show 2 + (t.pos : Int) + ((0 : Nat) : Int) = 2 + (t.pos : Int) by omega]; exact hres)
  have HB0 := Lib.hid h
  have HU0 := Lib.hid (show T.UseN (P.length - 0) from u)
  have HX0 := Lib.hid hXs
  have HP := Lib.hid hP
  have HR := Lib.hid (And.intro hX (And.intro hp hlg))
  have HL0 := Lib.hid hl
  obtain ⟨gen, num, pos, dead⟩ := t
  simp only [] at hpos HRES HL0
  clear h hP u hX hp hlg hXs hres hl
  go_enter Tryd.func51, Tryd.ntmps51
  go_wp2
  go_loopw [12] (fun i wr => ∃ (k : Nat) (T : BankT), k ≤ P.length ∧ i = .int .i64 k ∧ Hid (BankT.layL d (2 + (pos : Int) + (k : Int)) (P.drop k) T = (Tr, cr)) ∧ Hid (T.UseN (P.length - k)) ∧ Hid (BK w0 R wr q T) ∧ Hid (SameR R W wr)) (fun i _ => P.length - (intOf i).toNat)
  case atStart => exact ⟨0, T, Nat.zero_le _, rfl, HRES, HU0, HB0, Lib.hid (SameR.refl _ _)⟩
  case round =>
    clear HRES HU0 HB0
    obtain ⟨k, T, hk, rfl, HRES, HU, HB, HS⟩ := hrel
    have HL := Lib.hid (HL0.out.same HS.out HR.out.2.1 HR.out.2.2)
    by_cases hlt : k < P.length
    · have HX := Lib.hid (SecsIn.cells ((HS.out X HR.out.1).trans HX0.out) HP.out hlt)
      have HSB := Lib.hid (getD_sec HP.out hlt)
      replace HRES : Hid (BankT.layL d (2 + (pos : Int) + (k : Int)) (P.getD k [] :: P.drop (k + 1)) T = (Tr, cr)) := Lib.hid (by rw [← drop_at hlt]; exact HRES.out)
      obtain ⟨s, hse⟩ : ∃ s, P.getD k [] = s := ⟨_, rfl⟩
      rw [hse] at HX HSB HRES
      clear hse
      obtain ⟨T1, c1, hw⟩ : ∃ T1 c1, T.write d (2 + (pos : Int) + (k : Int)) s = (T1, c1) := ⟨_, _, rfl⟩
      have hu : T.UseN (P.length - (k + 1) + 1) := by rw [show P.length - (k + 1) + 1 = P.length - k by omega]; exact HU.out
      have hu1 := hu.write d (2 + (pos : Int) + (k : Int)) HSB.out
      rw [hw] at hu1
      have HU1 := Lib.hid hu1
      have HUS := Lib.hid HU.out.use
      have HW := Lib.hid hw
      unfold BankT.layL at HRES
      rw [hw] at HRES
      simp only [] at HRES hu1 HU1
      clear hu hu1 hw HU
      go_wp2_with (refine stop_at (o := ⟨some 16, _, _, _, _, _⟩) ?_)
      refine Stop.mk ?_
      refine wpList_load_agg rfl _ rfl ty_sec X (k * 64) rfl (u8s s) HX.out (by rw [u8s_length, HSB.out.1]) ?_
      go_wp2_with (refine stop_at (o := ⟨some 8, _, _, _, _, _⟩) ?_)
      refine Stop.mk ?_
      refine wpList_alloc_abs rfl 39 rfl (u8s zeroB) zero_sec ?_
      intro w1 hz1 hs1 hn1 hk1
      have HYN := Lib.hid (show ∀ k', R k' → k' ≠ wr.heap.size from fun k' hk' e => by have := (by obtain ⟨_, _, hh⟩ := HB.out; exact (hh.off k' hk').1 : k' < wr.heap.size); omega)
      have hY : wr.heap.size ≤ wr.heap.size := Nat.le_refl _
      have HBY := Lib.hid (HB.out.more hk1 wr.heap.size (Nat.le_refl _) hs1)
      have HW0 := Lib.hid HB.out.keeps.size
      have HS1 := Lib.hid (HS.out.trans (HB.out.kept hk1).2)
      generalize wr.heap.size = Y at *
      clear hs1 hn1 hY
      go_wp2_with (refine stop_at (o := ⟨none, .store _ _ _, _, _, _, _⟩) ?_)
      refine Stop.mk ?_
      refine wpList_store_agg rfl _ _ rfl ty_sec Y 0 rfl (u8s s) rfl (by rw [u8s_length, HSB.out.1]) (u8s_one _) (u8s zeroB) _ hz1.out (by simp [u8s_length, zeroB_length]) ?_
      intro w2 hw2
      replace hw2 := hw2.all (by rw [u8s_length, u8s_length, zeroB_length, HSB.out.1])
      have HY2 := Lib.hid hw2.blk
      have HB2 := Lib.hid (HBY.out.wrote hw2 (.inr rfl) HW0.out)
      have HS2 := Lib.hid (HS1.out.trans (BK.wrote_same (R := R) hw2 HYN.out))
      have HL2 := Lib.hid (HL0.out.same HS2.out HR.out.2.1 HR.out.2.2)
      clear hw2 hk1 hz1 HB HS HX HL HBY HS1
      go_upto_region 4 with fail
      have HBd := Lib.hid (HB2.out.kept (Kept.refl w2).drew).1
      have HSd := Lib.hid (HS2.out.trans fun k' hk' => (HB2.out.kept (Kept.refl w2).drew).2 k' (.inl hk'))
      have hS : w2.drew.heap[p]? = some (.cells (logVals q lg L.length c ⟨gen, num, pos, dead⟩).toArray 101 (0, 0)) ∧ w2.drew.heap[Y]? = some (.cells (u8s s).toArray 39 (0, 0)) := ⟨HL2.out.blk, HY2.out⟩
      refine wp_region_calm ?_
      refine wp_region_E (fun W => W.heap[p]? = some (.cells (logVals q lg L.length c ⟨gen, num, pos, dead⟩).toArray 101 (0, 0)) ∧ W.heap[Y]? = some (.cells (u8s s).toArray 39 (0, 0))) 100 (by kernel_rfl) ?_
      refine wpAnyE_take (i := 0) (v := ?_) (listed' := #[true, false, false, false, false, false, false, false, false, false, false, false, false, false, false, false]) (by rfl) (by kernel_rfl) (by kernel_rfl) calm_put hS (by rfl) ?_ ?_
      rotate_left
      · intro W hW; clear hW; go_simp; try (with_reducible rfl)
      simp only [Act.put, List.getElem_toArray, List.getElem_cons_succ, List.getElem_cons_zero, List.setIfInBounds_toArray, List.set_cons_zero, List.set_cons_succ]
      refine wpAnyE_take (i := 1) (v := ?_) (listed' := #[true, true, false, false, false, false, false, false, false, false, false, false, false, false, false, false]) (by rfl) (by kernel_rfl) (by kernel_rfl) calm_put hS (by rfl) ?_ ?_
      rotate_left
      · intro W hW; clear hW; go_simp; try (with_reducible rfl)
      simp only [Act.put, List.getElem_toArray, List.getElem_cons_succ, List.getElem_cons_zero, List.setIfInBounds_toArray, List.set_cons_zero, List.set_cons_succ]
      refine wpAnyE_take (i := 2) (v := ?_) (listed' := #[true, true, true, false, false, false, false, false, false, false, false, false, false, false, false, false]) (by rfl) (by kernel_rfl) (by kernel_rfl) calm_put hS (by rfl) ?_ ?_
      rotate_left
      · intro W hW; clear hW; go_simp; try (with_reducible rfl)
      simp only [Act.put, List.getElem_toArray, List.getElem_cons_succ, List.getElem_cons_zero, List.setIfInBounds_toArray, List.set_cons_zero, List.set_cons_succ]
      refine wpAnyE_take (i := 3) (v := .pointer (some ⟨q, 0, none⟩)) (listed' := #[true, true, true, true, false, false, false, false, false, false, false, false, false, false, false, false]) (by rfl) (by kernel_rfl) (by kernel_rfl) calm_put hS (by rfl) ?_ ?_
      · intro W hW; skip; have hc0 : W.cell? ⟨p, 0, none⟩ = some (.pointer (some ⟨q, 0, none⟩)) := cell_of_row _ _ 0 _ _ _ hW.1; clear hW; go_simp; try (with_reducible rfl)
      simp only [Act.put, List.getElem_toArray, List.getElem_cons_succ, List.getElem_cons_zero, List.setIfInBounds_toArray, List.set_cons_zero, List.set_cons_succ]
      refine wpAnyE_take (i := 4) (v := ?_) (listed' := #[true, true, true, true, true, false, false, false, false, false, false, false, false, false, false, false]) (by rfl) (by kernel_rfl) (by kernel_rfl) calm_put hS (by rfl) ?_ ?_
      rotate_left
      · intro W hW; clear hW; go_simp; try (with_reducible rfl)
      simp only [Act.put, List.getElem_toArray, List.getElem_cons_succ, List.getElem_cons_zero, List.setIfInBounds_toArray, List.set_cons_zero, List.set_cons_succ]
      refine wpAnyE_take (i := 5) (v := ?_) (listed' := #[true, true, true, true, true, true, false, false, false, false, false, false, false, false, false, false]) (by rfl) (by kernel_rfl) (by kernel_rfl) calm_put hS (by rfl) ?_ ?_
      rotate_left
      · intro W hW; clear hW; go_simp; try (with_reducible rfl)
      simp only [Act.put, List.getElem_toArray, List.getElem_cons_succ, List.getElem_cons_zero, List.setIfInBounds_toArray, List.set_cons_zero, List.set_cons_succ]
      refine wpAnyE_take (i := 6) (v := ?_) (listed' := #[true, true, true, true, true, true, true, false, false, false, false, false, false, false, false, false]) (by rfl) (by kernel_rfl) (by kernel_rfl) calm_put hS (by rfl) ?_ ?_
      rotate_left
      · intro W hW; clear hW; go_simp; try (with_reducible rfl)
      simp only [Act.put, List.getElem_toArray, List.getElem_cons_succ, List.getElem_cons_zero, List.setIfInBounds_toArray, List.set_cons_zero, List.set_cons_succ]
      refine wpAnyE_take (i := 7) (v := ?_) (listed' := #[true, true, true, true, true, true, true, true, false, false, false, false, false, false, false, false]) (by rfl) (by kernel_rfl) (by kernel_rfl) calm_put hS (by rfl) ?_ ?_
      rotate_left
      · intro W hW; clear hW; go_simp; try (with_reducible rfl)
      simp only [Act.put, List.getElem_toArray, List.getElem_cons_succ, List.getElem_cons_zero, List.setIfInBounds_toArray, List.set_cons_zero, List.set_cons_succ]
      refine wpAnyE_take (i := 8) (v := .int .i64 (pos : Int)) (listed' := #[true, true, true, true, true, true, true, true, true, false, false, false, false, false, false, false]) (by rfl) (by kernel_rfl) (by kernel_rfl) calm_put hS (by rfl) ?_ ?_
      · intro W hW; skip; have hc4 : W.cell? ⟨p, 4, none⟩ = some (.int .i64 (pos : Int)) := cell_of_row _ _ 4 _ _ _ hW.1; clear hW; go_simp; try (with_reducible rfl)
      simp only [Act.put, List.getElem_toArray, List.getElem_cons_succ, List.getElem_cons_zero, List.setIfInBounds_toArray, List.set_cons_zero, List.set_cons_succ]
      refine wpAnyE_take (i := 9) (v := ?_) (listed' := #[true, true, true, true, true, true, true, true, true, true, false, false, false, false, false, false]) (by rfl) (by kernel_rfl) (by kernel_rfl) calm_put hS (by rfl) ?_ ?_
      rotate_left
      · intro W hW; clear hW; go_simp; try (with_reducible rfl)
      simp only [Act.put, List.getElem_toArray, List.getElem_cons_succ, List.getElem_cons_zero, List.setIfInBounds_toArray, List.set_cons_zero, List.set_cons_succ]
      refine wpAnyE_take (i := 10) (v := ?_) (listed' := #[true, true, true, true, true, true, true, true, true, true, true, false, false, false, false, false]) (by rfl) (by kernel_rfl) (by kernel_rfl) calm_put hS (by rfl) ?_ ?_
      rotate_left
      · intro W hW; clear hW; go_simp; try (with_reducible rfl)
      simp only [Act.put, List.getElem_toArray, List.getElem_cons_succ, List.getElem_cons_zero, List.setIfInBounds_toArray, List.set_cons_zero, List.set_cons_succ]
      refine wpAnyE_take (i := 11) (v := ?_) (listed' := #[true, true, true, true, true, true, true, true, true, true, true, true, false, false, false, false]) (by rfl) (by kernel_rfl) (by kernel_rfl) calm_put hS (by rfl) ?_ ?_
      rotate_left
      · intro W hW; clear hW; go_simp; try (with_reducible rfl)
      simp only [Act.put, List.getElem_toArray, List.getElem_cons_succ, List.getElem_cons_zero, List.setIfInBounds_toArray, List.set_cons_zero, List.set_cons_succ]
      refine wpAnyE_take (i := 12) (v := ?_) (listed' := #[true, true, true, true, true, true, true, true, true, true, true, true, true, false, false, false]) (by rfl) (by kernel_rfl) (by kernel_rfl) calm_put hS (by rfl) ?_ ?_
      rotate_left
      · intro W hW; clear hW; go_simp; try (with_reducible rfl)
      simp only [Act.put, List.getElem_toArray, List.getElem_cons_succ, List.getElem_cons_zero, List.setIfInBounds_toArray, List.set_cons_zero, List.set_cons_succ]
      refine wpAnyE_take (i := 13) (v := .agg (u8s s).toArray) (listed' := #[true, true, true, true, true, true, true, true, true, true, true, true, true, true, false, false]) (by rfl) (by kernel_rfl) (by kernel_rfl) calm_put hS (by rfl) ?_ ?_
      · intro W hW; skip; exact exec_load_sec _ rfl Y rfl s HSB.out.1 (by simpa using Cells.of_block hW.2)
      simp only [Act.put, List.getElem_toArray, List.getElem_cons_succ, List.getElem_cons_zero, List.setIfInBounds_toArray, List.set_cons_zero, List.set_cons_succ]
      refine wpAnyE_one (i := 14) (listed' := #[true, true, true, true, true, true, true, true, true, true, true, true, true, true, true, false]) (by rfl) (by kernel_rfl) (by kernel_rfl) (by rfl) (fun K hK => ?_)
      simp only [Act.put, List.getElem_toArray, List.getElem_cons_succ, List.getElem_cons_zero, List.setIfInBounds_toArray, List.set_cons_zero, List.set_cons_succ]
      go_wp2_with fail
      refine Calls.mono (st_writeE HBd.out HUS.out d (2 + (pos : Int) + (k : Int)) HSB.out.1 HW.out) ?_
      rintro e w3 ⟨rfl, hb3, hs3⟩
      have HB3 := Lib.hid (hb3.less (R' := R) fun k hk => .inl hk)
      have HS3 := Lib.hid (HSd.out.trans fun k hk => hs3 k (.inl hk))
      have hS := (⟨(hs3 p (.inl HR.out.2.1)).trans hS.1, (hs3 Y (.inr rfl)).trans hS.2⟩ : _ ∧ _)
      clear hb3 hs3 HB2 HS2 HBd HSd HW
      refine hK _ _ (fun _ => hS) ?_; clear hK K
      refine wpAnyE_one (i := 15) (listed' := #[true, true, true, true, true, true, true, true, true, true, true, true, true, true, true, true]) (by rfl) (by kernel_rfl) (by kernel_rfl) (by rfl) (fun K hK => ?_)
      simp only [Act.put, List.getElem_toArray, List.getElem_cons_succ, List.getElem_cons_zero, List.setIfInBounds_toArray, List.set_cons_zero, List.set_cons_succ]
      go_wp2
      refine hK _ _ (fun _ => hS) ?_; clear hK K
      refine wpAnyE_done (by kernel_rfl) ?_ _
      refine calm_normal ?_
      by_cases hc : c1 = 0
      · subst hc
        replace HRES : Hid (BankT.layL d (2 + (pos : Int) + ((k + 1 : Nat) : Int)) (P.drop (k + 1)) T1 = (Tr, cr)) := Lib.hid (by have := HRES.out; rw [if_pos rfl] at this; rw [show 2 + (pos : Int) + ((k + 1 : Nat) : Int) = 2 + (pos : Int) + (k : Int) + 1 by omega]; exact this)
        go_wp2
        go_roundw
        case rel => exact ⟨k + 1, T1, hlt, by go_num, HRES, HU1, HB3, HS3⟩
        case measure => simp [intOf]; omega
      · have hcb : (c1 == 0) = false := by simpa using hc
        have hr := HRES.out
        rw [if_neg hc] at hr
        obtain ⟨rfl, rfl⟩ : T1 = Tr ∧ c1 = cr := by cases hr; exact ⟨rfl, rfl⟩
        clear hr HRES
        go_wp2
        go_ret
        exact ⟨rfl, HB3.out, HS3.out⟩
    · have hkn : k = P.length := by omega
      have hr := HRES.out
      rw [hkn, List.drop_length] at hr
      unfold BankT.layL at hr
      have HF := Lib.hid hr
      have hge : P.length ≤ k := by omega
      have c0 := HL.out.c0
      clear hr hkn HRES
      go_wp2_with fail
      refine Calls.mono (st_flush HB.out HU.out.use d (c := cr) (T' := Tr) (by rw [HF.out]) (by rw [HF.out])) ?_
      rintro e w6 ⟨rfl, hb6, hs6⟩
      go_wp2
      go_ret
      exact ⟨rfl, hb6, HS.out.trans hs6⟩
end
end Go.Proofs.YtpeclkhppgabfaaDoor
