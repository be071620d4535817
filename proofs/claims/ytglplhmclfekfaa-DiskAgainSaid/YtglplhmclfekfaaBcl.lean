/- A disk.Bank: Clone (gen_bcl.py). -/
import Derived.Test.YtglplhmclfekfaaDkz
import Derived.Test.YtglplhmclfekfaaDlh
namespace Go.Proofs.Ytglplhmclfekfaa
open Go.RowKit
set_option linter.unusedVariables false
set_option linter.unusedSimpArgs false

theorem ty_bank : AggT Try.prog 101 6 := ⟨⟨_, Try.underlying101, rfl⟩, by kernel_rfl⟩
theorem ty_mem : AggT Try.prog 98 5 := ⟨⟨_, Try.underlying98, rfl⟩, by kernel_rfl⟩
theorem ty_med : AggT Try.prog 96 3 := ⟨⟨_, Try.underlying96, rfl⟩, by kernel_rfl⟩
theorem size_ptrsZ : (Try.prog.info? 99).map (·.size) = some 1 := by kernel_rfl
theorem zero_bankZ (w : World) : (zeroValue 101).run Try.prog w = .ok (.agg [.slice none 0 0, .bool false, .int .i64 0, .int .i64 0, .int .i64 0, .int .u64 0].toArray) w := by kernel_rfl
theorem zero_memZ (w : World) : (zeroValue 98).run Try.prog w = .ok (.agg [.slice none 0 0, .slice none 0 0, .slice none 0 0, .bool false, .int .i64 0].toArray) w := by kernel_rfl
/-- its first k disks -/
def BankT.pre (T : BankT) (k : Nat) : BankT := { T with l := T.l.take k }
section
variable {T : BankT} {k : Nat}
theorem BankT.pre_len (h : k ≤ T.l.length) : (T.pre k).l.length = k := by simp [BankT.pre]; omega
theorem BankT.pre_more (h : k < T.l.length) : (T.pre k).app (T.d k) = T.pre (k + 1) := by
  unfold BankT.pre BankT.app BankT.d
  simp only
  congr 1
  rw [List.take_add_one, List.getD_eq_getElem?_getD, List.getElem?_eq_getElem h]; rfl
theorem BankT.pre_all : T.pre T.l.length = T := by unfold BankT.pre; rw [List.take_length]
end
def lay0 (q : Nat) : Lay := ⟨fun i => if i = 0 then q else q + 1, 0, [], fun _ => 0, fun _ => []⟩
theorem bankD_pre0 {w : World} {q : Nat} {T : BankT} (h : w.heap[q]? = some (.cells [.slice none 0 0, .bool T.down, .int .i64 T.clock, .int .i64 T.writes, .int .i64 T.armed, .int .u64 T.mask].toArray 101 (0, 0))) : BankD w (lay0 q) (T.pre 0) := by
  have hl : (T.pre 0).l.length = 0 := by simp [BankT.pre]
  refine ⟨?_, fun h0 => absurd hl h0, fun k hk => ?_, fun k hk => ?_, fun k hk => ?_, fun k hk => ?_, fun i j hi hj h1 e => ?_⟩
  · show w.heap[q]? = _
    rw [h]; simp [bankVals, Lay.list, BankT.pre]
  · rw [hl] at hk; omega
  · rw [hl] at hk; omega
  · rw [hl] at hk; omega
  · rw [hl] at hk; omega
  · rw [hl] at hi hj; have := h1 hl; omega
theorem lay0_in {q b : Nat} (h : (lay0 q).In 0 b) : b = q := by
  obtain ⟨i, hi, h1, hb⟩ := h
  have := h1 rfl
  have h0 : i = 0 := by omega
  rw [hb, h0]; rfl
section
variable {w : World} {Y : Lay} {T : BankT}
set_option maxHeartbeats 2000000
set_option maxRecDepth 100000
theorem bank_Clone (h : BankD w Y T) (hok : T.Ok) (hpos : ∀ k, k < T.l.length → 0 < (T.d k).sin.length) :
    Calls Try.prog 15 #[.pointer (some ⟨Y.A 0, 0, none⟩)] w fun e w' =>
      ∃ Y' : Lay, e = .returned (.pointer (some ⟨Y'.A 0, 0, none⟩)) ∧ BankD w' Y' T ∧ Kept w w' ∧ (∀ b, Y'.In T.l.length b → w.heap.size ≤ b) := by
  obtain ⟨ao, cap, hli⟩ : ∃ ao cap, Y.list T.l.length = .slice ao T.l.length cap := by
    by_cases h0 : T.l.length = 0
    · exact ⟨none, 0, by simp [Lay.list, h0]⟩
    · exact ⟨some ⟨Y.A 1, 0, none⟩, Y.c, by simp [Lay.list, h0]⟩
  have HOK := Lib.hid hok
  have HPOS := Lib.hid hpos
  have hn : T.l.length ≤ 32 := hok.1
  have H := Lib.hid h
  have HLI := Lib.hid hli
  have hb0 := h.bank
  unfold bankVals at hb0
  rw [hli] at hb0
  have HB0 := Lib.hid hb0
  clear h hli hok hpos hb0
  go_enter Try.func15, Try.ntmps15
  go_wp2_with (refine stop_at (o := ⟨some 9, _, _, _, _, _⟩) ?_)
  refine Stop.mk ?_
  refine wpList_load_agg rfl _ rfl ty_bank (Y.A 0) 0 rfl _ (by simpa using Cells.of_block HB0.out) rfl ?_
  go_wp2_with (refine stop_at (o := ⟨some 3, _, _, _, _, _⟩) ?_)
  refine Stop.mk ?_
  refine wpList_alloc_abs rfl _ rfl _ zero_bankZ ?_
  intro w1 HB1 hlt1 hs1 hk1
  obtain ⟨q, hq⟩ : ∃ q, q = w.heap.size := ⟨_, rfl⟩
  rw [← hq] at HB1 ⊢
  have hq0 : w.heap.size ≤ q := Nat.le_of_eq hq.symm
  have HK1 := Lib.hid hk1
  clear hlt1 hs1 hk1 hq
  go_wp2_with (refine stop_at (o := ⟨none, _, _, _, _, _⟩) ?_)
  refine Stop.mk ?_
  refine wpList_store_agg rfl _ _ rfl ty_bank q 0 rfl _ rfl rfl (by intro u hu; simp at hu; rcases hu with rfl | rfl | rfl | rfl | rfl | rfl <;> rfl) _ _ HB1.out (by simp) ?_
  intro w2 hw2
  have hw2 := hw2.all rfl
  have HB2 := Lib.hid hw2.blk
  have HK2 := Lib.hid (hw2.kept HK1.out hq0)
  clear hw2 HB1 HK1
  go_wp2_with (refine stop_at (o := ⟨none, _, _, _, _, _⟩) ?_)
  refine Stop.mk ?_
  refine wpList_set_cell rfl _ _ rfl size_ptrsZ q 0 rfl (.slice none 0 0) rfl rfl rfl _ _ HB2.out (by simp) ?_
  intro w3 hw3
  have HK3 := Lib.hid (hw3.kept HK2.out hq0)
  have hd3 : BankD w3 (lay0 q) (T.pre 0) := bankD_pre0 (by rw [hw3.blk]; rfl)
  have HD3 := Lib.hid hd3
  have b0 : w3.cell? ⟨Y.A 0, 0, none⟩ = some (.slice ao T.l.length cap) := HK3.out.cell' (cell_of_row _ _ 0 _ _ _ HB0.out)
  clear hw3 HB2 HK2 hd3
  go_wp2
  go_loopw [16] (fun i wr => ∃ (k : Nat) (Z : Lay), k ≤ T.l.length ∧ i = .int .i64 k ∧ Z.A 0 = q ∧ Hid (BankD wr Z (T.pre k)) ∧ Hid (Kept w wr) ∧ Hid (∀ b, Z.In k b → w.heap.size ≤ b)) (fun i _ => T.l.length - (intOf i).toNat)
  case atStart => exact ⟨0, lay0 q, Nat.zero_le _, rfl, rfl, HD3, HK3, Lib.hid (fun b hb => by rw [lay0_in hb]; exact hq0)⟩
  case round =>
    clear HD3 HK3 b0
    obtain ⟨k, Z, hk, rfl, hz, HZ, HK, HIN⟩ := hrel
    by_cases hlt : k < T.l.length
    · have hN : T.l.length ≠ 0 := by omega
      have hao : ao = some ⟨Y.A 1, 0, none⟩ ∧ cap = Y.c := by
        have h := HLI.out
        rw [Lay.list, if_neg hN] at h
        injection h with h1 h2 h3
        exact ⟨h1.symm, h3.symm⟩
      obtain ⟨rfl, rfl⟩ := hao
      have HW := Lib.hid (H.out.kept HK.out)
      obtain ⟨hr1, hr2, hr3, hr4, hr5⟩ := HW.out.row hN
      have cr : wr.cell? ⟨Y.A 1, k, none⟩ = some (.pointer (some ⟨Y.A (2 + 4 * k), 0, none⟩)) := by
        rw [cell_of_row _ _ _ _ _ _ hr1]; simpa [Lay.ptr] using hr5 k hlt
      have hm0 := HW.out.med k hlt
      have hok := HOK.out.d hlt
      have hp := HPOS.out k hlt
      have hlen := hok.len
      obtain ⟨n, hnl⟩ : ∃ n, n = (T.d k).sin.length := ⟨_, rfl⟩
      unfold medVals Lay.sl at hm0
      rw [← hnl] at hm0 hp hlen
      have HNL := Lib.hid hnl
      have HM0 := Lib.hid hm0
      have HD := Lib.hid hok
      clear hr1 hr2 hr3 hr4 hr5 hm0 hnl hok
      go_wp2_with (refine stop_at (o := ⟨some 22, _, _, _, _, _⟩) ?_)
      refine Stop.mk ?_
      refine wpList_load_agg rfl _ rfl ty_mem (Y.A (2 + 4 * k)) 0 rfl _ (by simpa using Cells.of_block HM0.out) rfl ?_
      go_wp2_with (refine stop_at (o := ⟨some 6, _, _, _, _, _⟩) ?_)
      refine Stop.mk ?_
      refine wpList_alloc_abs rfl _ rfl _ zero_memZ ?_
      intro w4 HB4 hlt4 hs4 hk4
      obtain ⟨m, hm⟩ : ∃ m, m = wr.heap.size := ⟨_, rfl⟩
      rw [← hm] at HB4 ⊢
      have hmle : wr.heap.size ≤ m := Nat.le_of_eq hm.symm
      have HK4 := Lib.hid hk4
      clear hlt4 hs4 hk4 hm
      go_wp2_with (refine stop_at (o := ⟨none, _, _, _, _, _⟩) ?_)
      refine Stop.mk ?_
      refine wpList_store_agg rfl _ _ rfl ty_mem m 0 rfl _ rfl rfl (by intro u hu; simp at hu; rcases hu with rfl | rfl | rfl | rfl | rfl <;> rfl) _ _ HB4.out (by simp) ?_
      intro w5 hw5
      have hw5 := hw5.all rfl
      have HB5 := Lib.hid hw5.blk
      have HK5 := Lib.hid (hw5.kept HK4.out hmle)
      have hms : m < w5.heap.size := (Array.getElem?_eq_some_iff.1 hw5.blk).1
      have hs4 : m = wr.heap.size ∨ True := .inr trivial
      clear hw5 HB4 HK4 hs4
      have HSF := Lib.hid (fun (W : World) (hk' : Kept w5 W) => clone_secs (T.d k).flu (fun s hs => (HD.out.flu.2 s hs).1) (Y.A (3 + 4 * k)) (n + Y.x (3 + 4 * k)) W (by rw [HD.out.flu.1, ← HNL.out]; exact hp) (by rw [HD.out.flu.1, ← HNL.out]; exact hlen) (by rw [HD.out.flu.1, ← HNL.out]; omega) ((Cells.left (Cells.of_block (HW.out.flu k hlt))).kept (HK5.out.trans hk')))
      have HSN := Lib.hid (fun (W : World) (hk' : Kept w5 W) => clone_secs (T.d k).new (fun s hs => (HD.out.new.2 s hs).1) (Y.A (4 + 4 * k)) (n + Y.x (4 + 4 * k)) W (by rw [HD.out.new.1, ← HNL.out]; exact hp) (by rw [HD.out.new.1, ← HNL.out]; exact hlen) (by rw [HD.out.new.1, ← HNL.out]; omega) ((Cells.left (Cells.of_block (HW.out.new k hlt))).kept (HK5.out.trans hk')))
      have HSS := Lib.hid (fun (W : World) (hk' : Kept w5 W) => clone_ints (T.d k).sin (Y.A (5 + 4 * k)) (n + Y.x (5 + 4 * k)) W (by rw [← HNL.out]; exact hp) (by rw [← HNL.out]; exact hlen) (by rw [← HNL.out]; omega) ((Cells.left (Cells.of_block (HW.out.sin k hlt))).kept (HK5.out.trans hk')))
      rw [HD.out.flu.1, ← HNL.out] at HSF
      rw [HD.out.new.1, ← HNL.out] at HSN
      rw [← HNL.out] at HSS
      have HM5 := Lib.hid (HK5.out.block HM0.out)
      clear HM0 cr
      go_upto_region 7 with fail
      have hS := (Kept.refl w5).drew.block HM5.out
      refine wp_region_calm ?_
      refine wp_region_E (fun W => W.heap[Y.A (2 + 4 * k)]? = some (.cells [.slice (some ⟨Y.A (3 + 4 * k), 0, none⟩) n (n + Y.x (3 + 4 * k)), .slice (some ⟨Y.A (4 + 4 * k), 0, none⟩) n (n + Y.x (4 + 4 * k)), .slice (some ⟨Y.A (5 + 4 * k), 0, none⟩) n (n + Y.x (5 + 4 * k)), .bool (T.d k).dead, .int .i64 (T.d k).fail].toArray 98 (0, 0))) 20 (by kernel_rfl) ?_
      refine wpAnyE_take (i := 0) (v := ?_) (listed' := #[true, false, false, false, false, false, false, false, false, false, false, false, false, false, false, false, false, false, false, false, false]) (by rfl) (by kernel_rfl) (by kernel_rfl) calm_put hS (by rfl) ?_ ?_
      rotate_left
      · intro W hW; clear hW; go_simp; try (with_reducible rfl)
      simp only [Act.put, List.getElem_toArray, List.getElem_cons_succ, List.getElem_cons_zero, List.setIfInBounds_toArray, List.set_cons_zero, List.set_cons_succ]
      refine wpAnyE_take (i := 1) (v := ?_) (listed' := #[true, true, false, false, false, false, false, false, false, false, false, false, false, false, false, false, false, false, false, false, false]) (by rfl) (by kernel_rfl) (by kernel_rfl) calm_put hS (by rfl) ?_ ?_
      rotate_left
      · intro W hW; clear hW; go_simp; try (with_reducible rfl)
      simp only [Act.put, List.getElem_toArray, List.getElem_cons_succ, List.getElem_cons_zero, List.setIfInBounds_toArray, List.set_cons_zero, List.set_cons_succ]
      refine wpAnyE_take (i := 2) (v := ?_) (listed' := #[true, true, true, false, false, false, false, false, false, false, false, false, false, false, false, false, false, false, false, false, false]) (by rfl) (by kernel_rfl) (by kernel_rfl) calm_put hS (by rfl) ?_ ?_
      rotate_left
      · intro W hW; clear hW; go_simp; try (with_reducible rfl)
      simp only [Act.put, List.getElem_toArray, List.getElem_cons_succ, List.getElem_cons_zero, List.setIfInBounds_toArray, List.set_cons_zero, List.set_cons_succ]
      refine wpAnyE_take (i := 3) (v := ?_) (listed' := #[true, true, true, true, false, false, false, false, false, false, false, false, false, false, false, false, false, false, false, false, false]) (by rfl) (by kernel_rfl) (by kernel_rfl) calm_put hS (by rfl) ?_ ?_
      rotate_left
      · intro W hW; clear hW; go_simp; try (with_reducible rfl)
      simp only [Act.put, List.getElem_toArray, List.getElem_cons_succ, List.getElem_cons_zero, List.setIfInBounds_toArray, List.set_cons_zero, List.set_cons_succ]
      refine wpAnyE_take (i := 4) (v := ?_) (listed' := #[true, true, true, true, true, false, false, false, false, false, false, false, false, false, false, false, false, false, false, false, false]) (by rfl) (by kernel_rfl) (by kernel_rfl) calm_put hS (by rfl) ?_ ?_
      rotate_left
      · intro W hW; have c0 : W.cell? ⟨Y.A (2 + 4 * k), 0, none⟩ = some (.slice (some ⟨Y.A (3 + 4 * k), 0, none⟩) n (n + Y.x (3 + 4 * k))) := cell_of_row _ _ 0 _ _ _ hW; clear hW; go_simp; try (with_reducible rfl)
      simp only [Act.put, List.getElem_toArray, List.getElem_cons_succ, List.getElem_cons_zero, List.setIfInBounds_toArray, List.set_cons_zero, List.set_cons_succ]
      refine wpAnyE_take (i := 6) (v := ?_) (listed' := #[true, true, true, true, true, false, true, false, false, false, false, false, false, false, false, false, false, false, false, false, false]) (by rfl) (by kernel_rfl) (by kernel_rfl) calm_put hS (by rfl) ?_ ?_
      rotate_left
      · intro W hW; clear hW; go_simp; try (with_reducible rfl)
      simp only [Act.put, List.getElem_toArray, List.getElem_cons_succ, List.getElem_cons_zero, List.setIfInBounds_toArray, List.set_cons_zero, List.set_cons_succ]
      refine wpAnyE_take (i := 7) (v := ?_) (listed' := #[true, true, true, true, true, false, true, true, false, false, false, false, false, false, false, false, false, false, false, false, false]) (by rfl) (by kernel_rfl) (by kernel_rfl) calm_put hS (by rfl) ?_ ?_
      rotate_left
      · intro W hW; clear hW; go_simp; try (with_reducible rfl)
      simp only [Act.put, List.getElem_toArray, List.getElem_cons_succ, List.getElem_cons_zero, List.setIfInBounds_toArray, List.set_cons_zero, List.set_cons_succ]
      refine wpAnyE_take (i := 8) (v := ?_) (listed' := #[true, true, true, true, true, false, true, true, true, false, false, false, false, false, false, false, false, false, false, false, false]) (by rfl) (by kernel_rfl) (by kernel_rfl) calm_put hS (by rfl) ?_ ?_
      rotate_left
      · intro W hW; clear hW; go_simp; try (with_reducible rfl)
      simp only [Act.put, List.getElem_toArray, List.getElem_cons_succ, List.getElem_cons_zero, List.setIfInBounds_toArray, List.set_cons_zero, List.set_cons_succ]
      refine wpAnyE_take (i := 9) (v := ?_) (listed' := #[true, true, true, true, true, false, true, true, true, true, false, false, false, false, false, false, false, false, false, false, false]) (by rfl) (by kernel_rfl) (by kernel_rfl) calm_put hS (by rfl) ?_ ?_
      rotate_left
      · intro W hW; clear hW; go_simp; try (with_reducible rfl)
      simp only [Act.put, List.getElem_toArray, List.getElem_cons_succ, List.getElem_cons_zero, List.setIfInBounds_toArray, List.set_cons_zero, List.set_cons_succ]
      refine wpAnyE_take (i := 10) (v := ?_) (listed' := #[true, true, true, true, true, false, true, true, true, true, true, false, false, false, false, false, false, false, false, false, false]) (by rfl) (by kernel_rfl) (by kernel_rfl) calm_put hS (by rfl) ?_ ?_
      rotate_left
      · intro W hW; have c0 : W.cell? ⟨Y.A (2 + 4 * k), 1, none⟩ = some (.slice (some ⟨Y.A (4 + 4 * k), 0, none⟩) n (n + Y.x (4 + 4 * k))) := cell_of_row _ _ 1 _ _ _ hW; clear hW; go_simp; try (with_reducible rfl)
      simp only [Act.put, List.getElem_toArray, List.getElem_cons_succ, List.getElem_cons_zero, List.setIfInBounds_toArray, List.set_cons_zero, List.set_cons_succ]
      refine wpAnyE_take (i := 12) (v := ?_) (listed' := #[true, true, true, true, true, false, true, true, true, true, true, false, true, false, false, false, false, false, false, false, false]) (by rfl) (by kernel_rfl) (by kernel_rfl) calm_put hS (by rfl) ?_ ?_
      rotate_left
      · intro W hW; clear hW; go_simp; try (with_reducible rfl)
      simp only [Act.put, List.getElem_toArray, List.getElem_cons_succ, List.getElem_cons_zero, List.setIfInBounds_toArray, List.set_cons_zero, List.set_cons_succ]
      refine wpAnyE_take (i := 13) (v := ?_) (listed' := #[true, true, true, true, true, false, true, true, true, true, true, false, true, true, false, false, false, false, false, false, false]) (by rfl) (by kernel_rfl) (by kernel_rfl) calm_put hS (by rfl) ?_ ?_
      rotate_left
      · intro W hW; clear hW; go_simp; try (with_reducible rfl)
      simp only [Act.put, List.getElem_toArray, List.getElem_cons_succ, List.getElem_cons_zero, List.setIfInBounds_toArray, List.set_cons_zero, List.set_cons_succ]
      refine wpAnyE_take (i := 14) (v := ?_) (listed' := #[true, true, true, true, true, false, true, true, true, true, true, false, true, true, true, false, false, false, false, false, false]) (by rfl) (by kernel_rfl) (by kernel_rfl) calm_put hS (by rfl) ?_ ?_
      rotate_left
      · intro W hW; clear hW; go_simp; try (with_reducible rfl)
      simp only [Act.put, List.getElem_toArray, List.getElem_cons_succ, List.getElem_cons_zero, List.setIfInBounds_toArray, List.set_cons_zero, List.set_cons_succ]
      refine wpAnyE_take (i := 15) (v := ?_) (listed' := #[true, true, true, true, true, false, true, true, true, true, true, false, true, true, true, true, false, false, false, false, false]) (by rfl) (by kernel_rfl) (by kernel_rfl) calm_put hS (by rfl) ?_ ?_
      rotate_left
      · intro W hW; clear hW; go_simp; try (with_reducible rfl)
      simp only [Act.put, List.getElem_toArray, List.getElem_cons_succ, List.getElem_cons_zero, List.setIfInBounds_toArray, List.set_cons_zero, List.set_cons_succ]
      refine wpAnyE_take (i := 16) (v := ?_) (listed' := #[true, true, true, true, true, false, true, true, true, true, true, false, true, true, true, true, true, false, false, false, false]) (by rfl) (by kernel_rfl) (by kernel_rfl) calm_put hS (by rfl) ?_ ?_
      rotate_left
      · intro W hW; have c0 : W.cell? ⟨Y.A (2 + 4 * k), 2, none⟩ = some (.slice (some ⟨Y.A (5 + 4 * k), 0, none⟩) n (n + Y.x (5 + 4 * k))) := cell_of_row _ _ 2 _ _ _ hW; clear hW; go_simp; try (with_reducible rfl)
      simp only [Act.put, List.getElem_toArray, List.getElem_cons_succ, List.getElem_cons_zero, List.setIfInBounds_toArray, List.set_cons_zero, List.set_cons_succ]
      refine wpAnyE_one (i := 5) (listed' := #[true, true, true, true, true, true, true, true, true, true, true, false, true, true, true, true, true, false, false, false, false]) (by rfl) (by kernel_rfl) (by kernel_rfl) (by rfl) (fun K hK => ?_)
      simp only [Act.put, List.getElem_toArray, List.getElem_cons_succ, List.getElem_cons_zero, List.setIfInBounds_toArray, List.set_cons_zero, List.set_cons_succ]
      go_wp2_with fail
      refine Calls.mono (HSF.out _ (Kept.refl w5).drew) ?_
      rintro e w6 ⟨g1, x1, j1, rfl, hb6, hg6, hk6⟩
      have hk56 : Kept w5 w6 := (Kept.refl w5).drew.trans hk6
      have hg1 : w5.heap.size ≤ g1 := hg6
      have HP6 := Lib.hid hb6
      have HK56 := Lib.hid hk56
      clear hS
      have hS := HK56.out.block HM5.out
      clear hb6 hg6 hk6 hk56
      refine hK _ _ (fun _ => hS) ?_; clear hK K
      refine wpAnyE_one (i := 11) (listed' := #[true, true, true, true, true, true, true, true, true, true, true, true, true, true, true, true, true, false, false, false, false]) (by rfl) (by kernel_rfl) (by kernel_rfl) (by rfl) (fun K hK => ?_)
      simp only [Act.put, List.getElem_toArray, List.getElem_cons_succ, List.getElem_cons_zero, List.setIfInBounds_toArray, List.set_cons_zero, List.set_cons_succ]
      go_wp2_with fail
      refine Calls.mono (HSN.out _ HK56.out) ?_
      rintro e w7 ⟨g2, x2, j2, rfl, hb7, hg7, hk7⟩
      have HQ7 := Lib.hid hb7
      have HP7 := Lib.hid (hk7.block HP6.out)
      have hg12 : g1 < g2 := Nat.lt_of_lt_of_le (Array.getElem?_eq_some_iff.1 HP6.out).1 hg7
      have HK57 := Lib.hid (HK56.out.trans hk7)
      clear hS
      have hS := HK57.out.block HM5.out
      clear hb7 hg7 hk7
      refine hK _ _ (fun _ => hS) ?_; clear hK K
      refine wpAnyE_one (i := 17) (listed' := #[true, true, true, true, true, true, true, true, true, true, true, true, true, true, true, true, true, true, false, false, false]) (by rfl) (by kernel_rfl) (by kernel_rfl) (by rfl) (fun K hK => ?_)
      simp only [Act.put, List.getElem_toArray, List.getElem_cons_succ, List.getElem_cons_zero, List.setIfInBounds_toArray, List.set_cons_zero, List.set_cons_succ]
      go_wp2_with fail
      refine Calls.mono (HSS.out _ HK57.out) ?_
      rintro e w8 ⟨g3, x3, j3, rfl, hb8, hg8, hk8⟩
      have HR8 := Lib.hid hb8
      have HP8 := Lib.hid (hk8.block HP7.out)
      have HQ8 := Lib.hid (hk8.block HQ7.out)
      have hg23 : g2 < g3 := Nat.lt_of_lt_of_le (Array.getElem?_eq_some_iff.1 HQ7.out).1 hg8
      have HK58 := Lib.hid (HK57.out.trans hk8)
      clear hS
      have hS := HK58.out.block HM5.out
      clear hb8 hg8 hk8
      refine hK _ _ (fun _ => hS) ?_; clear hK K
      refine wpAnyE_take (i := 18) (v := ?_) (listed' := #[true, true, true, true, true, true, true, true, true, true, true, true, true, true, true, true, true, true, true, false, false]) (by rfl) (by kernel_rfl) (by kernel_rfl) calm_put hS (by rfl) ?_ ?_
      rotate_left
      · intro W hW; clear hW; go_simp; try (with_reducible rfl)
      simp only [Act.put, List.getElem_toArray, List.getElem_cons_succ, List.getElem_cons_zero, List.setIfInBounds_toArray, List.set_cons_zero, List.set_cons_succ]
      refine wpAnyE_take (i := 19) (v := ?_) (listed' := #[true, true, true, true, true, true, true, true, true, true, true, true, true, true, true, true, true, true, true, true, false]) (by rfl) (by kernel_rfl) (by kernel_rfl) calm_put hS (by rfl) ?_ ?_
      rotate_left
      · intro W hW; clear hW; go_simp; try (with_reducible rfl)
      simp only [Act.put, List.getElem_toArray, List.getElem_cons_succ, List.getElem_cons_zero, List.setIfInBounds_toArray, List.set_cons_zero, List.set_cons_succ]
      refine wpAnyE_one (i := 20) (listed' := #[true, true, true, true, true, true, true, true, true, true, true, true, true, true, true, true, true, true, true, true, true]) (by rfl) (by kernel_rfl) (by kernel_rfl) (by rfl) (fun K hK => ?_)
      simp only [Act.put, List.getElem_toArray, List.getElem_cons_succ, List.getElem_cons_zero, List.setIfInBounds_toArray, List.set_cons_zero, List.set_cons_succ]
      refine wp_store_agg _ _ rfl ty_med m 0 rfl [.slice (some ⟨g1, 0, none⟩) n (n + x1), .slice (some ⟨g2, 0, none⟩) n (n + x2), .slice (some ⟨g3, 0, none⟩) n (n + x3)] rfl rfl (by intro u hu; simp at hu; rcases hu with rfl | rfl | rfl <;> rfl) _ _ (HK58.out.block HB5.out) (by simp) ?_
      intro w9 hw9
      refine hK _ _ (fun h => absurd rfl h) ?_; clear hK K
      refine wpAnyE_done (by kernel_rfl) ?_ _
      refine calm_normal ?_
      have hw9 : Wrote w8 w9 m [.slice (some ⟨g1, 0, none⟩) n (n + x1), .slice (some ⟨g2, 0, none⟩) n (n + x2), .slice (some ⟨g3, 0, none⟩) n (n + x3), .bool (T.d k).dead, .int .i64 (T.d k).fail] 98 := hw9
      have HK9 := Lib.hid (hw9.kept (HK5.out.trans HK58.out) hmle)
      have HM9 := Lib.hid hw9.blk
      have HP9 := Lib.hid ((hw9.oth g1 (by omega)).trans HP8.out)
      have HQ9 := Lib.hid ((hw9.oth g2 (by omega)).trans HQ8.out)
      have HR9 := Lib.hid ((hw9.oth g3 (by omega)).trans HR8.out)
      have hpl := BankT.pre_len (T := T) hk
      have h5 := HK5.out.size
      obtain ⟨a2, c2, hl2⟩ : ∃ a2 c2, Z.list k = .slice a2 k c2 := by
        by_cases h0 : k = 0
        · exact ⟨none, 0, by simp [Lay.list, h0]⟩
        · exact ⟨some ⟨Z.A 1, 0, none⟩, Z.c, by simp [Lay.list, h0]⟩
      have bz := HZ.out.bank
      unfold bankVals at bz
      rw [hpl, hl2, hz] at bz
      have b1 : w9.cell? ⟨q, 0, none⟩ = some (.slice a2 k c2) := HK9.out.cell' (cell_of_row _ _ 0 _ _ _ bz)
      have HPL := Lib.hid hpl
      have HL2 := Lib.hid hl2
      clear hw9 hS HP8 HQ8 HR8 HK58 HB5 HP6 HP7 HQ7 HK56 HK57 HSF HSN HSS HM5 bz hpl hl2 hw2 hw5
      go_wp2_with (refine stop_at (o := ⟨some 46, _, _, _, _, _⟩) ?_)
      refine Stop.mk ?_
      obtain ⟨B, hB⟩ : ∃ B, B = Obj.cells #[Value.pointer (some ⟨m, 0, none⟩)] 92 := ⟨_, rfl⟩
      have hka : Kept w9 (w9.alloc B) := (Kept.refl w9).alloc _
      have bb : (w9.alloc B).heap[w9.heap.size]? = some B := heap_alloc_new w9 B
      rw [← hB]
      generalize w9.alloc B = w10 at *
      rw [hB] at bb
      subst hB
      have HK10 := Lib.hid (HK9.out.trans hka)
      obtain ⟨g, c, row, w11, hrun, r1, r2, r3, r4, r5, r6, r7, r8⟩ := list_append (HZ.out.kept HK10.out) (by rw [HPL.out]; omega) bb 99
      have R1 := Lib.hid r1; have R5 := Lib.hid r5; have R6 := Lib.hid r6; have R7 := Lib.hid r7; have R8 := Lib.hid r8
      have R2 := Lib.hid r2; have R3 := Lib.hid r3; have R4 := Lib.hid r4
      have h01 : ¬ ((T.pre k).l.length ≠ 0 ∧ q = Z.A 1) := fun h => by
        rw [← hz] at h
        have := HZ.out.inj 0 1 (by omega) (by omega) (fun e => absurd e h.1) h.2
        omega
      have hbq := (HK10.out).block HZ.out.bank
      rw [hz] at hbq
      have HB11 := Lib.hid (r8.blk h01 hbq)
      have BM := Lib.hid (hka.block HM9.out); have BP := Lib.hid (hka.block HP9.out); have BQ := Lib.hid (hka.block HQ9.out); have BR := Lib.hid (hka.block HR9.out)
      rw [HPL.out, HL2.out] at hrun
      have HRUN := Lib.hid hrun
      clear r1 r2 r3 r4 r5 r6 r7 r8 hka bb hbq hrun HM9 HP9 HQ9 HR9 HK9 b1
      refine wpList_plain rfl fun K hK => ?_
      refine wp_append_run rfl rfl rfl HRUN.out ?_
      refine hK _ _ ?_
      clear hK K HRUN
      go_wp2_with (refine stop_at (o := ⟨none, _, _, _, _, _⟩) ?_)
      refine Stop.mk ?_
      refine wpList_set_cell rfl _ _ rfl size_ptrsZ q 0 rfl (.slice (some ⟨g, 0, none⟩) (k + 1) c) rfl rfl rfl _ _ HB11.out (by simp [bankVals]) ?_
      intro w12 hw12
      have hnp : n = (T.d k).sin.length := HNL.out
      have hm1 := BM.out
      rw [hnp] at hm1
      have HMORE := Lib.hid (HZ.out.moreC (x := T.d k) (X := fun i => if i = 3 then x1 else if i = 4 then x2 else x3) (JJ := fun i => if i = 3 then j1 else if i = 4 then j2 else j3) HK10.out hmle (by omega) (by omega) (by omega) (by omega) (by omega) (by omega) (by omega) (by omega) (by omega) hm1 BP.out BQ.out BR.out R1.out R2.out R3.out R4.out R5.out R6.out R7.out R8.out (by rw [hz, HPL.out]; exact hw12))
      clear hw12 hm1 hnp h01 R1 R2 R3 R4 R5 R6 R7 R8 BM BP BQ BR HB11
      obtain ⟨Z', hz1, hz2, hz3, hz4⟩ := HMORE.out
      rw [BankT.pre_more hlt] at hz1
      rw [hz] at hz2
      rw [HPL.out] at hz3
      have HZ2 := Lib.hid hz1
      have HK12 := Lib.hid (But.to_kept HK.out hz4 (fun b hb => HIN.out b (by rw [HPL.out] at hb; exact hb)))
      have HIN2 := Lib.hid (show ∀ b, Z'.In (k + 1) b → w.heap.size ≤ b from fun b hb => by
        rcases hz3 b hb with h | h
        · exact HIN.out b h
        · exact Nat.le_trans HK.out.size h)
      clear HMORE hz1 hz3 hz4 HZ HIN HK
      go_wp2
      go_roundw
      case rel => exact ⟨k + 1, Z', hlt, by go_num, hz2, HZ2, HK12, HIN2⟩
      case measure => simp [intOf]; omega
    · have hkk : k = T.l.length := by omega
      subst hkk
      rw [BankT.pre_all] at HZ
      go_wp2
      go_ret
      exact ⟨Z, by rw [hz]; rfl, HZ.out, HK.out, HIN.out⟩
end
end Go.Proofs.Ytglplhmclfekfaa
