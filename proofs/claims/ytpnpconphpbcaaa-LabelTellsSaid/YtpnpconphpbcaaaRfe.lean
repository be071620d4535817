/- The document's Of. -/
import Derived.Test.YtpnpconphpbcaaaRfd
import Derived.Deep.RegionLaw
import Derived.Deep.RegionHeld3
import Derived.Deep.DrawnRows
namespace Go.Proofs.Ytpnpconphpbcaaa
open Go.RowKit
set_option linter.unusedVariables false
set_option linter.unusedSimpArgs false

theorem strA_extract (l : List Int) (i j : Nat) : (strA l).extract i j = strA ((l.drop i).take (j - i)) := by
  apply ByteArray.ext
  simp only [strA, ByteArray.data_extract]
  simp [List.extract_eq_take_drop, List.map_take, List.map_drop]
theorem strA_from (l : List Int) (i n : Nat) (h : l.length = n) : (strA l).extract i n = strA (l.drop i) := by
  rw [strA_extract, List.take_of_length_le (by rw [List.length_drop]; omega)]
theorem strA_toList (l : List Int) : (strA l).toList = l.map fun x => UInt8.ofNat x.toNat := by
  rw [ByteArray.toList_eq] <;> simp [strA]
theorem head_map (bs : List Int) (hb : ∀ x ∈ bs, IsByte x) (hl : bs.length = 64) : (List.take 2 (List.map (fun x => UInt8.ofNat x.toNat) bs) == [66, 87]) = (bs.take 2 == [66, 87]) := by
  obtain ⟨x0, e0, b0a, b0b, h0⟩ := byte_getD hb 0 (by omega)
  obtain ⟨x1, e1, b1a, b1b, h1⟩ := byte_getD hb 1 (by omega)
  rw [← List.map_take, take2 bs (by omega), e0, e1]
  have f0 := ofNat_byte b0a b0b 66 (by decide)
  have f1 := ofNat_byte b1a b1b 87 (by decide)
  have g0 : (UInt8.ofNat x0.toNat == 66) = (x0 == 66) := by rw [Bool.eq_iff_iff]; simpa using f0
  have g1 : (UInt8.ofNat x1.toNat == 87) = (x1 == 87) := by rw [Bool.eq_iff_iff]; simpa using f1
  simp only [List.map_cons, List.map_nil]
  show (UInt8.ofNat x0.toNat == 66 && (UInt8.ofNat x1.toNat == 87 && true)) = (x0 == 66 && (x1 == 87 && true))
  rw [g0, g1]
theorem ref_Get4 (bs : List Int) (a : Nat) (w : World) (hb : ∀ x ∈ bs, IsByte x) (hl : bs.length = 64) (ha : a + 4 ≤ 64) :
    Calls Try.prog 37 #[.string (strA (bs.drop a)), .int .i64 4] w fun e w' => e = .returned (.tuple #[.int .i64 (getB bs a 4), .bool true]) ∧ w = w' :=
  ref_Get (bs.drop a) 4 w (fun x hx => hb x (List.mem_of_mem_drop hx)) (by decide) (by decide) (by rw [List.length_drop]; omega) (by rw [List.length_drop]; omega)
theorem ref_Get2 (bs : List Int) (a : Nat) (w : World) (hb : ∀ x ∈ bs, IsByte x) (hl : bs.length = 64) (ha : a + 2 ≤ 64) :
    Calls Try.prog 37 #[.string (strA (bs.drop a)), .int .i64 2] w fun e w' => e = .returned (.tuple #[.int .i64 (getB bs a 2), .bool true]) ∧ w = w' :=
  ref_Get (bs.drop a) 2 w (fun x hx => hb x (List.mem_of_mem_drop hx)) (by decide) (by decide) (by rw [List.length_drop]; omega) (by rw [List.length_drop]; omega)
theorem getB_one (bs : List Int) (a : Nat) (h : a < bs.length) : getB bs a 1 = bs.getD a 0 := by
  have e : bs.getD a 0 = bs[a]'h := by rw [List.getD_eq_getElem?_getD, List.getElem?_eq_getElem h]; rfl
  rw [e, getB, List.drop_eq_getElem_cons h]; show beVal [bs[a]] = bs[a]; simp [beVal]

attribute [local go_sem ↓] Go.wp_at_zero Go.wp_at_succ
set_option maxHeartbeats 1000000 in
set_option maxRecDepth 100000 in
theorem ref_Of_no (bs : List Int) (w : World) (hb : ∀ x ∈ bs, IsByte x) (hl : bs.length = 64) (hh : ofHead bs = false) :
    Calls Try.prog 15 #[secV bs] w (OfRes bs w) := by
  have hno : ofOk bs = false := by simp [ofOk, hh]
  have HNO := Lib.hid hno; clear hno
  have hcv := fun W hc => conv_str W w.heap.size 0 64 bs hc
  simp only [hl] at hcv
  simp only [secV]
  obtain ⟨x13, e13, b13a, b13b, h13⟩ := byte_getD hb 13 (by omega)
  have hq := head_map bs hb hl
  simp only [ofHead, e13] at hh
  have hsz := strA_size bs
  rw [hl] at hsz
  have hx2 := strA_extract bs 0 2
  have HCV := Lib.hid hcv; clear hcv
  have hkB : ∀ o1 o2, Kept w ((w.alloc o1).alloc o2) := fun o1 o2 => ((Kept.refl _).alloc o1).alloc o2
  have hnew : ∀ o1, Cells ((w.alloc o1).alloc (Obj.cells #[.int .i64 0, .int .i64 0, .int .i64 0, .int .i64 0, .slice none 0 0] 24)) (w.heap.size + 1) 0 [.int .i64 0, .int .i64 0, .int .i64 0, .int .i64 0, .slice none 0 0] := fun o1 => Cells.new (by simp) rfl
  clear hb hl e13
  by_cases hw : (bs.take 2 == [66, 87]) = true
  · rw [hw] at hq
    have h12 : 12 < x13 := by simpa [hw] using hh
    clear hh hw
    have hx3 : (strA (bs.take 2)).toList = List.take 2 (List.map (fun x => UInt8.ofNat x.toNat) bs) := by rw [← List.map_take]; exact strA_toList _
    go_enter Try.func15, Try.ntmps15
    go_wp2_with (refine stop_at (o := ⟨some 19, _, _, _, _, _⟩) ?_)
    refine Stop.mk ?_
    have hcv := HCV.out ((w.alloc (Obj.cells (u8s bs).toArray 26)).alloc (Obj.cells #[.int .i64 0, .int .i64 0, .int .i64 0, .int .i64 0, .slice none 0 0] 24)) (((Cells.of_block (heap_alloc_new w _))).kept ((Kept.refl _).alloc _))
    simp only [strV] at hcv
    go_wp2_with fail
    refine bodyPost_ret (results_lab rfl _ _ (w.heap.size + 1) Lab.zero (.slice none 0 0) rfl ?_) rfl ?_
    · exact hnew _
    · exact ⟨hkB _ _, .inr ⟨HNO.out, rfl⟩⟩
  · simp only [Bool.not_eq_true] at hw
    rw [hw] at hq
    clear hh hw
    have hx3 : (strA (bs.take 2)).toList = List.take 2 (List.map (fun x => UInt8.ofNat x.toNat) bs) := by rw [← List.map_take]; exact strA_toList _
    go_enter Try.func15, Try.ntmps15
    go_wp2_with (refine stop_at (o := ⟨some 19, _, _, _, _, _⟩) ?_)
    refine Stop.mk ?_
    have hcv := HCV.out ((w.alloc (Obj.cells (u8s bs).toArray 26)).alloc (Obj.cells #[.int .i64 0, .int .i64 0, .int .i64 0, .int .i64 0, .slice none 0 0] 24)) (((Cells.of_block (heap_alloc_new w _))).kept ((Kept.refl _).alloc _))
    simp only [strV] at hcv
    go_wp2_with fail
    refine bodyPost_ret (results_lab rfl _ _ (w.heap.size + 1) Lab.zero (.slice none 0 0) rfl ?_) rfl ?_
    · exact hnew _
    · exact ⟨hkB _ _, .inr ⟨HNO.out, rfl⟩⟩

set_option maxHeartbeats 1000000 in
set_option maxRecDepth 100000 in
theorem ref_Of_head (bs : List Int) (w : World) (hb : ∀ x ∈ bs, IsByte x) (hl : bs.length = 64) (hh : ofHead bs = true) :
    Calls Try.prog 15 #[secV bs] w (OfRes bs w) := by
  simp only [secV]
  obtain ⟨x13, e13, b13a, b13b, h13⟩ := byte_getD hb 13 (by omega)
  have hcv := fun W hc => conv_str W w.heap.size 0 64 bs hc
  simp only [hl] at hcv
  have hq := head_map bs hb hl
  have hhd := hh
  simp only [ofHead, e13, Bool.and_eq_true, decide_eq_true_eq] at hhd
  rw [hhd.1] at hq
  have hn := hhd.2
  clear hhd
  have hsz := strA_size bs
  rw [hl] at hsz
  have hx2 := strA_extract bs 0 2
  have hx3 : (strA (bs.take 2)).toList = List.take 2 (List.map (fun x => UInt8.ofNat x.toNat) bs) := by rw [← List.map_take]; exact strA_toList _
  have hf2 := strA_from bs 2 64 hl
  have hf6 := strA_from bs 6 64 hl
  have hf11 := strA_from bs 11 64 hl
  have HFR := Lib.hid fun i => strA_from bs i 64 hl
  have HCV := Lib.hid hcv; clear hcv
  have g10 := getB_one bs 10 (by omega)
  have h10 := getD_u8s bs 10 (by omega)
  rw [← g10] at h10
  have b10 := hb _ (List.getElem_mem (show 10 < bs.length by omega))
  have e10 : bs.getD 10 0 = bs[10] := by rw [List.getD_eq_getElem?_getD, List.getElem?_eq_getElem (by omega)]; rfl
  rw [← e10, ← g10] at b10
  obtain ⟨b10a, b10b⟩ := b10
  clear e10 g10
  have HB := Lib.hid hb; clear hb
  have HL := Lib.hid hl; clear hl
  have E13 := Lib.hid e13; clear e13
  have HH := Lib.hid hh; clear hh
  obtain ⟨n, rfl⟩ := Int.eq_ofNat_of_zero_le b13a
  go_enter Try.func15, Try.ntmps15
  go_wp2_with (refine stop_at (o := ⟨some 19, _, _, _, _, _⟩) ?_)
  refine Stop.mk ?_
  have hcv := HCV.out ((w.alloc (Obj.cells (u8s bs).toArray 26)).alloc (Obj.cells #[.int .i64 0, .int .i64 0, .int .i64 0, .int .i64 0, .slice none 0 0] 24)) (((Cells.of_block (heap_alloc_new w _))).kept ((Kept.refl _).alloc _))
  simp only [strV] at hcv
  go_wp2_with fail
  refine Calls.mono (ref_Get4 bs 2 _ HB.out HL.out (by omega)) ?_
  rintro e w' ⟨rfl, rfl⟩
  go_wp2_with fail
  refine Calls.mono (ref_Get4 bs 6 _ HB.out HL.out (by omega)) ?_
  rintro e w' ⟨rfl, rfl⟩
  go_wp2_with fail
  refine Calls.mono (ref_Get2 bs 11 _ HB.out HL.out (by omega)) ?_
  rintro e w' ⟨rfl, rfl⟩
  clear hx2 hx3 hq hf2 hf6 hf11 hcv
  go_wp2_with fail
  go_loopw [12] (fun i wr => ∃ k : Nat, ∃ sl, k ≤ n ∧ i = .int .i64 (k : Int) ∧ Kept w wr ∧ w.heap.size + 3 ≤ wr.heap.size ∧
    wr.heap[w.heap.size]? = some (.cells (u8s bs).toArray 26 (0, 0)) ∧
    wr.heap[w.heap.size + 1]? = some (.cells #[.int .i64 0, .int .i64 0, .int .i64 0, .int .i64 0, .slice none 0 0] 24 (0, 0)) ∧
    wr.heap[w.heap.size + 1 + 1]? = some (.cells #[.int .i64 (getB bs 2 4), .int .i64 (getB bs 6 4), .int .i64 (getB bs 10 1), .int .i64 (getB bs 11 2), sl] 24 (0, 0)) ∧
    wr.ownsRow (w.heap.size + 3) 38 3 sl k (mvals (parseMs bs k))) (fun a _ => (100 - intOf a).toNat)
  case atStart =>
    refine ⟨0, .slice none 0 0, by omega, by simp, (((Kept.refl _).alloc _).alloc _).alloc _, by simp, ?_, ?_, ?_, World.ownsRow_nil _ _ _ _⟩
    · exact (((Kept.refl (w.alloc _)).alloc _).alloc _).block (heap_alloc_new w _)
    · have := ((Kept.refl ((w.alloc (Obj.cells (u8s bs).toArray 26)).alloc _)).alloc (Obj.cells #[.int .i64 (getB bs 2 4), .int .i64 (getB bs 6 4), .int .i64 (getB bs 10 1), .int .i64 (getB bs 11 2), .slice none 0 0] 24)).block (heap_alloc_new (w.alloc (Obj.cells (u8s bs).toArray 26)) (Obj.cells #[.int .i64 0, .int .i64 0, .int .i64 0, .int .i64 0, .slice none 0 0] 24))
      rw [World.size_alloc] at this
      exact this
    · have := heap_alloc_new ((w.alloc (Obj.cells (u8s bs).toArray 26)).alloc (Obj.cells #[.int .i64 0, .int .i64 0, .int .i64 0, .int .i64 0, .slice none 0 0] 24)) (Obj.cells #[.int .i64 (getB bs 2 4), .int .i64 (getB bs 6 4), .int .i64 (getB bs 10 1), .int .i64 (getB bs 11 2), .slice none 0 0] 24)
      rw [World.size_alloc, World.size_alloc] at this
      exact this
  case round =>
    obtain ⟨k, sl, hk, rfl, hkw, hsz, hzs, hz0, hz1, hown⟩ := hrel
    have hcs : Cells wr w.heap.size 0 (u8s bs) := by simpa using Cells.of_block hzs
    have HCS := Lib.hid hcs; clear hcs
    have HZS := Lib.hid hzs; clear hzs
    have HZ0 := Lib.hid hz0; clear hz0
    have HZ1 := Lib.hid hz1; clear hz1
    have HO := Lib.hid hown; clear hown
    have hs1 : w.heap.size + 1 + 1 < wr.heap.size := by omega
    have c4 : wr.cell? ⟨w.heap.size + 1 + 1, 4, none⟩ = some sl := by rw [cell_of_row _ _ _ _ _ _ HZ1.out]; rfl
    have c13 : wr.cell? ⟨w.heap.size, 13, none⟩ = some (.int .u8 n) := by rw [cell_of_row _ _ _ _ _ _ HZS.out]; simpa using h13
    clear h13 h10
    by_cases hlt : k < n
    · obtain ⟨A, hA⟩ : ∃ A : Nat, A = 14 + 4 * k := ⟨_, rfl⟩
      have hAk : (14 : Int) + 4 * (k : Int) = (A : Int) := by omega
      have hA64 : A + 4 ≤ 64 := by omega
      have hxA := HFR.out (A + 1)
      have hA1 : (A : Int) < 64 := by omega
      have hA3 : (A : Int) + 3 < 64 := by omega
      have hA30 : 0 ≤ (A : Int) + 3 := by omega
      have hw3 : IntKind.i64.wrap ((A : Int) + 3) = (A : Int) + 3 := IntWalk.i64_in _ (by omega)
      have htn : ((A : Int) + 3).toNat = A + 3 := by omega
      obtain ⟨y0, f0, y0a, y0b, q0⟩ := byte_getD HB.out A (by have := HL.out; omega)
      obtain ⟨y3, f3, y3a, y3b, q3⟩ := byte_getD HB.out (A + 3) (by have := HL.out; omega)
      have hAc : wr.cell? ⟨w.heap.size, A, none⟩ = some (.int .u8 y0) := by rw [cell_of_row _ _ _ _ _ _ HZS.out]; simpa using q0
      have hAd : wr.cell? ⟨w.heap.size, A + 3, none⟩ = some (.int .u8 y3) := by rw [cell_of_row _ _ _ _ _ _ HZS.out]; simpa using q3
      clear q0 q3
      have G0 : Hid (getB bs A 1 = y0) := Lib.hid (by rw [getB_one bs A (by have := HL.out; omega), f0])
      have G3 : Hid (getB bs (A + 3) 1 = y3) := Lib.hid (by rw [getB_one bs (A + 3) (by have := HL.out; omega), f3])
      clear f0 f3
      have HA := Lib.hid (fun o => ownsRow_kept HO.out (((Kept.refl wr).alloc o).drew))
      have HSr := Lib.hid (fun (a b c : Int) (t : Nat) => Src.of_cells (n := 1) (c := 1) (size := 3) (Cells.kept (Cells.new (w := wr) (c := #[.int .i64 a, .int .i64 b, .int .i64 c]) (t := t) (fr := (0, 0)) rfl rfl) ((Kept.refl _).drew)) rfl (Nat.le_refl _))
      have HK := Lib.hid hkw; clear hkw
      have HAA := Lib.hid hA; clear hA
      go_wp2_with fail
      refine Calls.mono (ref_Get2 bs (A + 1) _ HB.out HL.out (by omega)) ?_
      rintro e w' ⟨rfl, rfl⟩
      go_upto_region 13 with fail
      have hZ : ∀ o w', Below (w.heap.size + 3) ((wr.alloc o).drew) w' → w'.heap[w.heap.size + 1 + 1]? = some (.cells #[.int .i64 (getB bs 2 4), .int .i64 (getB bs 6 4), .int .i64 (getB bs 10 1), .int .i64 (getB bs 11 2), sl] 24 (0, 0)) := by
        intro o w' h
        rw [h.block _ (by omega)]
        exact (((Kept.refl wr).alloc o).drew).block HZ1.out
      have hZ4 : ∀ o w', Below (w.heap.size + 3) ((wr.alloc o).drew) w' → w'.cell? ⟨w.heap.size + 1 + 1, 4, none⟩ = some sl ∧ w'.frozen? ⟨w.heap.size + 1 + 1, 4, none⟩ = false := fun o w' h =>
        ⟨(cell_of_row _ _ _ _ _ _ (hZ o w' h)).trans rfl, frozen_of_row _ _ _ _ _ (hZ o w' h)⟩
      have HZ := Lib.hid hZ; clear hZ
      have HZ4 := Lib.hid hZ4; clear hZ4
      have hS : wr.drew.cell? ⟨w.heap.size + 1 + 1, 4, none⟩ = some sl ∧ wr.drew.cell? ⟨w.heap.size, A, none⟩ = some (.int .u8 y0) ∧ wr.drew.cell? ⟨w.heap.size, A + 3, none⟩ = some (.int .u8 y3) := ⟨by simpa using c4, by simpa using hAc, by simpa using hAd⟩
      have hS1 := Lib.hid (fun W (hk : Kept wr W) => (show W.cell? ⟨w.heap.size + 1 + 1, 4, none⟩ = some sl ∧ W.cell? ⟨w.heap.size, A, none⟩ = some (.int .u8 y0) ∧ W.cell? ⟨w.heap.size, A + 3, none⟩ = some (.int .u8 y3) from ⟨hk.cell' c4, hk.cell' hAc, hk.cell' hAd⟩))
      have hS2 := Lib.hid (fun o W (hb : Below (w.heap.size + 3) ((wr.alloc o).drew) W) (h4 : W.cell? ⟨w.heap.size + 1 + 1, 4, none⟩ = some sl) => (show W.cell? ⟨w.heap.size + 1 + 1, 4, none⟩ = some sl ∧ W.cell? ⟨w.heap.size, A, none⟩ = some (.int .u8 y0) ∧ W.cell? ⟨w.heap.size, A + 3, none⟩ = some (.int .u8 y3) from
        ⟨h4, (hb.cell (by simp)).trans ((((Kept.refl wr).alloc o).drew).cell' hAc), (hb.cell (by simp)).trans ((((Kept.refl wr).alloc o).drew).cell' hAd)⟩))
      clear c4 c13 hAc hAd
      refine wp_region_calm ?_
      refine wp_region_E (fun W => W.cell? ⟨w.heap.size + 1 + 1, 4, none⟩ = some sl ∧ W.cell? ⟨w.heap.size, A, none⟩ = some (.int .u8 y0) ∧ W.cell? ⟨w.heap.size, A + 3, none⟩ = some (.int .u8 y3)) 16 (by kernel_rfl) ?_
      refine wpAnyE_take (i := 0) (v := ?_) (listed' := #[true, false, false, false, false, false, false, false, false, false, false, false, false, false, false, false, false]) (by rfl) (by kernel_rfl) (by kernel_rfl) calm_put hS (by rfl) ?_ ?_
      rotate_left
      · intro W hW; clear hW; go_simp; try (with_reducible rfl)
      simp only [Act.put, List.getElem_toArray, List.getElem_cons_succ, List.getElem_cons_zero, List.setIfInBounds_toArray, List.set_cons_zero, List.set_cons_succ]
      refine wpAnyE_take (i := 1) (v := ?_) (listed' := #[true, true, false, false, false, false, false, false, false, false, false, false, false, false, false, false, false]) (by rfl) (by kernel_rfl) (by kernel_rfl) calm_put hS (by rfl) ?_ ?_
      rotate_left
      · intro W hW; obtain ⟨s4, sA, sD⟩ := hW; go_simp; try (with_reducible rfl)
      simp only [Act.put, List.getElem_toArray, List.getElem_cons_succ, List.getElem_cons_zero, List.setIfInBounds_toArray, List.set_cons_zero, List.set_cons_succ]
      refine wpAnyE_take (i := 2) (v := ?_) (listed' := #[true, true, true, false, false, false, false, false, false, false, false, false, false, false, false, false, false]) (by rfl) (by kernel_rfl) (by kernel_rfl) calm_put hS (by rfl) ?_ ?_
      rotate_left
      · intro W hW; clear hW; go_simp; try (with_reducible rfl)
      simp only [Act.put, List.getElem_toArray, List.getElem_cons_succ, List.getElem_cons_zero, List.setIfInBounds_toArray, List.set_cons_zero, List.set_cons_succ]
      refine wpAnyE_take (i := 3) (v := ?_) (listed' := #[true, true, true, true, false, false, false, false, false, false, false, false, false, false, false, false, false]) (by rfl) (by kernel_rfl) (by kernel_rfl) calm_put hS (by rfl) ?_ ?_
      rotate_left
      · intro W hW; clear hW; go_simp; try (with_reducible rfl)
      simp only [Act.put, List.getElem_toArray, List.getElem_cons_succ, List.getElem_cons_zero, List.setIfInBounds_toArray, List.set_cons_zero, List.set_cons_succ]
      refine wpAnyE_take (i := 4) (v := ?_) (listed' := #[true, true, true, true, true, false, false, false, false, false, false, false, false, false, false, false, false]) (by rfl) (by kernel_rfl) (by kernel_rfl) calm_put hS (by rfl) ?_ ?_
      rotate_left
      · intro W hW; obtain ⟨s4, sA, sD⟩ := hW; go_simp; try (with_reducible rfl)
      simp only [Act.put, List.getElem_toArray, List.getElem_cons_succ, List.getElem_cons_zero, List.setIfInBounds_toArray, List.set_cons_zero, List.set_cons_succ]
      refine wpAnyE_take (i := 5) (v := ?_) (listed' := #[true, true, true, true, true, true, false, false, false, false, false, false, false, false, false, false, false]) (by rfl) (by kernel_rfl) (by kernel_rfl) calm_put hS (by rfl) ?_ ?_
      rotate_left
      · intro W hW; clear hW; go_simp; try (with_reducible rfl)
      simp only [Act.put, List.getElem_toArray, List.getElem_cons_succ, List.getElem_cons_zero, List.setIfInBounds_toArray, List.set_cons_zero, List.set_cons_succ]
      refine wpAnyE_take (i := 6) (v := ?_) (listed' := #[true, true, true, true, true, true, true, false, false, false, false, false, false, false, false, false, false]) (by rfl) (by kernel_rfl) (by kernel_rfl) calm_put hS (by rfl) ?_ ?_
      rotate_left
      · intro W hW; clear hW; go_simp; try (with_reducible rfl)
      simp only [Act.put, List.getElem_toArray, List.getElem_cons_succ, List.getElem_cons_zero, List.setIfInBounds_toArray, List.set_cons_zero, List.set_cons_succ]
      refine wpAnyE_take (i := 7) (v := ?_) (listed' := #[true, true, true, true, true, true, true, true, false, false, false, false, false, false, false, false, false]) (by rfl) (by kernel_rfl) (by kernel_rfl) calm_put hS (by rfl) ?_ ?_
      rotate_left
      · intro W hW; clear hW; go_simp; try (with_reducible rfl)
      simp only [Act.put, List.getElem_toArray, List.getElem_cons_succ, List.getElem_cons_zero, List.setIfInBounds_toArray, List.set_cons_zero, List.set_cons_succ]
      refine wpAnyE_take (i := 8) (v := ?_) (listed' := #[true, true, true, true, true, true, true, true, true, false, false, false, false, false, false, false, false]) (by rfl) (by kernel_rfl) (by kernel_rfl) calm_put hS (by rfl) ?_ ?_
      rotate_left
      · intro W hW; clear hW; go_simp; try (with_reducible rfl)
      simp only [Act.put, List.getElem_toArray, List.getElem_cons_succ, List.getElem_cons_zero, List.setIfInBounds_toArray, List.set_cons_zero, List.set_cons_succ]
      refine wpAnyE_take (i := 9) (v := ?_) (listed' := #[true, true, true, true, true, true, true, true, true, true, false, false, false, false, false, false, false]) (by rfl) (by kernel_rfl) (by kernel_rfl) calm_put hS (by rfl) ?_ ?_
      rotate_left
      · intro W hW; clear hW; go_simp; try (with_reducible rfl)
      simp only [Act.put, List.getElem_toArray, List.getElem_cons_succ, List.getElem_cons_zero, List.setIfInBounds_toArray, List.set_cons_zero, List.set_cons_succ]
      refine wpAnyE_take (i := 10) (v := ?_) (listed' := #[true, true, true, true, true, true, true, true, true, true, true, false, false, false, false, false, false]) (by rfl) (by kernel_rfl) (by kernel_rfl) calm_put hS (by rfl) ?_ ?_
      rotate_left
      · intro W hW; obtain ⟨s4, sA, sD⟩ := hW; go_simp; try (with_reducible rfl)
      simp only [Act.put, List.getElem_toArray, List.getElem_cons_succ, List.getElem_cons_zero, List.setIfInBounds_toArray, List.set_cons_zero, List.set_cons_succ]
      refine wpAnyE_take (i := 11) (v := ?_) (listed' := #[true, true, true, true, true, true, true, true, true, true, true, true, false, false, false, false, false]) (by rfl) (by kernel_rfl) (by kernel_rfl) calm_put hS (by rfl) ?_ ?_
      rotate_left
      · intro W hW; clear hW; go_simp; try (with_reducible rfl)
      simp only [Act.put, List.getElem_toArray, List.getElem_cons_succ, List.getElem_cons_zero, List.setIfInBounds_toArray, List.set_cons_zero, List.set_cons_succ]
      refine wpAnyE_take (i := 12) (v := ?_) (listed' := #[true, true, true, true, true, true, true, true, true, true, true, true, true, false, false, false, false]) (by rfl) (by kernel_rfl) (by kernel_rfl) calm_put hS (by rfl) ?_ ?_
      rotate_left
      · intro W hW; clear hW; go_simp; try (with_reducible rfl)
      simp only [Act.put, List.getElem_toArray, List.getElem_cons_succ, List.getElem_cons_zero, List.setIfInBounds_toArray, List.set_cons_zero, List.set_cons_succ]
      refine wpAnyE_one (i := 13) (listed' := #[true, true, true, true, true, true, true, true, true, true, true, true, true, true, false, false, false]) (by rfl) (by kernel_rfl) (by kernel_rfl) (by rfl) (fun K hK => ?_)
      simp only [Act.put, List.getElem_toArray, List.getElem_cons_succ, List.getElem_cons_zero, List.setIfInBounds_toArray, List.set_cons_zero, List.set_cons_succ]
      go_wp2
      refine hK _ _ (fun _ => hS1.out _ ((((Kept.refl wr).alloc _).drew))) ?_; clear hK K
      refine wpAnyE_one (i := 14) (listed' := #[true, true, true, true, true, true, true, true, true, true, true, true, true, true, true, false, false]) (by rfl) (by kernel_rfl) (by kernel_rfl) (by rfl) (fun K hK => ?_)
      simp only [Act.put, List.getElem_toArray, List.getElem_cons_succ, List.getElem_cons_zero, List.setIfInBounds_toArray, List.set_cons_zero, List.set_cons_succ]
      refine wp_append_app _ _ (by rfl) ty_mems (w.heap.size + 3) sl k (mvals (parseMs bs k)) (by rfl) (.inl (HA.out _)) _ 1 _ (by rfl) (HSr.out _ _ _ _) (by intro u hu; simp at hu; rcases hu with rfl | rfl | rfl <;> rfl) (by simp only [maxLen]; omega) (by omega) (by simp; omega) ?_
      intro v' w' _ _ hbw hown'
      obtain ⟨d4, f4⟩ := HZ4.out _ _ hbw
      have hS := hS2.out _ _ hbw d4
      have ho1 := hown' (.inl (by omega))
      clear hown'
      obtain ⟨g, cp, rfl, _, _⟩ := ho1.form (by omega)
      have HO' := Lib.hid ho1
      clear ho1
      refine hK _ _ (fun _ => hS) ?_; clear hK K
      clear hS1 hS2
      refine wpAnyE_take (i := 15) (v := ?_) (listed' := #[true, true, true, true, true, true, true, true, true, true, true, true, true, true, true, true, false]) (by rfl) (by kernel_rfl) (by kernel_rfl) calm_put hS (by rfl) ?_ ?_
      rotate_left
      · intro W hW; clear hW; go_simp; try (with_reducible rfl)
      simp only [Act.put, List.getElem_toArray, List.getElem_cons_succ, List.getElem_cons_zero, List.setIfInBounds_toArray, List.set_cons_zero, List.set_cons_succ]
      refine wpAnyE_one (i := 16) (listed' := #[true, true, true, true, true, true, true, true, true, true, true, true, true, true, true, true, true]) (by rfl) (by kernel_rfl) (by kernel_rfl) (by rfl) (fun K hK => ?_)
      simp only [Act.put, List.getElem_toArray, List.getElem_cons_succ, List.getElem_cons_zero, List.setIfInBounds_toArray, List.set_cons_zero, List.set_cons_succ]
      go_wp2
      refine hK _ _ (fun h => absurd rfl h) ?_; clear hK K
      refine wpAnyE_done (by kernel_rfl) ?_ _
      refine calm_normal ?_
      go_wp2
      go_roundw
      case measure => simp [intOf]; omega
      have z : Kept w w' := ((HK.out.trans ((Kept.refl wr).alloc _)).drew).below (by omega) hbw
      have hzw := HZ.out _ _ hbw
      have k3 : ∀ j, j < w.heap.size + 3 → w'.heap[j]? = wr.heap[j]? := fun j hj => by
        rw [hbw.block j hj]
        exact (((Kept.refl wr).alloc _).drew).block_eq (by omega)
      have hkl : w.heap.size + 3 ≤ w'.heap.size := by have := Below.size hbw; simp at this; omega
      refine ⟨k + 1, _, by omega, by go_num, z.setCell (by simp; omega) _, by simpa using hkl, ?_, ?_, heap_setCell_same w' _ 4 _ _ _ hzw, ?_⟩
      · rw [heap_setCell_other _ _ _ _ (by simp; omega), k3 _ (by omega)]; exact HZS.out
      · rw [heap_setCell_other _ _ _ _ (by simp), k3 _ (by omega)]; exact HZ0.out
      · refine ownsRow_setCell_below ?_ (by simp) _
        rw [parseMs_next, mvals_append]
        have e : mvals [memAt bs k] = [.int .i64 y0, .int .i64 (getB bs (A + 1) 2), .int .i64 y3] := by
          simp only [mvals, memAt, Mem.vals, List.flatMap_cons, List.flatMap_nil, List.append_nil]
          have := HAA.out
          rw [show 15 + 4 * k = A + 1 by omega, show 17 + 4 * k = A + 3 by omega, show 14 + 4 * k = A by omega, G0.out, G3.out]
        rw [e]
        exact HO'.out
    · have hkn : k = n := by omega
      have hP : parse bs = ⟨getB bs 2 4, getB bs 6 4, getB bs 10 1, getB bs 11 2, parseMs bs k⟩ := by
        rw [parse, E13.out, hkn]; simp
      have hms : MSl wr sl (parseMs bs k) := MSl.of_owns (by rw [parseMs_length]; exact HO.out)
      have hput := fun W (hk : Kept wr W) => ref_LPut (parse bs) sl W (by rw [hP]; simp [parseMs_length]; omega) (by rw [hP]; exact hms.kept hk)
      have hslen : (putSec (parse bs)).length = 64 := by
        unfold putSec
        split
        · exact Lab.sec_length (parse bs) (by rw [hP]; simp [parseMs_length]; omega)
        · exact zeroB_length
      have hok : ofOk bs = (decide (putErr (parse bs) = 0) && (putSec (parse bs) == bs)) := by
        simp only [ofOk, HH.out, putErr, putSec, Bool.true_and]
        by_cases h : rightB (parse bs) = true <;> simp [h]
      have herr : putErr (parse bs) = 0 ∨ putErr (parse bs) = 1 := by
        unfold putErr; split <;> simp
      have hval : (parse bs).val sl = .agg #[.int .i64 (getB bs 2 4), .int .i64 (getB bs 6 4), .int .i64 (getB bs 10 1), .int .i64 (getB bs 11 2), sl] := by rw [hP]; rfl
      rw [hval] at hput
      have HVAL := Lib.hid hval; clear hval
      have HP := Lib.hid hP; clear hP
      have HMS := Lib.hid hms; clear hms
      have HPut := Lib.hid hput; clear hput
      have HOK := Lib.hid hok; clear hok
      have HONE := Lib.hid (lab_one ⟨getB bs 2 4, getB bs 6 4, getB bs 10 1, getB bs 11 2, parseMs bs k⟩ sl HMS.out.one)
      have hq := run_equal_secA (putSec (parse bs)) bs hslen HL.out
      have HSL := Lib.hid hslen; clear hslen
      have HQ := Lib.hid hq; clear hq
      have heqg := eqg_sec
      have HEQG := Lib.hid heqg; clear heqg
      have HLT : Hid (∀ g' cap, sl = .slice (some ⟨g', 0, none⟩) k cap → ∀ w2 : World, wr.heap.size ≤ w2.heap.size → g' ≠ w2.heap.size) := Lib.hid (fun g' cap e w2 h => by
        rcases owns_form HO.out with ⟨rfl, _⟩ | ⟨g, cp, rfl, _, hg, _⟩
        · cases e
        · cases e; omega)
      have HK := Lib.hid hkw; clear hkw
      have hlt' : ¬ ((k : Int) < (n : Int)) := by omega
      generalize putSec (parse bs) = sec at *
      generalize putErr (parse bs) = er at *
      clear c4 hkn
      go_wp2_with (refine stop_at (o := ⟨some 90, _, _, _, _, _⟩) ?_)
      refine Stop.mk ?_
      refine wpList_load_agg rfl _ rfl ty_lab (w.heap.size + 1 + 1) 0 rfl [.int .i64 (getB bs 2 4), .int .i64 (getB bs 6 4), .int .i64 (getB bs 10 1), .int .i64 (getB bs 11 2), sl] (by simpa using Cells.of_block HZ1.out) rfl ?_
      go_wp2_with fail
      refine Calls.mono (HPut.out _ (Kept.refl _)) ?_
      rintro e w2 ⟨rfl, hk2⟩
      go_wp2_with (refine stop_at (o := ⟨some 16, _, _, _, _, _⟩) ?_)
      refine Stop.mk ?_
      refine wpList_alloc_abs rfl 26 rfl (u8s zeroB) zero_sec ?_
      intro w3 hz3 hs3 hn3 hk3
      have hs4 := hk2.size
      go_wp2_with (refine stop_at (o := ⟨none, .store _ _ _, _, _, _, _⟩) ?_)
      refine Stop.mk ?_
      refine wpList_store_agg rfl _ _ rfl ty_sec w2.heap.size 0 rfl (u8s sec) rfl (by rw [u8s_length, HSL.out]) (u8s_one _) (u8s zeroB) 26 hz3.out (by simp [u8s_length, zeroB_length]) ?_
      intro w4 hw4
      have hz4 := (hw4.oth (w.heap.size + 1) (by omega)).trans (hk3.block (hk2.block HZ0.out))
      have hz5 := (hw4.oth (w.heap.size + 1 + 1) (by omega)).trans (hk3.block (hk2.block HZ1.out))
      have hz6 := (hw4.oth w.heap.size (by omega)).trans (hk3.block (hk2.block HZS.out))
      have hw5 := hw4.all (by rw [u8s_length, u8s_length, HSL.out, zeroB_length])
      have HZ4 := Lib.hid hz4; have HZ5 := Lib.hid hz5; have HZ6 := Lib.hid hz6; clear hz4 hz5 hz6
      have hs5 := hk3.size
      have hs6 := hw4.size
      have hkw4 : Kept w w4 := hw4.kept (HK.out.trans (hk2.trans hk3)) (by omega)
      have HW4 := Lib.hid hw4; clear hw4
      by_cases her : er = 0
      · subst her
        go_wp2_with (refine stop_at (o := ⟨some 97, _, _, _, _, _⟩) ?_)
        refine Stop.mk ?_
        refine wpList_load_aggW _ rfl ty_sec w2.heap.size 0 rfl (u8s sec) hw5.cells (by rw [u8s_length, HSL.out]) rfl ?_
        go_wp2_with (refine stop_at (o := ⟨some 98, _, _, _, _, _⟩) ?_)
        refine Stop.mk ?_
        refine wpList_load_aggW _ rfl ty_sec w.heap.size 0 rfl (u8s bs) (by simpa using Cells.of_block HZ6.out) (by rw [u8s_length, HL.out]) rfl ?_
        have hq := HQ.out
        have heqg := HEQG.out
        by_cases hse : (sec == bs) = true
        · rw [hse] at hq
          go_wp2_with (refine stop_at (o := ⟨some 102, _, _, _, _, _⟩) ?_)
          refine Stop.mk ?_
          refine wpList_load_agg rfl _ rfl ty_lab (w.heap.size + 1 + 1) 0 rfl [.int .i64 (getB bs 2 4), .int .i64 (getB bs 6 4), .int .i64 (getB bs 10 1), .int .i64 (getB bs 11 2), sl] (by simpa using Cells.of_block HZ5.out) rfl ?_
          go_wp2_with (refine stop_at (o := ⟨none, .store _ _ _, _, _, _, _⟩) ?_)
          refine Stop.mk ?_
          refine wpList_store_agg rfl _ _ rfl ty_lab (w.heap.size + 1) 0 rfl [.int .i64 (getB bs 2 4), .int .i64 (getB bs 6 4), .int .i64 (getB bs 10 1), .int .i64 (getB bs 11 2), sl] rfl rfl HONE.out [.int .i64 0, .int .i64 0, .int .i64 0, .int .i64 0, .slice none 0 0] 24 HZ4.out (by decide) ?_
          intro w6 hw6
          replace hw6 := hw6.all rfl
          have hkf : Kept w w6 := hw6.kept hkw4 (by omega)
          go_wp2_with fail
          refine bodyPost_ret (results_lab rfl _ _ (w.heap.size + 1) ⟨getB bs 2 4, getB bs 6 4, getB bs 10 1, getB bs 11 2, parseMs bs k⟩ sl rfl hw6.cells) rfl ?_
          refine ⟨hkf, .inl ⟨by rw [HOK.out]; simpa using hse, sl, by rw [HP.out]; rfl, ?_⟩⟩
          have ho2 := ownsRow_kept (ownsRow_kept HO.out hk2) hk3
          have ho3 := ownsRow_wrote hw6 (ownsRow_wrote_up HW4.out ho2 (fun g' cap e => HLT.out g' cap e w2 hs4)) (by omega)
          rw [HP.out]
          exact MSl.of_owns (by rw [parseMs_length]; exact ho3)
        · have hse' : (sec == bs) = false := by simpa using hse
          rw [hse'] at hq
          go_wp2_with (refine stop_at (o := ⟨none, .store _ _ _, _, _, _, _⟩) ?_)
          refine Stop.mk ?_
          refine wpList_store_agg rfl _ _ rfl ty_lab (w.heap.size + 1) 0 rfl [.int .i64 0, .int .i64 0, .int .i64 0, .int .i64 0, .slice none 0 0] rfl rfl (lab_one Lab.zero (.slice none 0 0) rfl) [.int .i64 0, .int .i64 0, .int .i64 0, .int .i64 0, .slice none 0 0] 24 HZ4.out (by decide) ?_
          intro w6 hw6
          replace hw6 := hw6.all rfl
          have hkf : Kept w w6 := hw6.kept hkw4 (by omega)
          go_wp2_with fail
          refine bodyPost_ret (results_lab rfl _ _ (w.heap.size + 1) Lab.zero (.slice none 0 0) rfl hw6.cells) rfl ?_
          exact ⟨hkf, .inr ⟨by rw [HOK.out]; simpa using hse', rfl⟩⟩
      · obtain rfl : er = 1 := by rcases herr with h | h; exact absurd h her; exact h
        go_wp2_with (refine stop_at (o := ⟨none, .store _ _ _, _, _, _, _⟩) ?_)
        refine Stop.mk ?_
        refine wpList_store_agg rfl _ _ rfl ty_lab (w.heap.size + 1) 0 rfl [.int .i64 0, .int .i64 0, .int .i64 0, .int .i64 0, .slice none 0 0] rfl rfl (lab_one Lab.zero (.slice none 0 0) rfl) [.int .i64 0, .int .i64 0, .int .i64 0, .int .i64 0, .slice none 0 0] 24 HZ4.out (by decide) ?_
        intro w6 hw6
        replace hw6 := hw6.all rfl
        have hkf : Kept w w6 := hw6.kept hkw4 (by omega)
        go_wp2_with fail
        refine bodyPost_ret (results_lab rfl _ _ (w.heap.size + 1) Lab.zero (.slice none 0 0) rfl hw6.cells) rfl ?_
        exact ⟨hkf, .inr ⟨by rw [HOK.out]; rfl, rfl⟩⟩
/-- Of, of any sector. -/
theorem ref_Of (bs : List Int) (w : World) (hb : ∀ x ∈ bs, IsByte x) (hl : bs.length = 64) : Calls Try.prog 15 #[secV bs] w (OfRes bs w) := by
  cases hh : ofHead bs with
  | true => exact ref_Of_head bs w hb hl hh
  | false => exact ref_Of_no bs w hb hl hh
/-- what Of tells -/
def ofLab (bs : List Int) : Lab := if ofOk bs then parse bs else Lab.zero
def ofErr (bs : List Int) : Int := if ofOk bs then 0 else 2
theorem OfRes.tells {bs : List Int} {w : World} {e : Ending} {w' : World} (h : OfRes bs w e w') : ∃ sl, e = .returned (.tuple #[(ofLab bs).val sl, .int .i64 (ofErr bs)]) ∧ MSl w' sl (ofLab bs).ms ∧ Kept w w' := by
  obtain ⟨hk, ⟨h, sl, he, hm⟩ | ⟨h, he⟩⟩ := h
  · exact ⟨sl, by simp [ofLab, ofErr, h, he], by simpa [ofLab, h] using hm, hk⟩
  · exact ⟨.slice none 0 0, by simp [ofLab, ofErr, h, he], .inl ⟨by simp [ofLab, h, Lab.zero], rfl⟩, hk⟩
end Go.Proofs.Ytpnpconphpbcaaa
