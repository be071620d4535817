/- CheckSizes' walk. -/
import Derived.Test.YtpeclkhppgabfaaDoorSzp
namespace Go.Proofs.YtpeclkhppgabfaaDoor
open Go.RowKit
set_option linter.unusedVariables false
set_option linter.unusedSimpArgs false

def sizeTo (n k : Nat) : List Int := (List.range n).map fun (i : Nat) => if i < k then ((i % 255 + 1 : Nat) : Int) else 0
theorem sizeTo_len (n k : Nat) : (sizeTo n k).length = n := by simp [sizeTo]
theorem sizeTo_zero (n : Nat) : sizeTo n 0 = List.replicate n 0 := by simp [sizeTo, List.map_const']
theorem sizeTo_all (n : Nat) : sizeTo n n = sizeB n := by
  unfold sizeTo sizeB
  refine List.map_congr_left fun i hi => ?_
  rw [List.mem_range] at hi
  rw [if_pos hi]
theorem sizeTo_set {n k : Nat} (hk : k < n) : (u8s (sizeTo n k)).set k (.int .u8 (((k % 255 + 1 : Nat)) : Int)) = u8s (sizeTo n (k + 1)) := by
  have e : (u8s (sizeTo n k)).set k (.int .u8 (((k % 255 + 1 : Nat)) : Int)) = u8s ((sizeTo n k).set k (((k % 255 + 1 : Nat)) : Int)) := by simp [u8s]
  rw [e]
  congr 1
  refine List.ext_getElem (by simp [sizeTo]) fun i h1 h2 => ?_
  rw [List.getElem_set]
  by_cases e : k = i
  · subst e; simp [sizeTo]
  · rw [if_neg e]
    simp only [sizeTo, List.getElem_map, List.getElem_range]
    by_cases hl : i < k
    · rw [if_pos hl, if_pos (by omega)]
    · rw [if_neg hl, if_neg (by omega)]
theorem size_u8 : (Tryd.prog.info? 5).map (·.size) = some 1 := by kernel_rfl
theorem wpList_make_bytes {ops : Array Oper} {rest : List Oper} {o : Oper} {a : Act} {w : World} {Q : Exit → Act → World → Prop} (hgd : o.guard = none) (x y : Operand) (ho : o.op = .makeSlice 25 x y) (n : Nat) (hn : n ≤ 100000) (hx : a.eval x = .int .i64 (n : Int)) (hy : a.eval y = .int .i64 (n : Int))
    (h : ∀ w1, Hid (w1.heap[w.heap.size]? = some (.cells (u8s (List.replicate n 0)).toArray 5 (0, 0))) → w.heap.size < w1.heap.size → Kept w w1 → wpList Tryd.prog ops Q rest (a.put o.dst (.slice (some ⟨w.heap.size, 0, none⟩) n n)) w1) : wpList Tryd.prog ops Q (o :: rest) a w := by
  refine wpList_plain hgd fun K hK => ?_
  have h1 : (Tryd.prog.info? 5).map (fun i => (i.zero, i.size, i.bytes)) = some (some (.int .u8 0), 1, 1) := by kernel_rfl
  cases hi : Tryd.prog.info? 5 with
  | none => simp [hi] at h1
  | some i =>
    simp only [hi, Option.map_some, Option.some.injEq, Prod.mk.injEq] at h1
    have hr := run_make (P := Tryd.prog) w 25 5 i _ Tryd.underlying25 hi h1.1 .i64 .i64 n n (by omega) (Int.le_refl _) (by rw [h1.2.2]; omega) (by omega)
    have h5 : madeCells (Value.int .u8 0).cells (n * i.size) = (u8s (List.replicate n 0)).toArray := by
      rw [h1.2.1, Nat.mul_one, u8s, List.map_replicate]
      exact made_const (by decide) (fun i h => by have h' : i < 1 := h; have : i = 0 := by omega
                                                  subst this; rfl) _
    simp only [Int.toNat_natCast, h5] at hr
    unfold Oper.wp execOp
    simp only [ho, hx, hy, Sem.run_bind, hr, Result.andThen_ok, Sem.run_pure]
    exact hK _ _ (h _ (Lib.hid (heap_alloc_new w _)) (by simp) ((Kept.refl _).alloc _))
section
set_option maxHeartbeats 4000000
set_option maxRecDepth 100000
theorem law_sizes (a0 a1 a2 : Int) (w : World) : Calls Tryd.prog 3 #[.int .i64 a0, .int .i64 a1, .int .i64 a2] w fun e w' => e = .returned (.bool true) ∧ Kept w w' := by
  obtain ⟨n, hn, hnl⟩ := and_low a0 11 (by decide) (m := 2047) (by decide)
  obtain ⟨ar, har, harl⟩ := and_low a1 1 (by decide) (m := 1) (by decide)
  obtain ⟨g, hg, hgl⟩ := and_low a2 32 (by decide) (m := 4294967295) (by decide)
  have hnl' : n < 2048 := hnl
  have harl' : ar < 2 := harl
  have hgl' : g < 4294967296 := hgl
  clear hnl harl hgl
  have HU0 := Lib.hid (quiet1.useN (by decide) 100 (by decide))
  go_enter Tryd.func3, Tryd.ntmps3
  go_wp2_with fail
  refine Calls.mono (law_shown10 _) ?_
  rintro e w1 ⟨rfl, hk1⟩
  have HK1 := Lib.hid hk1
  clear hk1
  go_wp2_with fail
  refine Calls.mono (bank10 1 (by decide) w w1 (fun k => k ∈ ([] : List Nat)) HK1.out (fun k h => by cases h)) ?_
  rintro e w2 ⟨q, rfl, hb2, _⟩
  have HB2 := Lib.hid hb2
  clear hb2
  go_wp2_with (refine stop_at (o := ⟨some 29, _, _, _, _, _⟩) ?_)
  refine Stop.mk ?_
  try simp only [hn, har, hg]
  refine wpList_make_bytes rfl _ _ rfl n (by omega) rfl rfl ?_
  intro w3 hz3 hs3 hk3
  have HX3 : Hid (w3.heap[w2.heap.size]? = some (.cells (u8s (sizeTo n 0)).toArray 5 (0, 0))) := Lib.hid (by rw [sizeTo_zero]; exact hz3.out)
  have HB3 := Lib.hid (HB2.out.pushR hk3 w2.heap.size (Nat.le_refl _) hs3)
  have HGX := Lib.hid HB2.out.keeps.size
  generalize w2.heap.size = X at *
  clear hz3 hs3 hk3 HB2 HK1 hn har hg
  go_wp2
  go_loopw [10] (fun i wr => ∃ k : Nat, k ≤ n ∧ i = .int .i64 k ∧ Hid (wr.heap[X]? = some (.cells (u8s (sizeTo n k)).toArray 5 (0, 0))) ∧ Hid (BK w (fun k => k ∈ [X]) wr q (addZ 200 1))) (fun i _ => n - (intOf i).toNat)
  case atStart => exact ⟨0, Nat.zero_le _, rfl, HX3, HB3⟩
  case round =>
    clear HX3 HB3
    obtain ⟨k, hk, rfl, HX, HB⟩ := hrel
    by_cases hlt : k < n
    · go_wp2_with (refine stop_at (o := ⟨none, .store _ _ _, _, _, _, _⟩) ?_)
      refine Stop.mk ?_
      have hsz := sizeTo_set hlt
      rw [show ((k % 255 + 1 : Nat) : Int) = (k : Int) % 255 + 1 by omega] at hsz
      have HSZ := Lib.hid hsz
      clear hsz
      refine wpList_set_cell rfl _ _ rfl size_u8 X k rfl (.int .u8 ((k : Int) % 255 + 1)) rfl rfl rfl (u8s (sizeTo n k)) _ HX.out (by rw [u8s_length, sizeTo_len]; exact hlt) ?_
      intro w4 hw4
      rw [HSZ.out] at hw4
      have HX4 := Lib.hid hw4.blk
      have HB4 := Lib.hid (HB.out.wrote hw4 (by simp) HGX.out)
      clear hw4 HX HB HSZ
      go_wp2
      go_roundw
      case rel => exact ⟨k + 1, hlt, by go_num, HX4, HB4⟩
      case measure => simp [intOf]; omega
    · have hkn : k = n := by omega
      have HX4 : Hid (Cells wr X 0 (u8s (sizeB n))) := Lib.hid (by have := HX.out; rw [hkn, sizeTo_all] at this; simpa using Cells.of_block this)
      have hge : n ≤ k := by omega
      clear hkn HX hlt
      go_wp2_with (refine stop_at (o := ⟨some 43, _, _, _, _, _⟩) ?_)
      refine Stop.mk ?_
      refine wpList_lit_ints rfl 1 (by decide) _ rfl [0] (by kernel_rfl) ?_
      intro w5 hz5 hs5 hk5
      have HC5 := Lib.hid (by simpa using Cells.of_block hz5.out : Cells w5 wr.heap.size 0 (ints [0]))
      have HB5 := Lib.hid (HB.out.pushR hk5 wr.heap.size (Nat.le_refl _) hs5)
      have HX5 := Lib.hid (HX4.out.kept hk5)
      generalize wr.heap.size = B at *
      clear hz5 hs5 hk5 HB HX4
      have hsrc : Src w5 1 (.slice (some ⟨X, 0, none⟩) n n) (sizeB n).length (u8s (sizeB n)) := by
        have := Src.of_cells (n := n) (c := n) (size := 1) HX5.out (by rw [u8s_length, sizeB_len]; omega) (Nat.le_refl _)
        rw [sizeB_len]; exact this
      have hc := check_Save HB5.out B 1 [0] (by simp) HC5.out (by decide) ar harl' (g : Int) ⟨by omega, by omega⟩ (.slice (some ⟨X, 0, none⟩) n n) (sizeB n) hsrc (by rw [sizeB_len]; omega) (sizeB_byte n) (HU0.out.less (by have := (partsN_pos (show (sizeB n).length ≤ 2120 by rw [sizeB_len]; omega)).2.1; rw [List.length_singleton]; omega))
      by_cases hbig : 1696 < n
      · rw [sizes_big hbig (by omega)] at hc
        have HC := Lib.hid hc
        clear hc hsrc
        go_wp2_with fail
        refine Calls.mono HC.out ?_
        rintro e w6 ⟨rfl, hb6, hs6⟩
        have HK6 := Lib.hid hb6.keeps
        clear hb6 hs6 HC HB5 HC5 HX5
        have hbig' : (1696 : Int) < (n : Int) := by omega
        go_wp2
        go_ret
        exact ⟨rfl, HK6.out⟩
      · obtain ⟨T1, hs1, hu1, hl1⟩ := sizes_ok (n := n) (by omega) harl' (gen := (g : Int)) ⟨by omega, by omega⟩
        rw [hs1] at hc
        have HC := Lib.hid hc
        have HU1 := Lib.hid hu1
        have HL1 := Lib.hid hl1
        clear hc hsrc hs1 hu1 hl1
        go_wp2_with fail
        refine Calls.mono HC.out ?_
        rintro e w6 ⟨rfl, hb6, hs6⟩
        have HB6 : Hid (BK w (fun k => k ∈ [B, X]) w6 q T1) := Lib.hid hb6
        have HX6 := Lib.hid (hs6.cells (B := X) (by simp) HX5.out)
        clear hb6 hs6 HC HB5 HC5 HX5
        have hbig' : ¬ ((1696 : Int) < (n : Int)) := by omega
        go_wp2_with (refine stop_at (o := ⟨some 54, _, _, _, _, _⟩) ?_)
        refine Stop.mk ?_
        refine wpList_lit_ints rfl 1 (by decide) _ rfl [0] (by kernel_rfl) ?_
        intro w7 hz7 hs7 hk7
        have HC7 := Lib.hid (by simpa using Cells.of_block hz7.out : Cells w7 w6.heap.size 0 (ints [0]))
        have HB7 := Lib.hid (HB6.out.kept hk7).1
        have HX7 := Lib.hid (HX6.out.kept hk7)
        generalize w6.heap.size = B2 at *
        clear hz7 hs7 hk7 HB6 HX6
        have hc := check_Load HB7.out HU1.out B2 1 [0] HC7.out (by decide)
        rw [HL1.out] at hc
        have HC := Lib.hid hc
        clear hc
        go_wp2_with fail
        refine Calls.mono HC.out ?_
        rintro e w8 ⟨bv, rfl, hown, hk8⟩
        have HB8 := Lib.hid (HB7.out.kept hk8).1
        have HX8 := Lib.hid (HX7.out.kept hk8)
        clear hk8 HC HC7 HB7 HX7
        go_wp2_with (refine stop_at (o := ⟨some 12, _, _, _, _, _⟩) ?_)
        refine Stop.mk ?_
        refine wpList_new_row rfl rfl _ _ rfl rfl ty_found zeroF zero_found rfl (bestVals ⟨(ar : Int), (g : Int), sizeB n, (g : Int), true⟩ bv) rfl rfl (best_one hown) rfl ?_
        intro w9 hz9 hs9 hk9
        have HK9 := Lib.hid (HB8.out.kept hk9).1.keeps
        have HO9 := Lib.hid (own_src (ownsRow_kept hown hk9))
        have HX9 := Lib.hid (HX8.out.kept hk9)
        have f0 : w9.cell? ⟨w8.heap.size, 0, none⟩ = some (.int .i64 (ar : Int)) := cell_of_row _ _ 0 _ _ _ hz9.out
        have f1 : w9.cell? ⟨w8.heap.size, 1, none⟩ = some (.int .i64 (g : Int)) := cell_of_row _ _ 1 _ _ _ hz9.out
        have f2 : w9.cell? ⟨w8.heap.size, 2, none⟩ = some bv := cell_of_row _ _ 2 _ _ _ hz9.out
        generalize w8.heap.size = B3 at *
        clear hz9 hs9 hk9 HB8 hown HX8
        have HSX : Hid (Src w9 1 (.slice (some ⟨X, 0, none⟩) n n) (sizeB n).length (u8s (sizeB n))) := Lib.hid (by
          have := Src.of_cells (n := n) (c := n) (size := 1) HX9.out (by rw [u8s_length, sizeB_len]; omega) (Nat.le_refl _)
          rw [sizeB_len]; exact this)
        go_wp2_with (refine stop_at (o := ⟨some 79, _, _, _, _, _⟩) ?_)
        refine Stop.mk ?_
        refine wpList_conv_str rfl _ rfl bv rfl (sizeB n) HO9.out (sizeB_byte n) ?_
        go_wp2_with (refine stop_at (o := ⟨some 81, _, _, _, _, _⟩) ?_)
        refine Stop.mk ?_
        refine wpList_conv_str rfl _ rfl (.slice (some ⟨X, 0, none⟩) n n) rfl (sizeB n) HSX.out (sizeB_byte n) ?_
        go_wp2
        go_ret
        exact ⟨rfl, HK9.out⟩
end
end Go.Proofs.YtpeclkhppgabfaaDoor
