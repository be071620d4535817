/- CheckTorn's walk. -/
import Derived.Test.YtpeclkhppgabfaaDoorTnp
import Derived.Test.YtpeclkhppgabfaaDoorIby
import Derived.Test.YtpeclkhppgabfaaDoorSzp
namespace Go.Proofs.YtpeclkhppgabfaaDoor
open Go.RowKit
set_option linter.unusedVariables false
set_option linter.unusedSimpArgs false
theorem wpList_no_sec {ops : Array Oper} {rest : List Oper} {o : Oper} {a : Act} {w : World} {Q : Exit → Act → World → Prop} (hgd : o.guard = none) (ho : o.op = .build 39 #[])
    (h : wpList Tryd.prog ops Q rest (a.put o.dst (.agg (u8s zeroB).toArray)) w) : wpList Tryd.prog ops Q (o :: rest) a w := by
  refine wpList_plain hgd fun K hK => ?_
  have hr : ∀ w : World, (Instr.build 39 #[]).run Tryd.prog w = .ok (.agg (u8s zeroB).toArray) w := fun w => run_build w 39 #[] (u8s zeroB).toArray (by kernel_rfl)
  unfold Oper.wp execOp
  simp only [ho, List.map_toArray, List.map_nil, Sem.run_bind, hr, Result.andThen_ok, Sem.run_pure]
  exact hK _ _ h
section
set_option maxHeartbeats 4000000
set_option maxRecDepth 100000
theorem law_torn (va : Value) (la : List Int) (a1 : Int) (a2 : Bool) (w : World) (hA : BSrc w va la) : Calls Tryd.prog 5 #[va, .int .i64 a1, .bool a2] w fun e w' => e = .returned (.bool true) ∧ Kept w w' := by
  obtain ⟨g, hg, hgl⟩ := and_low a1 8 (by decide) (m := 255) (by decide)
  have hgl' : g < 256 := hgl
  clear hgl
  obtain ⟨_, ax, ca, rfl, _⟩ := id hA.1
  obtain ⟨ka, hka⟩ : ∃ k, k = min la.length 600 := ⟨_, rfl⟩
  obtain ⟨hca, hA1, hla⟩ := hA.cut ka (.inr hka)
  generalize la.take ka = xa at *
  have hma : min (la.length : Int) 600 = (ka : Int) := by omega
  have hka3 : ka ≤ 600 := by omega
  have hp := partsN_pos (show xa.length ≤ 2120 by omega)
  obtain ⟨pn, hpn⟩ : ∃ pn, pn = partsN xa.length := ⟨_, rfl⟩
  have hpn1 : 1 ≤ pn := by omega
  have hpe : pn = max 1 ((ka + 52) / 53) := by rw [hpn, hla]; unfold partsN; split <;> omega
  obtain ⟨j, hj⟩ : ∃ j, j = g % pn := ⟨_, rfl⟩
  have hjl : j < pn := by rw [hj]; exact Nat.mod_lt _ (by omega)
  obtain ⟨T1, T2, T3, T4, s, s', hs1, hu1, hs2, hu2, hw3, hu3, hw4, hu4, hl3, hl4⟩ := torn_plain (x := xa) (by omega) hA1.2 (j := j) (by omega)
  have HS1 := Lib.hid hs1
  have HU1 := Lib.hid hu1
  have HS2 := Lib.hid hs2
  have HU2 := Lib.hid hu2
  have HW3 := Lib.hid hw3
  have HU3 := Lib.hid hu3
  have HW4 := Lib.hid hw4
  have HU4 := Lib.hid hu4
  have HL3 := Lib.hid hl3
  have HL4 := Lib.hid hl4
  have HA := Lib.hid hA1
  have HLA := Lib.hid hla
  have hmx : max 1 (((ka : Int) + 52) / 53) = (pn : Int) := by omega
  have hrm : (g : Int) % (pn : Int) = (j : Int) := by omega
  clear hs1 hu1 hs2 hu2 hw3 hu3 hw4 hu4 hl3 hl4 hA hA1 hka hla hp hpn hpe hj
  generalize la.length = na at *
  have HU0 := Lib.hid (quiet2.useN (by decide) 100 (by decide))
  go_enter Tryd.func5, Tryd.ntmps5
  go_wp2_with fail
  refine Calls.mono (law_shown10 _) ?_
  rintro e w1 ⟨rfl, hk1⟩
  have HK1 := Lib.hid hk1
  clear hk1
  go_wp2_with fail
  refine Calls.mono (bank10 2 (by decide) w w1 (fun k => k ∈ ([] : List Nat)) HK1.out (fun k h => by cases h)) ?_
  rintro e w2 ⟨q, rfl, hb2, _⟩
  have HB2 := Lib.hid hb2
  clear hb2 HK1
  go_wp2_with (refine stop_at (o := ⟨some 28, _, _, _, _, _⟩) ?_)
  refine Stop.mk ?_
  try simp only [hma]
  refine wpList_slice_to rfl _ _ rfl ax na ca rfl ka rfl hca ?_
  go_wp2_with (refine stop_at (o := ⟨some 29, _, _, _, _, _⟩) ?_)
  refine Stop.mk ?_
  refine wpList_lit_ints rfl 2 (by decide) _ rfl [0, 1] (by kernel_rfl) ?_
  intro w5 hz5 hs5 hk5
  have HC5 := Lib.hid (by simpa using Cells.of_block hz5.out : Cells w5 w2.heap.size 0 (ints [0, 1]))
  have HB5 := Lib.hid (HB2.out.pushR hk5 w2.heap.size (Nat.le_refl _) hs5)
  generalize w2.heap.size = B at *
  clear hz5 hs5 hk5 HB2 hma hca
  go_wp2_with (refine stop_at (o := ⟨some 32, _, _, _, _, _⟩) ?_)
  refine Stop.mk ?_
  refine wpList_str_bytes rfl rfl 3 (by decide) _ rfl _ rfl oldB (by kernel_rfl) rfl ?_
  intro w6 hz6 hs6 hk6
  have HX6 := hz6
  have HB6 := Lib.hid (HB5.out.kept hk6).1
  have HC6 := Lib.hid (HC5.out.kept hk6)
  generalize w5.heap.size = B3 at *
  clear hz6 hs6 hk6 HB5 HC5
  have hc := check_Save HB6.out B 2 [0, 1] (by simp) HC6.out (by decide) 0 (by decide) 4 (by decide) (.slice (some ⟨B3, 0, none⟩) 3 3) oldB (Src.of_cells (n := 3) (c := 3) HX6.out rfl (by decide)) (by decide) oldB_byte (HU0.out.less (by decide))
  rw [HS1.out] at hc
  have HCA := Lib.hid hc
  clear hc
  go_wp2_with fail
  refine Calls.mono HCA.out ?_
  rintro e w7 ⟨rfl, hb7, hs7⟩
  have HB7 : Hid (BK w (fun k => k ∈ [B]) w7 q T1) := Lib.hid hb7
  have HC7 := Lib.hid (hs7.cells (B := B) (by simp) HC6.out)
  clear hb7 hs7 HCA HB6 HC6 HX6
  have hc := check_Save HB7.out B 2 [0, 1] (by simp) HC7.out (by decide) 1 (by decide) 5 (by decide) (.slice ax ka ca) xa (HA.out.1.kept HB7.out.keeps) (by rw [HLA.out]; omega) HA.out.2 (HU1.out.less (by show 2 * partsN xa.length ≤ 100; have := parts_le (show xa.length ≤ 1696 by rw [HLA.out]; omega); omega))
  rw [HS2.out] at hc
  have HCA := Lib.hid hc
  clear hc
  go_wp2_with fail
  refine Calls.mono HCA.out ?_
  rintro e w8 ⟨rfl, hb8, hs8⟩
  have HB8 : Hid (BK w (fun k => k ∈ [B]) w8 q T2) := Lib.hid hb8
  have HC8 := Lib.hid (hs8.cells (B := B) (by simp) HC7.out)
  clear hb8 hs8 HCA HB7 HC7
  go_wp2_with (refine stop_at (o := ⟨some 49, _, _, _, _, _⟩) ?_)
  refine Stop.mk ?_
  try simp only [hg, hrm]
  go_wp2_with (refine stop_at (o := ⟨some 13, _, _, _, _, _⟩) ?_)
  refine Stop.mk ?_
  refine wpList_new_row rfl rfl _ _ rfl rfl ty_plc [.int .i64 0, .int .i64 0] zero_plc rfl [.int .i64 0, .int .i64 (82 + (j : Int))] rfl rfl (one_plc _ _) rfl ?_
  intro w9 hz9 hs9 hk9
  have HP9 := hz9
  have HB9 := Lib.hid (HB8.out.pushR hk9 w8.heap.size (Nat.le_refl _) hs9)
  have HGX := Lib.hid HB8.out.keeps.size
  have HNE := Lib.hid (HB8.out.ltR (B := B) (by simp))
  have HC9 := Lib.hid (HC8.out.kept hk9)
  generalize w8.heap.size = X at *
  clear hz9 hs9 hk9 HB8 HC8 hg hrm hmx
  go_wp2_with (refine stop_at (o := ⟨some 51, _, _, _, _, _⟩) ?_)
  refine Stop.mk ?_
  refine wpList_load_agg rfl _ rfl ty_plc X 0 rfl [.int .i64 0, .int .i64 (82 + (j : Int))] (by simpa using Cells.of_block HP9.out) rfl ?_
  refine wpList_no_sec rfl rfl ?_
  have hc := bk_Write HB9.out HU2.out 0 (82 + (j : Int)) (s := zeroB) rfl
  rw [HW3.out] at hc
  have HCA := Lib.hid hc
  clear hc
  go_wp2_with fail
  refine Calls.mono HCA.out ?_
  rintro e w10 ⟨rfl, hb10, hs10⟩
  have HB10 : Hid (BK w (fun k => k ∈ [X, B]) w10 q T3) := Lib.hid hb10
  have HC10 := Lib.hid (hs10.cells (B := B) (by simp) HC9.out)
  have HP10 : Hid (w10.heap[X]? = some (.cells [Value.int .i64 0, .int .i64 (82 + (j : Int))].toArray 36 (0, 0))) := Lib.hid ((hs10 X (by simp)).trans HP9.out)
  clear hb10 hs10 HCA HB9 HC9 HP9
  cases a2
  · skip
    have hc := check_Load HB10.out HU3.out B 2 [0, 1] HC10.out (by decide)
    rw [HL3.out] at hc
    have HCA := Lib.hid hc
    clear hc
    go_wp2_with fail
    refine Calls.mono HCA.out ?_
    rintro e w18 ⟨bv, rfl, hown, hk18⟩
    have HB18 := Lib.hid (HB10.out.kept hk18).1
    clear hk18 HCA HC10 HB10
    go_wp2_with (refine stop_at (o := ⟨some 14, _, _, _, _, _⟩) ?_)
    refine Stop.mk ?_
    refine wpList_new_row rfl rfl _ _ rfl rfl ty_found zeroF zero_found rfl (bestVals ⟨1, 5, xa, s, true⟩ bv) rfl rfl (best_one hown) rfl ?_
    intro w19 hz19 hs19 hk19
    have HK19 := Lib.hid (HB18.out.kept hk19).1.keeps
    have HO19 := Lib.hid (own_src (ownsRow_kept hown hk19))
    have f1 : w19.cell? ⟨w18.heap.size, 1, none⟩ = some (.int .i64 5) := cell_of_row _ _ 1 _ _ _ hz19.out
    have f2 : w19.cell? ⟨w18.heap.size, 2, none⟩ = some bv := cell_of_row _ _ 2 _ _ _ hz19.out
    generalize w18.heap.size = B5 at *
    clear hz19 hs19 hk19 HB18 hown
    go_wp2_with (refine stop_at (o := ⟨some 92, _, _, _, _, _⟩) ?_)
    refine Stop.mk ?_
    refine wpList_conv_str rfl _ rfl bv rfl xa HO19.out HA.out.2 ?_
    have HSX := Lib.hid (HA.out.1.kept HK19.out)
    go_wp2_with (refine stop_at (o := ⟨some 94, _, _, _, _, _⟩) ?_)
    refine Stop.mk ?_
    refine wpList_conv_str rfl _ rfl (.slice ax ka ca) rfl xa (by have := HSX.out; rw [HLA.out]; rw [HLA.out] at this; exact this) HA.out.2 ?_
    go_wp2
    go_ret
    exact ⟨rfl, HK19.out⟩
  · go_wp2_with (refine stop_at (o := ⟨none, .store _ _ _, _, _, _, _⟩) ?_)
    refine Stop.mk ?_
    refine wpList_set_cell rfl _ _ rfl size_int X 0 rfl (.int .i64 1) rfl rfl rfl [.int .i64 0, .int .i64 (82 + (j : Int))] _ HP10.out (by simp) ?_
    intro w11 hw11
    have HP11 := Lib.hid (by simpa using hw11.blk : w11.heap[X]? = some (.cells [Value.int .i64 1, Value.int .i64 (82 + (j : Int))].toArray 36 (0, 0)))
    have HB11 := Lib.hid (HB10.out.wrote hw11 (by simp) HGX.out)
    have HC11 : Hid (Cells w11 B 0 (ints [0, 1])) := Lib.hid (fun k hk => (World.cell?_of_block (a := ⟨B, 0 + k, none⟩) (hw11.oth B (Nat.ne_of_lt HNE.out))).trans (HC10.out k hk))
    clear hw11 HB10 HC10 HP10
    go_wp2_with (refine stop_at (o := ⟨some 57, _, _, _, _, _⟩) ?_)
    refine Stop.mk ?_
    refine wpList_load_agg rfl _ rfl ty_plc X 0 rfl [.int .i64 1, .int .i64 (82 + (j : Int))] (by simpa using Cells.of_block HP11.out) rfl ?_
    refine wpList_no_sec rfl rfl ?_
    have hc := bk_Write HB11.out HU3.out 1 (82 + (j : Int)) (s := zeroB) rfl
    rw [HW4.out] at hc
    have HCA := Lib.hid hc
    clear hc
    go_wp2_with fail
    refine Calls.mono HCA.out ?_
    rintro e w12 ⟨rfl, hb12, hs12⟩
    have HB12 : Hid (BK w (fun k => k ∈ [X, B]) w12 q T4) := Lib.hid hb12
    have HC12 := Lib.hid (hs12.cells (B := B) (by simp) HC11.out)
    clear hb12 hs12 HCA HB11 HC11 HP11
    have hc := check_Load HB12.out HU4.out B 2 [0, 1] HC12.out (by decide)
    rw [HL4.out] at hc
    have HCA := Lib.hid hc
    clear hc
    go_wp2_with fail
    refine Calls.mono HCA.out ?_
    rintro e w18 ⟨bv, rfl, hown, hk18⟩
    have HB18 := Lib.hid (HB12.out.kept hk18).1
    clear hk18 HCA HC12 HB12
    go_wp2_with (refine stop_at (o := ⟨some 14, _, _, _, _, _⟩) ?_)
    refine Stop.mk ?_
    refine wpList_new_row rfl rfl _ _ rfl rfl ty_found zeroF zero_found rfl (bestVals ⟨0, 4, oldB, s', true⟩ bv) rfl rfl (best_one hown) rfl ?_
    intro w19 hz19 hs19 hk19
    have HK19 := Lib.hid (HB18.out.kept hk19).1.keeps
    have HO19 := Lib.hid (own_src (ownsRow_kept hown hk19))
    have f1 : w19.cell? ⟨w18.heap.size, 1, none⟩ = some (.int .i64 4) := cell_of_row _ _ 1 _ _ _ hz19.out
    have f2 : w19.cell? ⟨w18.heap.size, 2, none⟩ = some bv := cell_of_row _ _ 2 _ _ _ hz19.out
    generalize w18.heap.size = B5 at *
    clear hz19 hs19 hk19 HB18 hown
    go_wp2_with (refine stop_at (o := ⟨some 83, _, _, _, _, _⟩) ?_)
    refine Stop.mk ?_
    refine wpList_conv_str rfl _ rfl bv rfl oldB HO19.out oldB_byte ?_
    have hstr : (strB oldB).toList = [111, 108, 100] := by rw [strB_toList]; decide
    go_wp2
    go_ret
    exact ⟨rfl, HK19.out⟩
end
end Go.Proofs.YtpeclkhppgabfaaDoor
