/- MirrorHomes: the walk. -/
import Derived.Test.YtcbghpcohbgcjaaMik
namespace Go.Proofs.Ytcbghpcohbgcjaa
open Go.RowKit
set_option linter.unusedVariables false
set_option linter.unusedSimpArgs false

theorem ty_ext : AggT Try.prog 45 2 := ⟨⟨_, Try.underlying45, rfl⟩, by kernel_rfl⟩
section
variable {ops : Array Oper} {rest : List Oper} {o : Oper} {a : Act} {w : World} {Q : Exit → Act → World → Prop}
/-- two places compared -/
theorem wpList_eq_plc (hgd : Region.wanted o (yielded ops a.tmps) = true) (x y : Operand) {t' : TypeId} (ho : o.op = .binOp .eql 31 x y t') (p q r s : Int) (hx : a.eval x = .agg #[.int .i64 p, .int .i64 q]) (hy : a.eval y = .agg #[.int .i64 r, .int .i64 s])
    (h : wpList Try.prog ops Q rest (a.put o.dst (.bool (p == r && q == s))) w) : wpList Try.prog ops Q (o :: rest) a w := by
  refine BigFrame.wpList_want hgd fun K hK => ?_
  unfold Oper.wp
  rw [exec_eq_plc x y ho p q r s hx hy]
  exact hK _ _ h
end
section
variable {w : World}
set_option maxHeartbeats 1000000
set_option maxRecDepth 100000
theorem law_homes (d a0 s : Int) (w : World) : Calls Try.prog 5 #[.agg #[.int .i64 d, .int .i64 a0], .int .i64 s] w fun e w' => e = .returned (.bool true) ∧ Kept w w' := by
  obtain ⟨y, hy, hyl⟩ := and_low a0 20 (by decide) (m := 1048575) (by decide)
  have hyl' : y < 1048576 := hyl
  have HH1 := Lib.hid fun W => m_Home d (y : Int) s (by omega) (by omega) W
  have HH2 := Lib.hid fun W => ref_Home d (y : Int) s (by omega) (by omega) W
  clear hyl hyl'
  generalize homeX d s = u at *
  generalize homeY (y : Int) s = v at *
  generalize homeB s = b at *
  go_enter Try.func5, Try.ntmps5
  go_wp2_with (refine stop_at (o := ⟨some 2, _, _, _, _, _⟩) ?_)
  refine Stop.mk ?_
  refine wpList_box_row rfl _ _ rfl [.int .i64 d, .int .i64 a0] rfl ?_
  intro w1 hz1 hs1 hk1
  have HX1 := hz1
  have HK1 := Lib.hid hk1
  have hle : w.heap.size ≤ w.heap.size := Nat.le_refl _
  generalize hX : w.heap.size = X at *
  clear hz1 hs1 hk1 hle
  go_wp2_with fail
  refine Calls.mono (m_shown _) ?_
  rintro e w2 ⟨rfl, hk⟩
  have HX2 := Lib.hid (hk.block HX1.out)
  have HK2 := Lib.hid (HK1.out.trans hk)
  have p1 : w2.cell? ⟨X, 1, none⟩ = some (.int .i64 a0) := cell_of_row _ _ 1 _ _ _ HX2.out
  clear hk HX1 HK1
  go_wp2_with (refine stop_at (o := ⟨none, .store _ _ _, _, _, _, _⟩) ?_)
  refine Stop.mk ?_
  refine wpList_set_cell rfl _ _ rfl size_int X 1 rfl (.int .i64 (y : Int)) (by first | rfl | (simp only [hy]; rfl) | simp [hy]) rfl rfl _ _ HX2.out (by simp) ?_
  intro w3 hw3
  have HK3 := Lib.hid (hw3.kept HK2.out (by omega))
  have HX3 := Lib.hid (show w3.heap[X]? = some (.cells [Value.int .i64 d, .int .i64 (y : Int)].toArray 45 (0, 0)) from hw3.blk)
  clear hw3 HX2 HK2 p1 hy
  have p0 : w3.cell? ⟨X, 0, none⟩ = some (.int .i64 d) := cell_of_row _ _ 0 _ _ _ HX3.out
  have p1 : w3.cell? ⟨X, 1, none⟩ = some (.int .i64 (y : Int)) := cell_of_row _ _ 1 _ _ _ HX3.out
  go_wp2_with fail
  refine Calls.mono (HH1.out _) ?_
  rintro e w4 ⟨rfl, hk⟩
  have HX4 := Lib.hid (hk.block HX3.out)
  have HK4 := Lib.hid (HK3.out.trans hk)
  clear hk HX3 HK3 p0 p1
  go_wp2_with (refine stop_at (o := ⟨some 6, _, _, _, _, _⟩) ?_)
  refine Stop.mk ?_
  refine wpList_new_row rfl rfl _ _ rfl rfl ty_plc _ zero_plc rfl [.int .i64 u, .int .i64 v] rfl rfl (one_plc _ _) rfl ?_
  intro w5 hz hs hk
  have HX5 := Lib.hid (hk.block HX4.out)
  have HK5 := Lib.hid (HK4.out.trans hk)
  have HP5 := hz
  generalize w4.heap.size = P at *
  clear hz hs hk HX4 HK4
  have p0 : w5.cell? ⟨X, 0, none⟩ = some (.int .i64 d) := cell_of_row _ _ 0 _ _ _ HX5.out
  have p1 : w5.cell? ⟨X, 1, none⟩ = some (.int .i64 (y : Int)) := cell_of_row _ _ 1 _ _ _ HX5.out
  go_wp2_with fail
  refine Calls.mono (HH2.out _) ?_
  rintro e w6 ⟨rfl, hk⟩
  have HP6 := Lib.hid (hk.block HP5.out)
  have HK6 := Lib.hid (HK5.out.trans hk)
  clear hk HX5 HK5 HP5 p0 p1
  go_wp2_with (refine stop_at (o := ⟨some 8, _, _, _, _, _⟩) ?_)
  refine Stop.mk ?_
  refine wpList_new_row rfl rfl _ _ rfl rfl ty_plc _ zero_plc rfl [.int .i64 u, .int .i64 v] rfl rfl (one_plc _ _) rfl ?_
  intro w7 hz hs hk
  have HP7 := Lib.hid (hk.block HP6.out)
  have HK7 := Lib.hid (HK6.out.trans hk)
  have HQ7 := hz
  generalize w6.heap.size = Pq at *
  clear hz hs hk HP6 HK6
  go_wp2_with (refine stop_at (o := ⟨some 29, _, _, _, _, _⟩) ?_)
  refine Stop.mk ?_
  refine wpList_load_aggW _ rfl ty_plc P 0 rfl [.int .i64 u, .int .i64 v] (by simpa using Cells.of_block HP7.out) rfl rfl ?_
  go_wp2_with (refine stop_at (o := ⟨some 30, _, _, _, _, _⟩) ?_)
  refine Stop.mk ?_
  refine wpList_load_aggW _ rfl ty_plc Pq 0 rfl [.int .i64 u, .int .i64 v] (by simpa using Cells.of_block HQ7.out) rfl rfl ?_
  go_wp2_with (refine stop_at (o := ⟨some 31, _, _, _, _, _⟩) ?_)
  refine Stop.mk ?_
  refine wpList_eq_plc rfl _ _ rfl u v u v rfl rfl ?_
  rw [show (u == u && v == v) = true by simp]
  rcases b with _ | _
  all_goals
    go_wp2
    go_ret
    exact ⟨rfl, HK7.out⟩
end
end Go.Proofs.Ytcbghpcohbgcjaa
