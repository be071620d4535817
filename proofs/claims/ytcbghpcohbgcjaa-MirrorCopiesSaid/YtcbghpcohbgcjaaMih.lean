/- mirror.Home, and the document's. -/
import Derived.Test.YtcbghpcohbgcjaaMid
import Derived.Test.YtcbghpcohbgcjaaDlh
import Derived.Test.YtcbghpcohbgcjaaDlw
namespace Go.Proofs.Ytcbghpcohbgcjaa
open Go.RowKit
set_option linter.unusedVariables false
set_option linter.unusedSimpArgs false

theorem results_plc {fn : Func} {p q : Tmp} (h : fn.results = #[.cell p 31, .tmp q]) (tmps : Array Value) (w : World) (b : Nat) (x y : Int)
    (hp : tmps.getD p undef = .pointer (some ⟨b, 0, none⟩)) (hc : Cells w b 0 [.int .i64 x, .int .i64 y]) :
    (results fn tmps).run Try.prog w = .ok (.tuple #[.agg #[.int .i64 x, .int .i64 y], tmps.getD q undef]) w := by
  obtain ⟨⟨d, hd1, hd2⟩, hs⟩ := ty_plc
  have hp' : tmps[p]?.getD undef = .pointer (some ⟨b, 0, none⟩) := by simpa using hp
  have hr := run_loadVar_mid (P := Try.prog) w b 0 31 [.int .i64 x, .int .i64 y] d (rangeAt_of_cells hc) hd1 hd2 (by rw [hs]; rfl)
  simp [results, h, hp', asAddr, hr]
def homeX (d s : Int) : Int := if s < 0 ∨ 8 ≤ s then 0 else d
def homeY (a s : Int) : Int := if s < 0 ∨ 8 ≤ s then 0 else a + s
def homeB (s : Int) : Bool := if s < 0 ∨ 8 ≤ s then false else true
section
variable {w : World}
set_option maxHeartbeats 1000000
set_option maxRecDepth 100000
theorem one_plc (x y : Int) : ∀ u ∈ [Value.int .i64 x, .int .i64 y], u.oneCell' = true := by intro u hu; simp at hu; rcases hu with rfl | rfl <;> rfl
theorem m_Home (d a s : Int) (h0 : 0 ≤ a) (h1 : a ≤ 1048575) (w : World) : Calls Try.prog 29 #[.agg #[.int .i64 d, .int .i64 a], .int .i64 s] w fun e w' => e = .returned (.tuple #[.agg #[.int .i64 (homeX d s), .int .i64 (homeY a s)], .bool (homeB s)]) ∧ Kept w w' := by
  go_enter Try.func29, Try.ntmps29
  go_wp2_with (refine stop_at (o := ⟨some 2, _, _, _, _, _⟩) ?_)
  refine Stop.mk ?_
  refine wpList_box_row rfl _ _ rfl [.int .i64 d, .int .i64 a] rfl ?_
  intro w1 hz1 hs1 hk1
  have p0 : w1.cell? ⟨w.heap.size, 0, none⟩ = some (.int .i64 d) := cell_of_row _ _ 0 _ _ _ hz1.out
  have p1 : w1.cell? ⟨w.heap.size, 1, none⟩ = some (.int .i64 a) := cell_of_row _ _ 1 _ _ _ hz1.out
  clear hz1
  go_wp2_with (refine stop_at (o := ⟨some 4, _, _, _, _, _⟩) ?_)
  refine Stop.mk ?_
  refine wpList_alloc_abs rfl 31 rfl [.int .i64 0, .int .i64 0] zero_plc ?_
  intro w2 hz2 hs2 hn2 hk2
  have HZ := hz2
  have HK := Lib.hid (hk1.trans hk2)
  have hle : w.heap.size ≤ w1.heap.size := hk1.size
  replace p0 := hk2.cell' p0
  replace p1 := hk2.cell' p1
  generalize w1.heap.size = Z at *
  generalize hX : w.heap.size = X at *
  clear hz2 hs2 hn2 hk1 hk2 hs1
  by_cases hs : s < 0 ∨ 8 ≤ s
  · have e1 : homeX d s = 0 := by unfold homeX; rw [if_pos hs]
    have e2 : homeY a s = 0 := by unfold homeY; rw [if_pos hs]
    have e3 : homeB s = false := by unfold homeB; rw [if_pos hs]
    have E1 := Lib.hid e1; have E2 := Lib.hid e2; have E3 := Lib.hid e3; clear e1 e2 e3
    rcases hs with hs | hs
    all_goals
      go_wp2_with (refine stop_at (o := ⟨none, .store _ _ _, _, _, _, _⟩) ?_)
      refine Stop.mk ?_
      refine wpList_store_agg rfl _ _ rfl ty_plc Z 0 rfl [.int .i64 0, .int .i64 0] rfl rfl (one_plc 0 0) _ _ HZ.out (by simp) ?_
      intro w3 hw3
      replace hw3 := hw3.all rfl
      have hkw := Lib.hid (hw3.kept HK.out (by omega))
      have hw3' := Lib.hid hw3; clear hw3
      go_wp2
      refine bodyPost_ret (results_plc rfl _ _ Z 0 0 rfl hw3'.out.cells) rfl ⟨by rw [E1.out, E2.out, E3.out]; rfl, hkw.out⟩
  · have e1 : homeX d s = d := by unfold homeX; rw [if_neg hs]
    have e2 : homeY a s = a + s := by unfold homeY; rw [if_neg hs]
    have e3 : homeB s = true := by unfold homeB; rw [if_neg hs]
    have E1 := Lib.hid e1; have E2 := Lib.hid e2; have E3 := Lib.hid e3; clear e1 e2 e3
    have hs1 : 0 ≤ s := by omega
    have hs2 : s < 8 := by omega
    clear hs
    go_wp2_with (refine stop_at (o := ⟨none, .store _ _ _, _, _, _, _⟩) ?_)
    refine Stop.mk ?_
    refine wpList_store_agg rfl _ _ rfl ty_plc Z 0 rfl [.int .i64 d, .int .i64 (a + s)] rfl rfl (one_plc _ _) _ _ HZ.out (by simp) ?_
    intro w3 hw3
    replace hw3 := hw3.all rfl
    have hkw := Lib.hid (hw3.kept HK.out (by omega))
    have hw3' := Lib.hid hw3; clear hw3
    go_wp2
    refine bodyPost_ret (results_plc rfl _ _ Z d (a + s) rfl hw3'.out.cells) rfl ⟨by rw [E1.out, E2.out, E3.out]; rfl, hkw.out⟩
theorem ref_Home (d a s : Int) (h0 : 0 ≤ a) (h1 : a ≤ 1048575) (w : World) : Calls Try.prog 30 #[.agg #[.int .i64 d, .int .i64 a], .int .i64 s] w fun e w' => e = .returned (.tuple #[.agg #[.int .i64 (homeX d s), .int .i64 (homeY a s)], .bool (homeB s)]) ∧ Kept w w' := by
  go_enter Try.func30, Try.ntmps30
  go_wp2_with (refine stop_at (o := ⟨some 2, _, _, _, _, _⟩) ?_)
  refine Stop.mk ?_
  refine wpList_box_row rfl _ _ rfl [.int .i64 d, .int .i64 a] rfl ?_
  intro w1 hz1 hs1 hk1
  have p0 : w1.cell? ⟨w.heap.size, 0, none⟩ = some (.int .i64 d) := cell_of_row _ _ 0 _ _ _ hz1.out
  have p1 : w1.cell? ⟨w.heap.size, 1, none⟩ = some (.int .i64 a) := cell_of_row _ _ 1 _ _ _ hz1.out
  clear hz1
  go_wp2_with (refine stop_at (o := ⟨some 4, _, _, _, _, _⟩) ?_)
  refine Stop.mk ?_
  refine wpList_alloc_abs rfl 31 rfl [.int .i64 0, .int .i64 0] zero_plc ?_
  intro w2 hz2 hs2 hn2 hk2
  have HZ := hz2
  have HK := Lib.hid (hk1.trans hk2)
  have hle : w.heap.size ≤ w1.heap.size := hk1.size
  replace p0 := hk2.cell' p0
  replace p1 := hk2.cell' p1
  generalize w1.heap.size = Z at *
  generalize hX : w.heap.size = X at *
  clear hz2 hs2 hn2 hk1 hk2 hs1
  go_wp2
  go_loop [6] (fun i => ∃ k : Nat, k ≤ 8 ∧ i = .int .i64 k ∧ ∀ j : Nat, j < k → s ≠ (j : Int)) (fun i => 8 - (intOf i).toNat)
  case atStart => exact ⟨0, Nat.zero_le _, rfl, fun _ h => by omega⟩
  case round =>
    obtain ⟨k, hk, rfl, hno⟩ := hrel
    have HN := Lib.hid hno; clear hno
    by_cases hlt : k < 8
    · by_cases e : s = (k : Int)
      · subst e
        have hs : ¬ ((k : Int) < 0 ∨ 8 ≤ (k : Int)) := by omega
        have e1 : homeX d k = d := by unfold homeX; rw [if_neg hs]
        have e2 : homeY a k = a + k := by unfold homeY; rw [if_neg hs]
        have e3 : homeB k = true := by unfold homeB; rw [if_neg hs]
        have E1 := Lib.hid e1; have E2 := Lib.hid e2; have E3 := Lib.hid e3; clear e1 e2 e3
        clear hs
        go_wp2_with (refine stop_at (o := ⟨none, .store _ _ _, _, _, _, _⟩) ?_)
        refine Stop.mk ?_
        refine wpList_store_agg rfl _ _ rfl ty_plc Z 0 rfl [.int .i64 d, .int .i64 (a + k)] rfl rfl (one_plc _ _) _ _ HZ.out (by simp) ?_
        intro w3 hw3
        replace hw3 := hw3.all rfl
        have hkw := Lib.hid (hw3.kept HK.out (by omega))
        have hw3' := Lib.hid hw3; clear hw3
        go_wp2
        refine bodyPost_ret (results_plc rfl _ _ Z d (a + k) rfl hw3'.out.cells) rfl ⟨by rw [E1.out, E2.out, E3.out]; rfl, hkw.out⟩
      · have hne : ((k : Int) == s) = false := by simp; omega
        go_wp2
        go_round
        case rel => exact ⟨k + 1, hlt, by go_num, fun j hj => by
          by_cases ej : j = k
          · rw [ej]; exact e
          · exact HN.out j (by omega)⟩
        case measure => simp [intOf]; omega
    · have hk8 : k = 8 := by omega
      subst hk8
      have hs : s < 0 ∨ 8 ≤ s := by
        by_cases h : s < 0
        · exact .inl h
        · by_cases h8 : 8 ≤ s
          · exact .inr h8
          · exact absurd (show s = (s.toNat : Int) by omega) (HN.out s.toNat (by omega))
      have e1 : homeX d s = 0 := by unfold homeX; rw [if_pos hs]
      have e2 : homeY a s = 0 := by unfold homeY; rw [if_pos hs]
      have e3 : homeB s = false := by unfold homeB; rw [if_pos hs]
      have E1 := Lib.hid e1; have E2 := Lib.hid e2; have E3 := Lib.hid e3; clear e1 e2 e3
      clear hs
      go_wp2_with (refine stop_at (o := ⟨none, .store _ _ _, _, _, _, _⟩) ?_)
      refine Stop.mk ?_
      refine wpList_store_agg rfl _ _ rfl ty_plc Z 0 rfl [.int .i64 0, .int .i64 0] rfl rfl (one_plc 0 0) _ _ HZ.out (by simp) ?_
      intro w3 hw3
      replace hw3 := hw3.all rfl
      have hkw := Lib.hid (hw3.kept HK.out (by omega))
      have hw3' := Lib.hid hw3; clear hw3
      go_wp2
      refine bodyPost_ret (results_plc rfl _ _ Z 0 0 rfl hw3'.out.cells) rfl ⟨by rw [E1.out, E2.out, E3.out]; rfl, hkw.out⟩
end
end Go.Proofs.Ytcbghpcohbgcjaa
