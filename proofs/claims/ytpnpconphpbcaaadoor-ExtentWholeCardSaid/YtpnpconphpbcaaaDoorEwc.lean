/- ExtentWhole: the walk. -/
import Derived.Test.YtpnpconphpbcaaaDoorEwb
import Derived.Test.YtpnpconphpbcaaaDoorText
namespace Go.Proofs.YtpnpconphpbcaaaDoor
open Go.RowKit Go.ChangeMaps Go.MapKept
set_option linter.unusedVariables false
set_option linter.unusedSimpArgs false

theorem size400 (a : Int) : ∃ (y z n : Nat), bits .and .i64 a 65535 = (y : Int) ∧ y < 65536 ∧ (y : Int) % 400 = (z : Int) ∧ (y : Int).tmod 400 = (z : Int) ∧ z < 400 ∧ cntX z = (n : Int) ∧ n ≤ 50 := by
  obtain ⟨y, hand, hy⟩ := and_i64 a 16 (by decide) (m := 65535) (by decide)
  have hz : y % 400 < 400 := Nat.mod_lt _ (by decide)
  refine ⟨y, y % 400, (cntX ((y % 400 : Nat) : Int)).toNat, hand, by omega, by omega, ?_, hz, ?_, ?_⟩
  · rw [Int.tmod_eq_emod_of_nonneg (by omega)]; omega
  · unfold cntX; split <;> omega
  · unfold cntX; split <;> omega
set_option maxHeartbeats 4000000
set_option maxRecDepth 100000
theorem whole_walk (a b : Int) (v : Value) (l : List Int) (w : World) (hs : ISl w v l) (hT : DbAt w) : Calls Tryd.prog 5 #[.int .i64 a, .int .i64 b, v] w fun e w' => e = .returned (.bool true) ∧ Kept w w' := by
  obtain ⟨y0, z0, n0, hand0, hy0, hm0, ht0, hz0, hn0, hb0⟩ := size400 a
  obtain ⟨y1, z1, n1, hand1, hy1, hm1, ht1, hz1, hn1, hb1⟩ := size400 b
  have HT := Lib.hid hT; clear hT
  have HN0 := Lib.hid hn0; have HN1 := Lib.hid hn1
  clear hn0 hn1
  obtain ⟨oa, cap, rfl, hcap, hmx, _⟩ := id hs
  have HS := Lib.hid hs; clear hs
  have hll : l.length ≤ 9223372036854775807 := by simp only [maxLen] at hmx; omega
  clear hcap hmx
  go_enter Tryd.func5, Tryd.ntmps5
  go_wp2_with fail
  refine Calls.mono (law_shown w HT.out) ?_
  rintro e w1 ⟨rfl, hk1⟩
  have HK1 := Lib.hid hk1; clear hk1
  go_wp2_with fail
  obtain ⟨wz, hwz⟩ : ∃ wz, wz = w1.alloc (Obj.cells #[Value.int IntKind.i64 ↑z0, Value.int IntKind.i64 ↑z1] 3) := ⟨_, rfl⟩
  have hkz : Kept w wz := by rw [hwz]; exact HK1.out.alloc _
  have hbz : wz.heap[w1.heap.size]? = some (Obj.cells #[Value.int IntKind.i64 ↑z0, Value.int IntKind.i64 ↑z1] 3 (0, 0)) := by rw [hwz]; exact heap_alloc_new _ _
  rw [← hwz]
  clear hwz HK1
  have HKZ := Lib.hid hkz
  have HTZ := Lib.hid (HT.out.kept hkz)
  clear hkz HT
  generalize w1.heap.size = Bz at *
  obtain ⟨n, hn⟩ : ∃ n : Nat → Nat, n = fun d => if d = 0 then n0 else n1 := ⟨_, rfl⟩
  obtain ⟨z, hz⟩ : ∃ z : Nat → Nat, z = fun d => if d = 0 then z0 else z1 := ⟨_, rfl⟩
  have HNB : Hid (∀ e, n e ≤ 50) := Lib.hid fun e => by rw [hn]; dsimp only; split <;> omega
  have HC : Hid (∀ d, d < 2 → ∀ W, Calls Tryd.prog 8 #[.int .i64 (z d : Int)] W fun e w' => e = .returned (.int .i64 (n d : Int)) ∧ W = w') := Lib.hid fun d hd W => by
    have : d = 0 ∨ d = 1 := by omega
    rcases this with rfl | rfl
    · rw [hz, hn]; dsimp only; rw [if_pos rfl, if_pos rfl, ← HN0.out]; exact ext_Count z0 (by omega) (by omega) W
    · rw [hz, hn]; dsimp only; rw [if_neg (by decide), if_neg (by decide), ← HN1.out]; exact ext_Count z1 (by omega) (by omega) W
  have HZ : Hid (∀ d, d < 2 → ∀ W, Kept wz W → W.cell? ⟨Bz, d, none⟩ = some (.int .i64 (z d : Int))) := Lib.hid fun d hd W hk => by
    have : d = 0 ∨ d = 1 := by omega
    rw [cell_of_row _ _ _ _ _ _ (hk.block hbz), hz]
    rcases this with rfl | rfl <;> rfl
  refine Calls.mono (xo_New wz wz (Kept.refl wz)) ?_
  rintro e w2 ⟨q, rfl, X2, _⟩
  have e0 : (z 0 : Int) = z0 := by rw [hz]; rfl
  have e1 : (z 1 : Int) = z1 := by rw [hz]; rfl
  have c0 := HZ.out 0 (by omega) w2 X2.keeps
  have c1 := HZ.out 1 (by omega) w2 X2.keeps
  rw [e0] at c0; rw [e1] at c1
  go_wp2_with fail
  refine Calls.mono (xo_Add X2 0 z0 n0 (by omega) (by omega) HN0.out rfl) ?_
  rintro e w3 ⟨rfl, X3, _⟩
  clear c0 c1
  have c0 := HZ.out 0 (by omega) w3 X3.keeps
  have c1 := HZ.out 1 (by omega) w3 X3.keeps
  rw [e0] at c0; rw [e1] at c1
  go_wp2_with fail
  refine Calls.mono (xo_Add X3 1 z1 n1 (by omega) (by omega) HN1.out rfl) ?_
  rintro e w4 ⟨rfl, X4, _⟩
  have hE : (XT.none_.set 0 n0 (fun _ => false)).set 1 n1 (fun _ => false) = eN n (memF (pre n 0 0)) := by
    funext x
    rw [hn]
    unfold XT.set XT.none_ eN
    by_cases h1 : x = 1
    · subst h1; rfl
    · rw [if_neg h1]
      by_cases h0 : x = 0
      · subst h0; rfl
      · rw [if_neg h0, if_neg h0, if_neg h1]
  rw [hE] at X4
  have HX4 := Lib.hid (X4.less (R' := fun _ => False) (fun _ h => h.elim))
  have HNE := Lib.hid hn; have HZE := Lib.hid hz
  clear X4 X3 X2 c0 c1 e0 e1 hE hn hz hbz
  go_wp2_with fail
  go_loopw [10, 11] (fun v dv wr => ∃ d : Nat, d ≤ 2 ∧ dv = .int .i64 (d : Int) ∧ XO wz (fun _ => False) wr q (eN n (memF (pre n d 0))) ∧ Held wr wz.heap.size v (pre n d 0) ∧ (pre n d 0 = [] → v = .slice none 0 0)) (fun _ dv _ => 2 - (intOf dv).toNat)
  case atStart => exact ⟨0, by omega, rfl, HX4.out, .inl ⟨rfl, _, _, rfl⟩, fun _ => rfl⟩
  case round =>
    obtain ⟨d, hd, rfl, hX, hH, hv0⟩ := hrel
    have HX := Lib.hid hX; have HH := Lib.hid hH; have HV0 := Lib.hid hv0
    clear hX hH hv0 HX4
    by_cases hd2 : d < 2
    · have hnd := HNB.out d
      have hd2i : (d : Int) < 2 := by omega
      go_wp2_with fail
      go_loopw [10, 12] (fun v iv wr => ∃ k : Nat, k ≤ n d ∧ iv = .int .i64 (k : Int) ∧ XO wz (fun _ => False) wr q (eN n (memF (pre n d k))) ∧ Held wr wz.heap.size v (pre n d k) ∧ (pre n d k = [] → v = .slice none 0 0)) (fun _ iv _ => n d - (intOf iv).toNat)
      case atStart => exact ⟨0, by omega, rfl, HX.out, HH.out, HV0.out⟩
      case round =>
        obtain ⟨k, hk, rfl, hX, hH, hv0⟩ := hrel
        clear HX HH HV0
        have hcz := HZ.out d hd2 _ hX.keeps
        have HX := Lib.hid hX; have HH := Lib.hid hH; have HV0 := Lib.hid hv0
        clear hX hH hv0
        go_wp2_with fail
        refine Calls.mono (HC.out d hd2 _) ?_
        rintro e w' ⟨rfl, rfl⟩
        by_cases hlt : k < n d
        · go_wp2_with fail
          have hTK := xo_Take (HX.out.held HH.out) HTZ.out (d : Int)
          refine Calls.mono hTK ?_
          clear hTK
          rintro e w5 ⟨v, E5, rfl, ht, hX5, r5⟩
          obtain ⟨rfl, rfl⟩ := ht.first (eN_at n _ d hd2) hlt (by rw [memF_false, mem_pre]; omega) (fun j h => by rw [memF_true, mem_pre]; omega)
          rw [eN_set n _ d hd2, memF_add, ← pre_next] at hX5
          have hH5 := HH.out.same r5
          clear ht r5 hcz HX HH
          simp only [extV, exV]
          go_wp2_with (refine stop_at (o := ⟨some 13, _, _, _, _, _⟩) ?_)
          refine Stop.mk ?_
          refine wpList_new_agg rfl rfl _ _ rfl rfl ty_ext [Value.int .i64 0, .int .i64 0] zero_ext rfl [Value.int .i64 (d : Int), .int .i64 (114 + (k : Int) * 8)] rfl rfl (by simp [Value.oneCell']) rfl ?_
          intro w6 hz6 hs6 hk6
          have HX6 := Lib.hid (hX5.kept hk6).1
          have HH6 := Lib.hid (hH5.kept hk6)
          have dx0 := cell_of_row _ _ 0 _ _ _ hz6.out
          have dx1 := cell_of_row _ _ 1 _ _ _ hz6.out
          generalize w5.heap.size = bx at *
          clear hz6 hs6 hk6 hX5 hH5
          go_wp2_with (refine stop_at (o := ⟨some 73, _, _, _, _, _⟩) ?_)
          refine Stop.mk ?_
          have hk7 : Kept w6 (w6.alloc (Obj.cells #[Value.int IntKind.i64 ↑d, Value.int IntKind.i64 (114 + (k : Int) * 8)] 35)) := (Kept.refl _).alloc _
          have hb7 := heap_alloc_new w6 (Obj.cells #[Value.int IntKind.i64 ↑d, Value.int IntKind.i64 (114 + (k : Int) * 8)] 35)
          have HX7 := Lib.hid (HX6.out.kept hk7).1
          have HH7 := Lib.hid (HH6.out.kept hk7)
          clear HX6 HH6 dx0 dx1 hk7
          have hpl := pre_length n d k HNB.out
          have hsz7 := HX7.out.keeps.size
          refine wpList_append_app _ rfl _ _ rfl ty_exts wz.heap.size _ (pre n d k).length (exs (pre n d k)) rfl (HH7.out.app HV0.out) _ 1 [Value.int .i64 (d : Int), .int .i64 (114 + (k : Int) * 8)] rfl (Src.of_cells (by simpa using Cells.of_block hb7) rfl (Nat.le_refl _)) (by intro u hu; simp at hu; rcases hu with rfl | rfl <;> rfl) (by simp only [maxLen]; omega) (by omega) hsz7 ?_
          intro v8 w8 _ hg8 _ hown8
          have ho8 := hown8 (.inl (by omega))
          have HX8 := Lib.hid (HX7.out.grown HH7.out (Nat.le_refl _) rfl hg8 (fun he => by rw [HV0.out he] at hg8; exact hg8))
          have HH8 : Hid (Held w8 wz.heap.size v8 (pre n d (k + 1))) := Lib.hid (.inr ⟨by rw [pre_next]; simp, by rw [pre_next, exs_append, List.length_append]; exact ho8⟩)
          clear HX7 HH7 hb7 hg8 hown8 ho8 hsz7 HV0
          go_wp2_with fail
          go_round
          case rel => exact ⟨k + 1, by omega, by go_num, HX8.out, HH8.out, fun h => absurd h (by rw [pre_next]; simp)⟩
          case measure => simp [intOf] <;> omega
        · obtain rfl : k = n d := by omega
          rw [pre_full] at HX HH HV0
          go_wp2_with fail
          have hTK := xo_Take (HX.out.held HH.out) HTZ.out (d : Int)
          refine Calls.mono hTK ?_
          clear hTK
          rintro e w5 ⟨v, E5, rfl, ht, hX5, r5⟩
          have HALL : Hid (∀ j, j < n d → memF (pre n (d + 1) 0) d j = true) := Lib.hid fun j h => by rw [memF_true, mem_pre]; omega
          obtain ⟨rfl, rfl⟩ := ht.full (eN_at n _ d hd2) HALL.out
          have hH5 := HH.out.same r5
          clear ht r5 hcz HX HH
          simp only [extV, exV]
          go_wp2_with (refine stop_at (o := ⟨some 15, _, _, _, _, _⟩) ?_)
          refine Stop.mk ?_
          refine wpList_new_agg rfl rfl _ _ rfl rfl ty_ext [Value.int .i64 0, .int .i64 0] zero_ext rfl [Value.int .i64 0, .int .i64 0] rfl rfl (by simp [Value.oneCell']) rfl ?_
          intro w6 hz6 hs6 hk6
          have HX6 := Lib.hid (hX5.kept hk6).1
          have HH6 := Lib.hid (hH5.kept hk6)
          have HXD := Lib.hid (HX6.out.kept (Kept.refl w6).drew).1
          have hroom := xo_Room HXD.out (d : Int)
          rw [show roomX (eN n (memF (pre n (d + 1) 0))) (d : Int) = 0 from by unfold roomX; rw [eN_at n _ d hd2]; show n d - cntS (n d) _ = 0; rw [cnt_all _ _ HALL.out]; omega] at hroom
          have hused := xo_Used HXD.out (d : Int)
          rw [show usedX (eN n (memF (pre n (d + 1) 0))) (d : Int) = n d from (used_at (eN_at n _ d hd2)).trans (cnt_all _ _ HALL.out)] at hused
          have HROOM := Lib.hid hroom; have HUSED := Lib.hid hused
          have hS := HZ.out d hd2 _ HXD.out.keeps
          clear hroom hused hz6 hs6 hk6 hX5 hH5
          go_upto_region 18 with fail
          refine wp_region_calm ?_
          refine wp_region_E (fun W => W.cell? ⟨Bz, d, none⟩ = some (.int .i64 (z d : Int))) 100 (by kernel_rfl) ?_
          refine wpAnyE_take (i := 0) (v := ?_) (listed' := #[true, false, false, false, false, false, false, false, false, false, false, false, false, false, false, false, false, false, false]) (by rfl) (by kernel_rfl) (by kernel_rfl) calm_put hS (by rfl) ?_ ?_
          rotate_left
          · intro W hW; clear hW; go_simp; try (with_reducible rfl)
          simp only [Act.put, List.getElem_toArray, List.getElem_cons_succ, List.getElem_cons_zero, List.setIfInBounds_toArray, List.set_cons_zero, List.set_cons_succ]
          refine wpAnyE_take (i := 1) (v := ?_) (listed' := #[true, true, false, false, false, false, false, false, false, false, false, false, false, false, false, false, false, false, false]) (by rfl) (by kernel_rfl) (by kernel_rfl) calm_put hS (by rfl) ?_ ?_
          rotate_left
          · intro W hW; clear hW; go_simp; try (with_reducible rfl)
          simp only [Act.put, List.getElem_toArray, List.getElem_cons_succ, List.getElem_cons_zero, List.setIfInBounds_toArray, List.set_cons_zero, List.set_cons_succ]
          refine wpAnyE_take (i := 2) (v := ?_) (listed' := #[true, true, true, false, false, false, false, false, false, false, false, false, false, false, false, false, false, false, false]) (by rfl) (by kernel_rfl) (by kernel_rfl) calm_put hS (by rfl) ?_ ?_
          rotate_left
          · intro W hW; clear hW; go_simp; try (with_reducible rfl)
          simp only [Act.put, List.getElem_toArray, List.getElem_cons_succ, List.getElem_cons_zero, List.setIfInBounds_toArray, List.set_cons_zero, List.set_cons_succ]
          refine wpAnyE_take (i := 3) (v := ?_) (listed' := #[true, true, true, true, false, false, false, false, false, false, false, false, false, false, false, false, false, false, false]) (by rfl) (by kernel_rfl) (by kernel_rfl) calm_put hS (by rfl) ?_ ?_
          rotate_left
          · intro W hW; clear hW; go_simp; try (with_reducible rfl)
          simp only [Act.put, List.getElem_toArray, List.getElem_cons_succ, List.getElem_cons_zero, List.setIfInBounds_toArray, List.set_cons_zero, List.set_cons_succ]
          refine wpAnyE_take (i := 4) (v := ?_) (listed' := #[true, true, true, true, true, false, false, false, false, false, false, false, false, false, false, false, false, false, false]) (by rfl) (by kernel_rfl) (by kernel_rfl) calm_put hS (by rfl) ?_ ?_
          rotate_left
          · intro W hW; clear hW; go_simp; try (with_reducible rfl)
          simp only [Act.put, List.getElem_toArray, List.getElem_cons_succ, List.getElem_cons_zero, List.setIfInBounds_toArray, List.set_cons_zero, List.set_cons_succ]
          refine wpAnyE_one (i := 5) (listed' := #[true, true, true, true, true, true, false, false, false, false, false, false, false, false, false, false, false, false, false]) (by rfl) (by kernel_rfl) (by kernel_rfl) (by rfl) (fun K hK => ?_)
          simp only [Act.put, List.getElem_toArray, List.getElem_cons_succ, List.getElem_cons_zero, List.setIfInBounds_toArray, List.set_cons_zero, List.set_cons_succ]
          go_wp2_with fail
          refine Calls.mono HROOM.out ?_
          rintro e w' ⟨rfl, rfl⟩
          refine hK _ _ (fun _ => hS) ?_; clear hK K
          refine wpAnyE_take (i := 6) (v := ?_) (listed' := #[true, true, true, true, true, true, true, false, false, false, false, false, false, false, false, false, false, false, false]) (by rfl) (by kernel_rfl) (by kernel_rfl) calm_put hS (by rfl) ?_ ?_
          rotate_left
          · intro W hW; clear hW; go_simp; try (with_reducible rfl)
          simp only [Act.put, List.getElem_toArray, List.getElem_cons_succ, List.getElem_cons_zero, List.setIfInBounds_toArray, List.set_cons_zero, List.set_cons_succ]
          refine wpAnyE_take (i := 7) (v := ?_) (listed' := #[true, true, true, true, true, true, true, true, false, false, false, false, false, false, false, false, false, false, false]) (by rfl) (by kernel_rfl) (by kernel_rfl) calm_put hS (by rfl) ?_ ?_
          rotate_left
          · intro W hW; clear hW; go_simp; try (with_reducible rfl)
          simp only [Act.put, List.getElem_toArray, List.getElem_cons_succ, List.getElem_cons_zero, List.setIfInBounds_toArray, List.set_cons_zero, List.set_cons_succ]
          refine wpAnyE_take (i := 8) (v := ?_) (listed' := #[true, true, true, true, true, true, true, true, true, false, false, false, false, false, false, false, false, false, false]) (by rfl) (by kernel_rfl) (by kernel_rfl) calm_put hS (by rfl) ?_ ?_
          rotate_left
          · intro W hW; clear hW; go_simp; try (with_reducible rfl)
          simp only [Act.put, List.getElem_toArray, List.getElem_cons_succ, List.getElem_cons_zero, List.setIfInBounds_toArray, List.set_cons_zero, List.set_cons_succ]
          refine wpAnyE_take (i := 9) (v := ?_) (listed' := #[true, true, true, true, true, true, true, true, true, true, false, false, false, false, false, false, false, false, false]) (by rfl) (by kernel_rfl) (by kernel_rfl) calm_put hS (by rfl) ?_ ?_
          rotate_left
          · intro W hW; clear hW; go_simp; try (with_reducible rfl)
          simp only [Act.put, List.getElem_toArray, List.getElem_cons_succ, List.getElem_cons_zero, List.setIfInBounds_toArray, List.set_cons_zero, List.set_cons_succ]
          refine wpAnyE_take (i := 10) (v := ?_) (listed' := #[true, true, true, true, true, true, true, true, true, true, true, false, false, false, false, false, false, false, false]) (by rfl) (by kernel_rfl) (by kernel_rfl) calm_put hS (by rfl) ?_ ?_
          rotate_left
          · intro W hW; clear hW; go_simp; try (with_reducible rfl)
          simp only [Act.put, List.getElem_toArray, List.getElem_cons_succ, List.getElem_cons_zero, List.setIfInBounds_toArray, List.set_cons_zero, List.set_cons_succ]
          refine wpAnyE_take (i := 12) (v := ?_) (listed' := #[true, true, true, true, true, true, true, true, true, true, true, false, true, false, false, false, false, false, false]) (by rfl) (by kernel_rfl) (by kernel_rfl) calm_put hS (by rfl) ?_ ?_
          rotate_left
          · intro W hW; clear hW; go_simp; try (with_reducible rfl)
          simp only [Act.put, List.getElem_toArray, List.getElem_cons_succ, List.getElem_cons_zero, List.setIfInBounds_toArray, List.set_cons_zero, List.set_cons_succ]
          refine wpAnyE_take (i := 13) (v := ?_) (listed' := #[true, true, true, true, true, true, true, true, true, true, true, false, true, true, false, false, false, false, false]) (by rfl) (by kernel_rfl) (by kernel_rfl) calm_put hS (by rfl) ?_ ?_
          rotate_left
          · intro W hW; clear hW; go_simp; try (with_reducible rfl)
          simp only [Act.put, List.getElem_toArray, List.getElem_cons_succ, List.getElem_cons_zero, List.setIfInBounds_toArray, List.set_cons_zero, List.set_cons_succ]
          refine wpAnyE_take (i := 14) (v := ?_) (listed' := #[true, true, true, true, true, true, true, true, true, true, true, false, true, true, true, false, false, false, false]) (by rfl) (by kernel_rfl) (by kernel_rfl) calm_put hS (by rfl) ?_ ?_
          rotate_left
          · intro W hW; clear hW; go_simp; try (with_reducible rfl)
          simp only [Act.put, List.getElem_toArray, List.getElem_cons_succ, List.getElem_cons_zero, List.setIfInBounds_toArray, List.set_cons_zero, List.set_cons_succ]
          refine wpAnyE_take (i := 15) (v := ?_) (listed' := #[true, true, true, true, true, true, true, true, true, true, true, false, true, true, true, true, false, false, false]) (by rfl) (by kernel_rfl) (by kernel_rfl) calm_put hS (by rfl) ?_ ?_
          rotate_left
          · intro W hW; go_simp; try (with_reducible rfl)
          simp only [Act.put, List.getElem_toArray, List.getElem_cons_succ, List.getElem_cons_zero, List.setIfInBounds_toArray, List.set_cons_zero, List.set_cons_succ]
          refine wpAnyE_one (i := 11) (listed' := #[true, true, true, true, true, true, true, true, true, true, true, true, true, true, true, true, false, false, false]) (by rfl) (by kernel_rfl) (by kernel_rfl) (by rfl) (fun K hK => ?_)
          simp only [Act.put, List.getElem_toArray, List.getElem_cons_succ, List.getElem_cons_zero, List.setIfInBounds_toArray, List.set_cons_zero, List.set_cons_succ]
          go_wp2_with fail
          refine Calls.mono HUSED.out ?_
          rintro e w' ⟨rfl, rfl⟩
          refine hK _ _ (fun _ => hS) ?_; clear hK K
          refine wpAnyE_one (i := 16) (listed' := #[true, true, true, true, true, true, true, true, true, true, true, true, true, true, true, true, true, false, false]) (by rfl) (by kernel_rfl) (by kernel_rfl) (by rfl) (fun K hK => ?_)
          simp only [Act.put, List.getElem_toArray, List.getElem_cons_succ, List.getElem_cons_zero, List.setIfInBounds_toArray, List.set_cons_zero, List.set_cons_succ]
          go_wp2_with fail
          refine Calls.mono (HC.out d hd2 _) ?_
          rintro e w' ⟨rfl, rfl⟩
          refine hK _ _ (fun _ => hS) ?_; clear hK K
          refine wpAnyE_take (i := 17) (v := ?_) (listed' := #[true, true, true, true, true, true, true, true, true, true, true, true, true, true, true, true, true, true, false]) (by rfl) (by kernel_rfl) (by kernel_rfl) calm_put hS (by rfl) ?_ ?_
          rotate_left
          · intro W hW; clear hW; go_simp; try (with_reducible rfl)
          simp only [Act.put, List.getElem_toArray, List.getElem_cons_succ, List.getElem_cons_zero, List.setIfInBounds_toArray, List.set_cons_zero, List.set_cons_succ]
          refine wpAnyE_take (i := 18) (v := ?_) (listed' := #[true, true, true, true, true, true, true, true, true, true, true, true, true, true, true, true, true, true, true]) (by rfl) (by kernel_rfl) (by kernel_rfl) calm_put hS (by rfl) ?_ ?_
          rotate_left
          · intro W hW; clear hW; go_simp; try (with_reducible rfl)
          simp only [Act.put, List.getElem_toArray, List.getElem_cons_succ, List.getElem_cons_zero, List.setIfInBounds_toArray, List.set_cons_zero, List.set_cons_succ]
          refine wpAnyE_done (by kernel_rfl) ?_ _
          refine calm_normal ?_
          go_wp2_with fail
          go_round
          case rel => exact ⟨d + 1, by omega, by go_num, HXD.out.less (fun _ h => h.elim), HH6.out.kept (Kept.refl w6).drew, HV0.out⟩
          case measure => simp [intOf] <;> omega
    · have hlen0 := pre_length n d 0 HNB.out
      have hd2n : ¬ (d : Int) < 2 := by omega
      go_wp2_with fail
      go_loopw [10, 17] (fun v iv wr => ∃ (i : Nat) (H : List (Nat × Nat)), iv = .int .i64 (i : Int) ∧ H.length + i ≤ 100 ∧ H.Nodup ∧ (∀ x ∈ H, x.1 < 2 ∧ x.2 < n x.1) ∧ XO wz (fun _ => False) wr q (eN n (memF H)) ∧ Held wr wz.heap.size v H) (fun v _ _ => lenV v)
      case atStart => exact ⟨0, pre n d 0, rfl, by omega, pre_nodup n d 0, fun x hx => (by obtain ⟨e, j⟩ := x; rw [mem_pre] at hx; dsimp only; omega), HX.out, HH.out⟩
      case round =>
        clear HX HH HV0 hlen0
        obtain ⟨i, H, rfl, hi, hnod, hmem, hX, hH⟩ := hrel
        have HX := Lib.hid hX; have HH := Lib.hid hH; have HNOD := Lib.hid hnod; have HMEM := Lib.hid hmem
        clear hX hH hnod hmem
        by_cases hH0 : H = []
        · subst hH0
          obtain ⟨ao, cap0, rfl⟩ := HH.out.nil
          have HXD := Lib.hid (HX.out.kept (Kept.refl _).drew).1
          have hu0 := xo_Used HXD.out ((0 : Nat) : Int)
          rw [show usedX (eN n (memF [])) ((0 : Nat) : Int) = 0 from (used_at (eN_at n _ 0 (by omega))).trans (cnt_none _ _ fun j _ => rfl)] at hu0
          have hu1 := xo_Used HXD.out ((1 : Nat) : Int)
          rw [show usedX (eN n (memF [])) ((1 : Nat) : Int) = 0 from (used_at (eN_at n _ 1 (by omega))).trans (cnt_none _ _ fun j _ => rfl)] at hu1
          have hr0 := xo_Room HXD.out ((0 : Nat) : Int)
          rw [show roomX (eN n (memF [])) ((0 : Nat) : Int) = n 0 from by unfold roomX; rw [eN_at n _ 0 (by omega)]; show n 0 - cntS (n 0) (memF [] 0) = n 0; rw [cnt_none (n 0) (memF [] 0) fun j _ => rfl]; rfl] at hr0
          have HU0 := Lib.hid hu0; have HU1 := Lib.hid hu1; have HR0 := Lib.hid hr0
          have hS := HZ.out 0 (by omega) _ HXD.out.keeps
          clear hu0 hu1 hr0
          go_upto_region 32 with fail
          refine wp_region_calm ?_
          refine wp_region_E (fun W => W.cell? ⟨Bz, 0, none⟩ = some (.int .i64 (z 0 : Int))) 100 (by kernel_rfl) ?_
          refine wpAnyE_take (i := 0) (v := ?_) (listed' := #[true, false, false, false, false, false, false, false, false, false, false, false, false, false, false, false, false, false, false, false, false]) (by rfl) (by kernel_rfl) (by kernel_rfl) calm_put hS (by rfl) ?_ ?_
          rotate_left
          · intro W hW; clear hW; go_simp; try (with_reducible rfl)
          simp only [Act.put, List.getElem_toArray, List.getElem_cons_succ, List.getElem_cons_zero, List.setIfInBounds_toArray, List.set_cons_zero, List.set_cons_succ]
          refine wpAnyE_take (i := 1) (v := ?_) (listed' := #[true, true, false, false, false, false, false, false, false, false, false, false, false, false, false, false, false, false, false, false, false]) (by rfl) (by kernel_rfl) (by kernel_rfl) calm_put hS (by rfl) ?_ ?_
          rotate_left
          · intro W hW; clear hW; go_simp; try (with_reducible rfl)
          simp only [Act.put, List.getElem_toArray, List.getElem_cons_succ, List.getElem_cons_zero, List.setIfInBounds_toArray, List.set_cons_zero, List.set_cons_succ]
          refine wpAnyE_take (i := 2) (v := ?_) (listed' := #[true, true, true, false, false, false, false, false, false, false, false, false, false, false, false, false, false, false, false, false, false]) (by rfl) (by kernel_rfl) (by kernel_rfl) calm_put hS (by rfl) ?_ ?_
          rotate_left
          · intro W hW; clear hW; go_simp; try (with_reducible rfl)
          simp only [Act.put, List.getElem_toArray, List.getElem_cons_succ, List.getElem_cons_zero, List.setIfInBounds_toArray, List.set_cons_zero, List.set_cons_succ]
          refine wpAnyE_one (i := 3) (listed' := #[true, true, true, true, false, false, false, false, false, false, false, false, false, false, false, false, false, false, false, false, false]) (by rfl) (by kernel_rfl) (by kernel_rfl) (by rfl) (fun K hK => ?_)
          simp only [Act.put, List.getElem_toArray, List.getElem_cons_succ, List.getElem_cons_zero, List.setIfInBounds_toArray, List.set_cons_zero, List.set_cons_succ]
          go_wp2_with fail
          refine Calls.mono HU0.out ?_
          rintro e w' ⟨rfl, rfl⟩
          refine hK _ _ (fun _ => hS) ?_; clear hK K
          refine wpAnyE_take (i := 4) (v := ?_) (listed' := #[true, true, true, true, true, false, false, false, false, false, false, false, false, false, false, false, false, false, false, false, false]) (by rfl) (by kernel_rfl) (by kernel_rfl) calm_put hS (by rfl) ?_ ?_
          rotate_left
          · intro W hW; clear hW; go_simp; try (with_reducible rfl)
          simp only [Act.put, List.getElem_toArray, List.getElem_cons_succ, List.getElem_cons_zero, List.setIfInBounds_toArray, List.set_cons_zero, List.set_cons_succ]
          refine wpAnyE_take (i := 5) (v := ?_) (listed' := #[true, true, true, true, true, true, false, false, false, false, false, false, false, false, false, false, false, false, false, false, false]) (by rfl) (by kernel_rfl) (by kernel_rfl) calm_put hS (by rfl) ?_ ?_
          rotate_left
          · intro W hW; clear hW; go_simp; try (with_reducible rfl)
          simp only [Act.put, List.getElem_toArray, List.getElem_cons_succ, List.getElem_cons_zero, List.setIfInBounds_toArray, List.set_cons_zero, List.set_cons_succ]
          refine wpAnyE_take (i := 6) (v := ?_) (listed' := #[true, true, true, true, true, true, true, false, false, false, false, false, false, false, false, false, false, false, false, false, false]) (by rfl) (by kernel_rfl) (by kernel_rfl) calm_put hS (by rfl) ?_ ?_
          rotate_left
          · intro W hW; clear hW; go_simp; try (with_reducible rfl)
          simp only [Act.put, List.getElem_toArray, List.getElem_cons_succ, List.getElem_cons_zero, List.setIfInBounds_toArray, List.set_cons_zero, List.set_cons_succ]
          refine wpAnyE_take (i := 7) (v := ?_) (listed' := #[true, true, true, true, true, true, true, true, false, false, false, false, false, false, false, false, false, false, false, false, false]) (by rfl) (by kernel_rfl) (by kernel_rfl) calm_put hS (by rfl) ?_ ?_
          rotate_left
          · intro W hW; clear hW; go_simp; try (with_reducible rfl)
          simp only [Act.put, List.getElem_toArray, List.getElem_cons_succ, List.getElem_cons_zero, List.setIfInBounds_toArray, List.set_cons_zero, List.set_cons_succ]
          refine wpAnyE_one (i := 8) (listed' := #[true, true, true, true, true, true, true, true, true, false, false, false, false, false, false, false, false, false, false, false, false]) (by rfl) (by kernel_rfl) (by kernel_rfl) (by rfl) (fun K hK => ?_)
          simp only [Act.put, List.getElem_toArray, List.getElem_cons_succ, List.getElem_cons_zero, List.setIfInBounds_toArray, List.set_cons_zero, List.set_cons_succ]
          go_wp2_with fail
          refine Calls.mono HU1.out ?_
          rintro e w' ⟨rfl, rfl⟩
          refine hK _ _ (fun _ => hS) ?_; clear hK K
          refine wpAnyE_take (i := 9) (v := ?_) (listed' := #[true, true, true, true, true, true, true, true, true, true, false, false, false, false, false, false, false, false, false, false, false]) (by rfl) (by kernel_rfl) (by kernel_rfl) calm_put hS (by rfl) ?_ ?_
          rotate_left
          · intro W hW; clear hW; go_simp; try (with_reducible rfl)
          simp only [Act.put, List.getElem_toArray, List.getElem_cons_succ, List.getElem_cons_zero, List.setIfInBounds_toArray, List.set_cons_zero, List.set_cons_succ]
          refine wpAnyE_take (i := 10) (v := ?_) (listed' := #[true, true, true, true, true, true, true, true, true, true, true, false, false, false, false, false, false, false, false, false, false]) (by rfl) (by kernel_rfl) (by kernel_rfl) calm_put hS (by rfl) ?_ ?_
          rotate_left
          · intro W hW; clear hW; go_simp; try (with_reducible rfl)
          simp only [Act.put, List.getElem_toArray, List.getElem_cons_succ, List.getElem_cons_zero, List.setIfInBounds_toArray, List.set_cons_zero, List.set_cons_succ]
          refine wpAnyE_take (i := 11) (v := ?_) (listed' := #[true, true, true, true, true, true, true, true, true, true, true, true, false, false, false, false, false, false, false, false, false]) (by rfl) (by kernel_rfl) (by kernel_rfl) calm_put hS (by rfl) ?_ ?_
          rotate_left
          · intro W hW; clear hW; go_simp; try (with_reducible rfl)
          simp only [Act.put, List.getElem_toArray, List.getElem_cons_succ, List.getElem_cons_zero, List.setIfInBounds_toArray, List.set_cons_zero, List.set_cons_succ]
          refine wpAnyE_take (i := 12) (v := ?_) (listed' := #[true, true, true, true, true, true, true, true, true, true, true, true, true, false, false, false, false, false, false, false, false]) (by rfl) (by kernel_rfl) (by kernel_rfl) calm_put hS (by rfl) ?_ ?_
          rotate_left
          · intro W hW; clear hW; go_simp; try (with_reducible rfl)
          simp only [Act.put, List.getElem_toArray, List.getElem_cons_succ, List.getElem_cons_zero, List.setIfInBounds_toArray, List.set_cons_zero, List.set_cons_succ]
          refine wpAnyE_take (i := 14) (v := ?_) (listed' := #[true, true, true, true, true, true, true, true, true, true, true, true, true, false, true, false, false, false, false, false, false]) (by rfl) (by kernel_rfl) (by kernel_rfl) calm_put hS (by rfl) ?_ ?_
          rotate_left
          · intro W hW; clear hW; go_simp; try (with_reducible rfl)
          simp only [Act.put, List.getElem_toArray, List.getElem_cons_succ, List.getElem_cons_zero, List.setIfInBounds_toArray, List.set_cons_zero, List.set_cons_succ]
          refine wpAnyE_take (i := 15) (v := ?_) (listed' := #[true, true, true, true, true, true, true, true, true, true, true, true, true, false, true, true, false, false, false, false, false]) (by rfl) (by kernel_rfl) (by kernel_rfl) calm_put hS (by rfl) ?_ ?_
          rotate_left
          · intro W hW; clear hW; go_simp; try (with_reducible rfl)
          simp only [Act.put, List.getElem_toArray, List.getElem_cons_succ, List.getElem_cons_zero, List.setIfInBounds_toArray, List.set_cons_zero, List.set_cons_succ]
          refine wpAnyE_take (i := 16) (v := ?_) (listed' := #[true, true, true, true, true, true, true, true, true, true, true, true, true, false, true, true, true, false, false, false, false]) (by rfl) (by kernel_rfl) (by kernel_rfl) calm_put hS (by rfl) ?_ ?_
          rotate_left
          · intro W hW; go_simp; try (with_reducible rfl)
          simp only [Act.put, List.getElem_toArray, List.getElem_cons_succ, List.getElem_cons_zero, List.setIfInBounds_toArray, List.set_cons_zero, List.set_cons_succ]
          refine wpAnyE_one (i := 13) (listed' := #[true, true, true, true, true, true, true, true, true, true, true, true, true, true, true, true, true, false, false, false, false]) (by rfl) (by kernel_rfl) (by kernel_rfl) (by rfl) (fun K hK => ?_)
          simp only [Act.put, List.getElem_toArray, List.getElem_cons_succ, List.getElem_cons_zero, List.setIfInBounds_toArray, List.set_cons_zero, List.set_cons_succ]
          go_wp2_with fail
          refine Calls.mono HR0.out ?_
          rintro e w' ⟨rfl, rfl⟩
          refine hK _ _ (fun _ => hS) ?_; clear hK K
          refine wpAnyE_one (i := 17) (listed' := #[true, true, true, true, true, true, true, true, true, true, true, true, true, true, true, true, true, true, false, false, false]) (by rfl) (by kernel_rfl) (by kernel_rfl) (by rfl) (fun K hK => ?_)
          simp only [Act.put, List.getElem_toArray, List.getElem_cons_succ, List.getElem_cons_zero, List.setIfInBounds_toArray, List.set_cons_zero, List.set_cons_succ]
          go_wp2_with fail
          refine Calls.mono (HC.out 0 (by omega) _) ?_
          rintro e w' ⟨rfl, rfl⟩
          refine hK _ _ (fun _ => hS) ?_; clear hK K
          refine wpAnyE_take (i := 18) (v := ?_) (listed' := #[true, true, true, true, true, true, true, true, true, true, true, true, true, true, true, true, true, true, true, false, false]) (by rfl) (by kernel_rfl) (by kernel_rfl) calm_put hS (by rfl) ?_ ?_
          rotate_left
          · intro W hW; clear hW; go_simp; try (with_reducible rfl)
          simp only [Act.put, List.getElem_toArray, List.getElem_cons_succ, List.getElem_cons_zero, List.setIfInBounds_toArray, List.set_cons_zero, List.set_cons_succ]
          refine wpAnyE_take (i := 19) (v := ?_) (listed' := #[true, true, true, true, true, true, true, true, true, true, true, true, true, true, true, true, true, true, true, true, false]) (by rfl) (by kernel_rfl) (by kernel_rfl) calm_put hS (by rfl) ?_ ?_
          rotate_left
          · intro W hW; clear hW; go_simp; try (with_reducible rfl)
          simp only [Act.put, List.getElem_toArray, List.getElem_cons_succ, List.getElem_cons_zero, List.setIfInBounds_toArray, List.set_cons_zero, List.set_cons_succ]
          refine wpAnyE_one (i := 20) (listed' := #[true, true, true, true, true, true, true, true, true, true, true, true, true, true, true, true, true, true, true, true, true]) (by rfl) (by kernel_rfl) (by kernel_rfl) (by rfl) (fun K hK => ?_)
          simp only [Act.put, List.getElem_toArray, List.getElem_cons_succ, List.getElem_cons_zero, List.setIfInBounds_toArray, List.set_cons_zero, List.set_cons_succ]
          go_wp2_with fail
          refine hK _ _ (fun _ => hS) ?_; clear hK K
          refine wpAnyE_done (by kernel_rfl) ?_ _
          refine calm_normal ?_
          go_wp2_with fail
          go_ret
          exact ⟨rfl, HKZ.out.trans HXD.out.keeps⟩
        · obtain ⟨g, cap2, cur, rfl, hgb, hh, hlc, hcm, _⟩ := HH.out.owns hH0
          have hpos : 0 < H.length := List.length_pos_iff.2 hH0
          have HCELLS := Lib.hid (HH.out.cells rfl)
          clear hh hgb
          go_upto_if 107 with fail
          go_cut [18] (fun kv wc => ∃ k : Nat, k < H.length ∧ kv = .int .i64 (k : Int) ∧ wc = wr)
          case first =>
            by_cases hil : i < l.length
            · obtain ⟨bo, off, rfl, ck⟩ := (HS.out.kept (HKZ.out.trans HX.out.keeps)).at i hil
              obtain ⟨x, hx, hxl⟩ := and_i64 l[i] 16 (by decide) (m := 65535) (by decide)
              have hyn : (x : Int) % (H.length : Int) = ((x % H.length : Nat) : Int) := by norm_cast
              have hynt : (x : Int).tmod (H.length : Int) = ((x % H.length : Nat) : Int) := by rw [Int.tmod_eq_emod_of_nonneg (by omega)]; exact hyn
              have hsn : x % H.length < H.length := Nat.mod_lt _ hpos
              have hn0b : ((H.length : Int) == 0) = false := by simp; omega
              generalize l[i] = xl at *
              generalize x % H.length = s at *
              go_wp2
              go_meet
              case rel => exact ⟨s, hsn, rfl, rfl⟩
            · go_wp2
              go_meet
              case rel => exact ⟨0, hpos, rfl, rfl⟩
          case rest =>
            obtain ⟨k, hk, rfl, rfl⟩ := hcut
            obtain ⟨hc0, hc1⟩ := HH.out.at k hk
            have hmk := HMEM.out _ (List.getElem_mem hk)
            have hfs := free_step n H HNOD.out HMEM.out k hk
            have hua := used_after n H HNOD.out HMEM.out k hk
            have huo := used_other n H HNOD.out HMEM.out k hk
            have hd2 : H[k].1 < 2 := hmk.1
            have hj50 : H[k].2 < 50 := Nat.lt_of_lt_of_le hmk.2 (HNB.out _)
            clear hmk
            generalize H[k].1 = dd at *
            generalize H[k].2 = jj at *
            have hu1 := xo_Used HX.out (dd : Int)
            have hu2 := xo_Used HX.out (1 - (dd : Int))
            have hub := used_le n (memF H) HNB.out (dd : Int)
            have huc := used_le n (memF H) HNB.out (1 - (dd : Int))
            rw [← hua] at hu1 hub
            rw [← huo] at hu2 huc
            have hfr := xo_Free (HX.out.held HH.out) (dd : Int) (114 + (jj : Int) * 8) (by omega) (by omega)
            rw [hfs] at hfr
            have HU1 := Lib.hid hu1; have HU2 := Lib.hid hu2; have HFR := Lib.hid hfr
            clear hu1 hu2 hfr hfs hua huo
            obtain ⟨u1, hu1⟩ : ∃ u : Nat, u = usedX (eN n (memF (H.eraseIdx k))) (dd : Int) := ⟨_, rfl⟩
            obtain ⟨u2, hu2⟩ : ∃ u : Nat, u = usedX (eN n (memF (H.eraseIdx k))) (1 - (dd : Int)) := ⟨_, rfl⟩
            have HV1 : Hid (∀ W R, XO wz R W q (eN n (memF (H.eraseIdx k))) → Calls Tryd.prog 18 #[.pointer (some ⟨q, 0, none⟩), .int .i64 (dd : Int)] W fun e w' => e = .returned (.int .i64 (u1 : Int)) ∧ W = w') := Lib.hid fun W R h => by rw [hu1]; exact xo_Used h _
            have HV2 : Hid (∀ W R, XO wz R W q (eN n (memF (H.eraseIdx k))) → Calls Tryd.prog 18 #[.pointer (some ⟨q, 0, none⟩), .int .i64 (1 - (dd : Int))] W fun e w' => e = .returned (.int .i64 (u2 : Int)) ∧ W = w') := Lib.hid fun W R h => by rw [hu2]; exact xo_Used h _
            rw [← hu1] at HU1 hub
            rw [← hu2] at HU2 huc
            clear hu1 hu2
            go_wp2_with fail
            refine Calls.mono HU1.out ?_
            rintro e w' ⟨rfl, rfl⟩
            go_wp2_with fail
            refine Calls.mono HU2.out ?_
            rintro e w' ⟨rfl, rfl⟩
            go_wp2_with fail
            refine Calls.mono HFR.out ?_
            rintro e w5 ⟨rfl, hX5, r5⟩
            have hH5 := HH.out.same r5
            have HX5 := Lib.hid hX5; have HH5 := Lib.hid hH5
            clear hX5 hH5 r5 hc0 hc1 HX HH HCELLS HU1 HU2 HFR
            go_wp2_with fail
            refine Calls.mono (HV1.out _ _ HX5.out) ?_
            rintro e w' ⟨rfl, rfl⟩
            go_wp2_with fail
            refine Calls.mono (HV2.out _ _ HX5.out) ?_
            rintro e w' ⟨rfl, rfl⟩
            go_upto_region 31 with fail
            have HC5 := Lib.hid (HH5.out.cells rfl)
            have hwz5 := HX5.out.keeps.size
            have hS : True := trivial
            have hkw : IntKind.i64.wrap ((k : Int) + 1) = (k : Int) + 1 := IntWalk.i64_in _ (by omega)
            have hkt : ((k : Int) + 1).toNat = k + 1 := by omega
            obtain ⟨ax, hax⟩ : ∃ ax : Option Addr, ax = if cap2 = k + 1 then some ⟨g, 0, none⟩ else some ⟨g, (k + 1) * 2, none⟩ := ⟨_, rfl⟩
            have HAX := Lib.hid hax; clear hax
            refine wp_region_calm ?_
            refine wp_region_E (fun _ => True) 100 (by kernel_rfl) ?_
            refine wpAnyE_take (i := 1) (v := ?_) (listed' := #[false, true, false, false, false, false, false, false, false, false, false]) (by rfl) (by kernel_rfl) (by kernel_rfl) calm_put hS (by rfl) ?_ ?_
            rotate_left
            · intro W hW; clear hW; go_simp; try (with_reducible rfl)
            simp only [Act.put, List.getElem_toArray, List.getElem_cons_succ, List.getElem_cons_zero, List.setIfInBounds_toArray, List.set_cons_zero, List.set_cons_succ]
            refine wpAnyE_take (i := 2) (v := ?_) (listed' := #[false, true, true, false, false, false, false, false, false, false, false]) (by rfl) (by kernel_rfl) (by kernel_rfl) calm_put hS (by rfl) ?_ ?_
            rotate_left
            · intro W hW; clear hW; go_simp; try (with_reducible rfl)
            simp only [Act.put, List.getElem_toArray, List.getElem_cons_succ, List.getElem_cons_zero, List.setIfInBounds_toArray, List.set_cons_zero, List.set_cons_succ]
            refine wpAnyE_take (i := 3) (v := ?_) (listed' := #[false, true, true, true, false, false, false, false, false, false, false]) (by rfl) (by kernel_rfl) (by kernel_rfl) calm_put hS (by rfl) ?_ ?_
            rotate_left
            · intro W hW; clear hW; go_simp; rw [if_pos (show k ≤ cap2 by omega)]
            simp only [Act.put, List.getElem_toArray, List.getElem_cons_succ, List.getElem_cons_zero, List.setIfInBounds_toArray, List.set_cons_zero, List.set_cons_succ]
            refine wpAnyE_take (i := 5) (v := ?_) (listed' := #[false, true, true, true, false, true, false, false, false, false, false]) (by rfl) (by kernel_rfl) (by kernel_rfl) calm_put hS (by rfl) ?_ ?_
            rotate_left
            · intro W hW; clear hW; go_simp; try (with_reducible rfl)
            simp only [Act.put, List.getElem_toArray, List.getElem_cons_succ, List.getElem_cons_zero, List.setIfInBounds_toArray, List.set_cons_zero, List.set_cons_succ]
            refine wpAnyE_take (i := 6) (v := ?_) (listed' := #[false, true, true, true, false, true, true, false, false, false, false]) (by rfl) (by kernel_rfl) (by kernel_rfl) calm_put hS (by rfl) ?_ ?_
            rotate_left
            · intro W hW; clear hW; go_simp; try (with_reducible rfl)
            simp only [Act.put, List.getElem_toArray, List.getElem_cons_succ, List.getElem_cons_zero, List.setIfInBounds_toArray, List.set_cons_zero, List.set_cons_succ]
            refine wpAnyE_take (i := 7) (v := ?_) (listed' := #[false, true, true, true, false, true, true, true, false, false, false]) (by rfl) (by kernel_rfl) (by kernel_rfl) calm_put hS (by rfl) ?_ ?_
            rotate_left
            · intro W hW; clear hW; go_simp; first | (with_reducible rfl) | exact Eq.refl _ | (simp only [hkw]; exact Eq.refl _)
            simp only [Act.put, List.getElem_toArray, List.getElem_cons_succ, List.getElem_cons_zero, List.setIfInBounds_toArray, List.set_cons_zero, List.set_cons_succ]
            refine wpAnyE_take (i := 8) (v := ?_) (listed' := #[false, true, true, true, false, true, true, true, true, false, false]) (by rfl) (by kernel_rfl) (by kernel_rfl) calm_put hS (by rfl) ?_ ?_
            rotate_left
            · intro W hW; clear hW; go_simp; rw [if_pos (show (0 : Int) ≤ (k : Int) + 1 ∧ (k : Int) + 1 ≤ (H.length : Int) from ⟨by omega, by omega⟩), ← HAX.out]
            simp only [Act.put, List.getElem_toArray, List.getElem_cons_succ, List.getElem_cons_zero, List.setIfInBounds_toArray, List.set_cons_zero, List.set_cons_succ]
            refine wpAnyE_one (i := 0) (listed' := #[true, true, true, true, false, true, true, true, true, false, false]) (by rfl) (by kernel_rfl) (by kernel_rfl) (by rfl) (fun K hK => ?_)
            simp only [Act.put, List.getElem_toArray, List.getElem_cons_succ, List.getElem_cons_zero, List.setIfInBounds_toArray, List.set_cons_zero, List.set_cons_succ]
            go_wp2_with fail
            refine hK _ _ (fun _ => trivial) ?_; clear hK K
            have hk6 : Kept w5 (w5.alloc (Obj.cells #[] 35)).drew := ((Kept.refl w5).alloc _).drew
            generalize (w5.alloc (Obj.cells #[] 35)).drew = w6 at *
            refine wpAnyE_one (i := 4) (listed' := #[true, true, true, true, true, true, true, true, true, false, false]) (by rfl) (by kernel_rfl) (by kernel_rfl) (by rfl) (fun K hK => ?_)
            simp only [Act.put, List.getElem_toArray, List.getElem_cons_succ, List.getElem_cons_zero, List.setIfInBounds_toArray, List.set_cons_zero, List.set_cons_succ]
            refine wp_append_app _ _ (by rfl) ty_exts w6.heap.size _ 0 [] (by rfl) (.inr ⟨rfl, _, rfl, by simp, by simp⟩) _ k (exs (H.take k)) (by rfl) (Src.of_cells (exs_prefix (Cells.kept HC5.out hk6) k (by omega)) (by rw [exs_length, List.length_take]; omega) (by omega)) (exs_one _) (by simp only [maxLen]; omega) (by omega) (Nat.le_refl _) ?_
            intro v7 w7 hA7 _ hb7 hown7
            have hk7 : Kept w6 w7 := hb7
            refine hK _ _ (fun _ => trivial) ?_; clear hK K
            refine wpAnyE_one (i := 9) (listed' := #[true, true, true, true, true, true, true, true, true, true, false]) (by rfl) (by kernel_rfl) (by kernel_rfl) (by rfl) (fun K hK => ?_)
            simp only [Act.put, List.getElem_toArray, List.getElem_cons_succ, List.getElem_cons_zero, List.setIfInBounds_toArray, List.set_cons_zero, List.set_cons_succ]
            refine wp_append_app _ _ (by rfl) ty_exts w6.heap.size _ (0 + k) _ (by rfl) hA7 _ (H.length - (k + 1)) (exs (H.drop (k + 1))) (by rfl) (by rw [HAX.out]; exact suffix_src (Cells.kept HC5.out (hk6.trans hk7)) hk hlc) (exs_one _) (by simp only [maxLen]; omega) (by omega) hk7.size ?_
            intro v8 w8 hA8 _ hb8 hown8
            have hk8 : Kept w5 w8 := Kept.below (hk6.trans hk7) hk6.size hb8
            have HX8 := Lib.hid (((HX5.out.less (R' := fun _ => False) (fun _ h => h.elim)).kept hk8).1)
            have HH8 : Hid (Held w8 wz.heap.size v8 (H.eraseIdx k)) := Lib.hid (Held.spliced (Nat.le_trans hwz5 hk6.size) hk hA8 hown7 hown8)
            refine hK _ _ (fun _ => trivial) ?_; clear hK K
            refine wpAnyE_one (i := 10) (listed' := #[true, true, true, true, true, true, true, true, true, true, true]) (by rfl) (by kernel_rfl) (by kernel_rfl) (by rfl) (fun K hK => ?_)
            simp only [Act.put, List.getElem_toArray, List.getElem_cons_succ, List.getElem_cons_zero, List.setIfInBounds_toArray, List.set_cons_zero, List.set_cons_succ]
            go_wp2_with fail
            refine hK _ _ (fun _ => trivial) ?_; clear hK K
            refine wpAnyE_done (by kernel_rfl) ?_ _
            refine calm_normal ?_
            go_wp2_with fail
            go_round
            case rel => exact ⟨i + 1, H.eraseIdx k, by go_num, by rw [List.length_eraseIdx, if_pos hk]; omega, HNOD.out.sublist (List.eraseIdx_sublist _ _), fun x hx => HMEM.out x (List.mem_of_mem_eraseIdx hx), HX8.out, HH8.out⟩
            case measure =>
              obtain ⟨ao8, cap8, rfl⟩ := App.form hA8
              show 0 + k + (H.length - (k + 1)) < H.length
              omega
end Go.Proofs.YtpnpconphpbcaaaDoor
