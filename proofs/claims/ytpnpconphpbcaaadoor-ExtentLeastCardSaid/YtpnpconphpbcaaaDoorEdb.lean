/- ExtentLeast: the walk. -/
import Derived.Test.YtpnpconphpbcaaaDoorEda
import Derived.Test.YtpnpconphpbcaaaDoorText
namespace Go.Proofs.YtpnpconphpbcaaaDoor
open Go.RowKit Go.ChangeMaps Go.MapKept
set_option linter.unusedVariables false
set_option linter.unusedSimpArgs false

set_option maxHeartbeats 4000000
set_option maxRecDepth 100000
theorem least_walk (a : Int) (v : Value) (l : List Int) (w : World) (hs : ISl w v l) (hT : DbAt w) : Calls Tryd.prog 4 #[.int .i64 a, v] w fun e w' => e = .returned (.bool true) ∧ Kept w w' := by
  obtain ⟨y, hand, hy⟩ := and_i64 a 20 (by decide) (m := 1048575) (by decide)
  have hz : y % 4097 < 4097 := Nat.mod_lt _ (by decide)
  have hmod : (y : Int) % 4097 = ((y % 4097 : Nat) : Int) := by omega
  have htmod : (y : Int).tmod 4097 = ((y % 4097 : Nat) : Int) := by rw [Int.tmod_eq_emod_of_nonneg (by omega)]; exact hmod
  generalize y % 4097 = z at *
  have HT := Lib.hid hT; clear hT
  obtain ⟨n, hn⟩ : ∃ n : Nat, cntX z = (n : Int) := ⟨(cntX z).toNat, by unfold cntX; split <;> omega⟩
  have hn2 : n ≤ 512 := by unfold cntX at hn; split at hn <;> omega
  have HN := Lib.hid hn
  have HC : Hid (∀ W, Calls Tryd.prog 8 #[.int .i64 (z : Int)] W fun e w' => e = .returned (.int .i64 (n : Int)) ∧ W = w') := Lib.hid fun W => by rw [← hn]; exact ext_Count z (by omega) (by omega) W
  have HP : Hid (∀ (k : Nat) W, k ≤ 600 → Calls Tryd.prog 11 #[.int .i64 (k : Int)] W fun e w' => e = .returned (.int .i64 (114 + (k : Int) * 8)) ∧ W = w') := Lib.hid fun k W h => ext_Place k (by omega) (by omega) W
  obtain ⟨oa, cap, rfl, hcap, hmx, _⟩ := id hs
  have HS := Lib.hid hs; clear hs hn
  have hll : l.length ≤ 9223372036854775807 := by simp only [maxLen] at hmx; omega
  clear hcap hmx
  obtain ⟨i0, hi, hz0, hz1, hz2⟩ := info_parts (P := Tryd.prog) (e := 4) (z := .bool false) (size := 1) (bytes := 1) (by kernel_rfl)
  have HI := Lib.hid hi; clear hi
  have HZ0 := Lib.hid hz0; clear hz0
  have HZ1 := Lib.hid hz1; clear hz1
  have HZ2 := Lib.hid hz2; clear hz2
  go_enter Tryd.func4, Tryd.ntmps4
  go_wp2_with fail
  refine Calls.mono (law_shown w HT.out) ?_
  rintro e w1 ⟨rfl, hk1⟩
  go_wp2_with fail
  refine Calls.mono (xo_New w w1 hk1) ?_
  rintro e w2 ⟨q, rfl, X2, _⟩
  clear hk1
  go_wp2_with fail
  refine Calls.mono (xo_Add X2 0 z n (by omega) (by omega) HN.out rfl) ?_
  rintro e w3 ⟨rfl, X3, _⟩
  replace X3 : XO w (fun k => k < w.heap.size) w3 q (eL n (fun _ => false)) := X3
  rw [← tkF_noB n] at X3
  clear X2
  go_wp2_with fail
  refine Calls.mono (HC.out _) ?_
  rintro e w' ⟨rfl, rfl⟩
  go_wp2_with (refine stop_at (o := ⟨some 33, _, _, _, _, _⟩) ?_)
  refine Stop.mk ?_
  refine wpList_make_full _ rfl _ _ 32 rfl 0 4 i0 (.bool false) 1 Tryd.underlying32 HI.out HZ0.out HZ1.out .i64 .i64 (n : Int) (n : Int) n rfl rfl rfl rfl (by rw [HZ2.out]; omega) (by simp only [maxLen]; omega) (Nat.zero_le _) ?_
  intro w4 hown hg
  have hk4 : Kept w3 w4 := (Kept.refl w3).grown hg (fun k e => by cases e)
  have hb4 : BRow w4 w3.heap.size 4 (noB n) := by
    rcases hown.2 with ⟨h, _⟩ | ⟨g, cap, cur, h, _, hh, _, _, hs, ht⟩
    · cases h
    · cases h
      rw [Nat.mul_one] at hs ht
      show w4.heap[w3.heap.size]? = _
      rw [hh, ← made_bools, ← ht, List.take_of_length_le (by simp; omega)]
  have X4 := (X3.more hk4 w3.heap.size (Nat.le_refl _) (Array.getElem?_eq_some_iff.1 hb4).1).less (R' := fun k => k = w3.heap.size) (fun _ h => .inr h)
  have HwB := Lib.hid X3.keeps.size
  have HB4 := Lib.hid hb4
  clear hown hg HI HZ0 HZ1 HZ2 hk4 X3 hb4
  have hsz : w.heap.size ≤ w3.heap.size := HwB.out
  generalize w3.heap.size = B at *
  go_wp2_with fail
  go_loopw [9] (fun i wr => ∃ (k : Nat) (tk : List Bool), k ≤ l.length ∧ i = .int .i64 (k : Int) ∧ tk.length = n ∧ XO w (fun k => k = B) wr q (eL n (tkF tk 0)) ∧ BRow wr B 4 tk) (fun i _ => l.length - (intOf i).toNat)
  case atStart => exact ⟨0, noB n, Nat.zero_le _, rfl, noB_length n, X4, HB4.out⟩
  case round =>
    obtain ⟨k, tk, hk, rfl, htk, hX, hB⟩ := hrel
    have HX := Lib.hid hX; clear hX
    have HB := Lib.hid hB; clear hB
    clear X4
    by_cases hlt : k < l.length ∧ k < 300 ∧ 0 < n
    · obtain ⟨hlt, h300, hn0⟩ := hlt
      obtain ⟨b, off, rfl, ck⟩ := (HS.out.kept HX.out.keeps).at k hlt
      obtain ⟨x, hx, hxl⟩ := and_i64 l[k] 20 (by decide) (m := 1048575) (by decide)
      have hyn : (x : Int) % (n : Int) = ((x % n : Nat) : Int) := by norm_cast
      have hynt : (x : Int).tmod (n : Int) = ((x % n : Nat) : Int) := by rw [Int.tmod_eq_emod_of_nonneg (by omega)]; exact hyn
      have hsn : x % n < n := Nat.mod_lt _ (by omega)
      generalize l[k] = xl at *
      generalize x % n = s at *
      have hn0b : ((n : Int) == 0) = false := by simp; omega
      have hst : s < tk.length := by omega
      have hch := chg_eL n tk s htk hst
      have hTA := xo_TakeAt HX.out 0 (114 + (s : Int) * 8) (by omega) (by omega)
      rw [hch] at hTA
      have hcB := HB.out.at hst
      cases hts : tk[s] with
      | true =>
        rw [hts, if_pos rfl] at hTA
        rw [hts] at hcB
        have HTA := Lib.hid hTA; clear hTA hch hts
        go_wp2_with fail
        refine Calls.mono (HP.out s _ (by omega)) ?_
        rintro e w' ⟨rfl, rfl⟩
        go_wp2_with fail
        refine Calls.mono HTA.out ?_
        rintro e w5 ⟨rfl, hX5, r5⟩
        have hB5 : BRow w5 B 4 tk := (r5 B rfl).trans HB.out
        have HX5 := Lib.hid hX5; clear hX5
        have hcB5 : w5.cell? ⟨B, s, none⟩ = some (.bool true) := by rw [← hcB, World.cell?, World.cell?, r5 B rfl]
        clear hcB r5 ck
        go_wp2_with (refine stop_at (o := ⟨none, .store _ _ _, _, _, _, _⟩) ?_)
        refine Stop.mk ?_
        refine wpList_set_bool hB5 hst true rfl _ _ rfl rfl rfl ?_
        intro w6 hw6
        have HX6 := Lib.hid (HX5.out.wrote hw6 rfl hsz)
        have HB6 : Hid (BRow w6 B 4 (tk.set s true)) := Lib.hid hw6.blk
        clear hw6 hB5 HX5 hcB5
        go_wp2_with fail
        go_round
        case rel => exact ⟨k + 1, tk.set s true, by omega, by go_num, by rw [List.length_set]; exact htk, HX6.out, HB6.out⟩
        case measure => simp [intOf] <;> omega
      | false =>
        rw [hts, if_neg (by simp)] at hTA
        rw [hts] at hcB
        have HTA := Lib.hid hTA; clear hTA hch hts
        go_wp2_with fail
        refine Calls.mono (HP.out s _ (by omega)) ?_
        rintro e w' ⟨rfl, rfl⟩
        go_wp2_with fail
        refine Calls.mono HTA.out ?_
        rintro e w5 ⟨rfl, hX5, r5⟩
        have hB5 : BRow w5 B 4 tk := (r5 B rfl).trans HB.out
        have HX5 := Lib.hid hX5; clear hX5
        have hcB5 : w5.cell? ⟨B, s, none⟩ = some (.bool false) := by rw [← hcB, World.cell?, World.cell?, r5 B rfl]
        clear hcB r5 ck
        go_wp2_with (refine stop_at (o := ⟨none, .store _ _ _, _, _, _, _⟩) ?_)
        refine Stop.mk ?_
        refine wpList_set_bool hB5 hst true rfl _ _ rfl rfl rfl ?_
        intro w6 hw6
        have HX6 := Lib.hid (HX5.out.wrote hw6 rfl hsz)
        have HB6 : Hid (BRow w6 B 4 (tk.set s true)) := Lib.hid hw6.blk
        clear hw6 hB5 HX5 hcB5
        go_wp2_with fail
        go_round
        case rel => exact ⟨k + 1, tk.set s true, by omega, by go_num, by rw [List.length_set]; exact htk, HX6.out, HB6.out⟩
        case measure => simp [intOf] <;> omega
    · clear HS
      by_cases hnz : n = 0
      · subst hnz
        go_wp2_with fail
        all_goals
          go_loopw [12] (fun i wr => ∃ k : Nat, k ≤ 0 ∧ i = .int .i64 (k : Int) ∧ XO w (fun k => k = B) wr q (eL 0 (tkF tk k)) ∧ BRow wr B 4 tk) (fun i _ => 0 - (intOf i).toNat)
          case atStart => exact ⟨0, Nat.zero_le _, rfl, HX.out, HB.out⟩
          case round =>
            clear HX HB
            obtain ⟨k, hk, rfl, hX, hB⟩ := hrel
            have HX := Lib.hid hX; clear hX
            have HB := Lib.hid hB; clear hB
            obtain rfl : k = 0 := by omega
            skip
            have hall : ∀ j, j < 0 → tkF tk 0 j = true := fun j h => tkF_lt tk 0 j h
            have HALL := Lib.hid hall; clear hall
            have HTK := Lib.hid (xo_Take HX.out HT.out 0)
            go_wp2_with fail
            refine Calls.mono HTK.out ?_
            rintro e w5 ⟨v, E5, rfl, ht, hX5, r5⟩
            obtain ⟨rfl, rfl⟩ := ht.full (eL_0 0 _) HALL.out
            clear ht r5 HTK
            simp only [extV, exV]
            go_wp2_with (refine stop_at (o := ⟨some 15, _, _, _, _, _⟩) ?_)
            refine Stop.mk ?_
            refine wpList_new_agg rfl rfl _ _ rfl rfl ty_ext [Value.int .i64 0, .int .i64 0] zero_ext rfl [Value.int .i64 0, .int .i64 0] rfl rfl (by simp [Value.oneCell']) rfl ?_
            intro w6 hz6 hs6 hk6
            have HX6 := Lib.hid (hX5.kept hk6).1
            clear hz6 hs6 hk6 hX5
            have hU := xo_Used HX6.out 0
            rw [show usedX (eL 0 (tkF tk 0)) 0 = 0 from (used_at (eL_0 0 _)).trans (cnt_all 0 _ HALL.out)] at hU
            have hR := xo_Room HX6.out 0
            rw [show roomX (eL 0 (tkF tk 0)) 0 = 0 from by unfold roomX; rw [eL_0]; show 0 - cntS 0 _ = 0; rw [cnt_all 0 _ HALL.out]; try omega] at hR
            have HU := Lib.hid hU; clear hU
            have HR := Lib.hid hR; clear hR
            go_wp2_with fail
            refine Calls.mono HU.out ?_
            rintro e w' ⟨rfl, rfl⟩
            go_wp2_with fail
            refine Calls.mono HR.out ?_
            rintro e w' ⟨rfl, rfl⟩
            go_wp2_with fail
            go_ret
            exact ⟨rfl, HX6.out.keeps⟩
      · have hnp : 0 < n := by omega
        go_wp2_with fail
        all_goals
          go_loopw [12] (fun i wr => ∃ k : Nat, k ≤ n ∧ i = .int .i64 (k : Int) ∧ XO w (fun k => k = B) wr q (eL n (tkF tk k)) ∧ BRow wr B 4 tk) (fun i _ => n - (intOf i).toNat)
          case atStart => exact ⟨0, Nat.zero_le _, rfl, HX.out, HB.out⟩
          case round =>
            clear HX HB
            obtain ⟨k, hk, rfl, hX, hB⟩ := hrel
            have HX := Lib.hid hX; clear hX
            have HB := Lib.hid hB; clear hB
            by_cases hlt : k < n
            · have hkt : k < tk.length := by omega
              have hcB := HB.out.at hkt
              cases hts : tk[k] with
              | true =>
                rw [hts] at hcB
                have HSK := Lib.hid (tkF_skip tk k hkt hts)
                clear hts
                go_wp2_with fail
                go_round
                case rel => exact ⟨k + 1, by omega, by go_num, by rw [← HSK.out]; exact HX.out, HB.out⟩
                case measure => simp [intOf] <;> omega
              | false =>
                rw [hts] at hcB
                have HKK := Lib.hid (tkF_k tk k hkt hts)
                clear hts
                have HTK := Lib.hid (xo_Take HX.out HT.out 0)
                go_wp2_with fail
                refine Calls.mono HTK.out ?_
                rintro e w5 ⟨v, E5, rfl, ht, hX5, r5⟩
                obtain ⟨rfl, rfl⟩ := ht.first (eL_0 n _) hlt HKK.out (fun j h => tkF_lt tk k j h)
                rw [eL_set, tkF_next] at hX5
                have hB5 : BRow w5 B 4 tk := (r5 B rfl).trans HB.out
                clear ht r5 HTK
                simp only [extV, exV]
                go_wp2_with (refine stop_at (o := ⟨some 13, _, _, _, _, _⟩) ?_)
                refine Stop.mk ?_
                refine wpList_new_agg rfl rfl _ _ rfl rfl ty_ext [Value.int .i64 0, .int .i64 0] zero_ext rfl [Value.int .i64 0, .int .i64 (114 + (k : Int) * 8)] rfl rfl (by simp [Value.oneCell']) rfl ?_
                intro w6 hz6 hs6 hk6
                have HX6 := Lib.hid (hX5.kept hk6).1
                have HB6 : Hid (BRow w6 B 4 tk) := Lib.hid (hk6.block hB5)
                have hc6 := cell_of_row _ _ 1 _ _ _ hz6.out
                generalize w5.heap.size = bx at *
                clear hz6 hs6 hk6 hX5 hB5 hcB
                go_upto_region 21 with fail
                have hS : w6.drew.cell? ⟨bx, 1, none⟩ = some (.int .i64 (114 + (k : Int) * 8)) := by rw [← World.cell?_drew] at hc6; exact hc6
                refine wp_region_calm ?_
                refine wp_region_E (fun W => W.cell? ⟨bx, 1, none⟩ = some (.int .i64 (114 + (k : Int) * 8))) 100 (by kernel_rfl) ?_
                refine wpAnyE_take (i := 0) (v := ?_) (listed' := #[true, false, false, false, false, false, false, false, false]) (by rfl) (by kernel_rfl) (by kernel_rfl) calm_put hS (by rfl) ?_ ?_
                rotate_left
                · intro W hW; clear hW; go_simp; try (with_reducible rfl)
                simp only [Act.put, List.getElem_toArray, List.getElem_cons_succ, List.getElem_cons_zero, List.setIfInBounds_toArray, List.set_cons_zero, List.set_cons_succ]
                refine wpAnyE_take (i := 1) (v := ?_) (listed' := #[true, true, false, false, false, false, false, false, false]) (by rfl) (by kernel_rfl) (by kernel_rfl) calm_put hS (by rfl) ?_ ?_
                rotate_left
                · intro W hW; clear hW; go_simp; try (with_reducible rfl)
                simp only [Act.put, List.getElem_toArray, List.getElem_cons_succ, List.getElem_cons_zero, List.setIfInBounds_toArray, List.set_cons_zero, List.set_cons_succ]
                refine wpAnyE_take (i := 2) (v := ?_) (listed' := #[true, true, true, false, false, false, false, false, false]) (by rfl) (by kernel_rfl) (by kernel_rfl) calm_put hS (by rfl) ?_ ?_
                rotate_left
                · intro W hW; clear hW; go_simp; try (with_reducible rfl)
                simp only [Act.put, List.getElem_toArray, List.getElem_cons_succ, List.getElem_cons_zero, List.setIfInBounds_toArray, List.set_cons_zero, List.set_cons_succ]
                refine wpAnyE_take (i := 3) (v := ?_) (listed' := #[true, true, true, true, false, false, false, false, false]) (by rfl) (by kernel_rfl) (by kernel_rfl) calm_put hS (by rfl) ?_ ?_
                rotate_left
                · intro W hW; clear hW; go_simp; try (with_reducible rfl)
                simp only [Act.put, List.getElem_toArray, List.getElem_cons_succ, List.getElem_cons_zero, List.setIfInBounds_toArray, List.set_cons_zero, List.set_cons_succ]
                refine wpAnyE_take (i := 4) (v := ?_) (listed' := #[true, true, true, true, true, false, false, false, false]) (by rfl) (by kernel_rfl) (by kernel_rfl) calm_put hS (by rfl) ?_ ?_
                rotate_left
                · intro W hW; go_simp; try (with_reducible rfl)
                simp only [Act.put, List.getElem_toArray, List.getElem_cons_succ, List.getElem_cons_zero, List.setIfInBounds_toArray, List.set_cons_zero, List.set_cons_succ]
                refine wpAnyE_take (i := 5) (v := ?_) (listed' := #[true, true, true, true, true, true, false, false, false]) (by rfl) (by kernel_rfl) (by kernel_rfl) calm_put hS (by rfl) ?_ ?_
                rotate_left
                · intro W hW; clear hW; go_simp; try (with_reducible rfl)
                simp only [Act.put, List.getElem_toArray, List.getElem_cons_succ, List.getElem_cons_zero, List.setIfInBounds_toArray, List.set_cons_zero, List.set_cons_succ]
                refine wpAnyE_one (i := 6) (listed' := #[true, true, true, true, true, true, true, false, false]) (by rfl) (by kernel_rfl) (by kernel_rfl) (by rfl) (fun K hK => ?_)
                simp only [Act.put, List.getElem_toArray, List.getElem_cons_succ, List.getElem_cons_zero, List.setIfInBounds_toArray, List.set_cons_zero, List.set_cons_succ]
                go_wp2_with fail
                refine Calls.mono (HP.out k _ (by omega)) ?_
                rintro e w' ⟨rfl, rfl⟩
                refine hK _ _ (fun _ => hS) ?_; clear hK K
                refine wpAnyE_take (i := 7) (v := ?_) (listed' := #[true, true, true, true, true, true, true, true, false]) (by rfl) (by kernel_rfl) (by kernel_rfl) calm_put hS (by rfl) ?_ ?_
                rotate_left
                · intro W hW; clear hW; go_simp; try (with_reducible rfl)
                simp only [Act.put, List.getElem_toArray, List.getElem_cons_succ, List.getElem_cons_zero, List.setIfInBounds_toArray, List.set_cons_zero, List.set_cons_succ]
                refine wpAnyE_take (i := 8) (v := ?_) (listed' := #[true, true, true, true, true, true, true, true, true]) (by rfl) (by kernel_rfl) (by kernel_rfl) calm_put hS (by rfl) ?_ ?_
                rotate_left
                · intro W hW; clear hW; go_simp; try (with_reducible rfl)
                simp only [Act.put, List.getElem_toArray, List.getElem_cons_succ, List.getElem_cons_zero, List.setIfInBounds_toArray, List.set_cons_zero, List.set_cons_succ]
                refine wpAnyE_done (by kernel_rfl) ?_ _
                refine calm_normal ?_
                go_wp2_with fail
                go_round
                case rel => exact ⟨k + 1, by omega, by go_num, (HX6.out.kept (Kept.refl w6).drew).1, (Kept.refl w6).drew.block HB6.out⟩
                case measure => simp [intOf] <;> omega
            · obtain rfl : k = n := by omega
              have hall : ∀ j, j < k → tkF tk k j = true := fun j h => tkF_lt tk k j h
              have HALL := Lib.hid hall; clear hall
              have HTK := Lib.hid (xo_Take HX.out HT.out 0)
              go_wp2_with fail
              refine Calls.mono HTK.out ?_
              rintro e w5 ⟨v, E5, rfl, ht, hX5, r5⟩
              obtain ⟨rfl, rfl⟩ := ht.full (eL_0 k _) HALL.out
              clear ht r5 HTK
              simp only [extV, exV]
              go_wp2_with (refine stop_at (o := ⟨some 15, _, _, _, _, _⟩) ?_)
              refine Stop.mk ?_
              refine wpList_new_agg rfl rfl _ _ rfl rfl ty_ext [Value.int .i64 0, .int .i64 0] zero_ext rfl [Value.int .i64 0, .int .i64 0] rfl rfl (by simp [Value.oneCell']) rfl ?_
              intro w6 hz6 hs6 hk6
              have HX6 := Lib.hid (hX5.kept hk6).1
              clear hz6 hs6 hk6 hX5
              have hU := xo_Used HX6.out 0
              rw [show usedX (eL k (tkF tk k)) 0 = k from (used_at (eL_0 k _)).trans (cnt_all k _ HALL.out)] at hU
              have hR := xo_Room HX6.out 0
              rw [show roomX (eL k (tkF tk k)) 0 = 0 from by unfold roomX; rw [eL_0]; show k - cntS k _ = 0; rw [cnt_all k _ HALL.out]; try omega] at hR
              have HU := Lib.hid hU; clear hU
              have HR := Lib.hid hR; clear hR
              go_wp2_with fail
              refine Calls.mono HU.out ?_
              rintro e w' ⟨rfl, rfl⟩
              go_wp2_with fail
              refine Calls.mono HR.out ?_
              rintro e w' ⟨rfl, rfl⟩
              go_wp2_with fail
              go_ret
              exact ⟨rfl, HX6.out.keeps⟩
end Go.Proofs.YtpnpconphpbcaaaDoor
