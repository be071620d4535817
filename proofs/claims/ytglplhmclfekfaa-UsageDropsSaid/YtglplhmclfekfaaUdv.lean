/- UsageDrops: the walk (gen_udv.py). -/
import Derived.Test.YtglplhmclfekfaaUcl
import Derived.Test.YtglplhmclfekfaaUgr
import Derived.Test.YtglplhmclfekfaaUsl
import Derived.Test.YtglplhmclfekfaaSrc
import Derived.Deep.CutBlock
namespace Go.Proofs.Ytglplhmclfekfaa
open Go.RowKit Go.ChangeMaps Go.MapKept
set_option linter.unusedVariables false
set_option linter.unusedSimpArgs false

theorem TabAt.of_same {W W' : World} {p : Nat} {S : Nat → Prop} {T : Tab} (H : TabAt W p S T) (hs : SameR S W W') : TabAt W' p S T := by
  obtain ⟨g, h, blk, H⟩ := H
  obtain ⟨m1, h1⟩ := H.gm
  obtain ⟨m2, h2⟩ := H.fm
  refine ⟨g, h, blk, (hs _ H.sp).trans H.top, ⟨m1, h1.same (hs _ H.sg)⟩, ⟨m2, h2.same (hs _ H.sh)⟩, fun n l hl => (hs _ (H.own n (by simp [hl]))).trans (H.row n l hl), H.own, H.inj, H.gh, H.sp, H.sg, H.sh, fun k hk => ?_⟩
  have h3 := H.slt k hk
  have h4 := hs k hk
  rw [Array.getElem?_eq_getElem h3] at h4
  exact (Array.getElem?_eq_some_iff.1 h4).1
section
variable {w : World} {p : Nat} {S : Nat → Prop} {T : Tab}
set_option maxHeartbeats 1000000
set_option maxRecDepth 100000
theorem tab_Put_nog (H : TabAt w p S T) (n s b : Int) (hn : T.g n = none) :
    Calls Try.prog 28 #[.pointer (some ⟨p, 0, none⟩), .int .i64 n, .int .i64 s, .int .i64 b] w fun e w' => e = .returned (.int .i64 8) ∧ w = w' := by
  have HN := Lib.hid hn; clear hn
  go_enter Try.func28, Try.ntmps28
  go_wp2_with (go_at_call 90; refine (tab_in_none H n _ HN.out).mono ?_; rintro e w' ⟨rfl, rfl⟩)
  go_ret
  exact ⟨rfl, rfl⟩
theorem tab_Slots_none (H : TabAt w p S T) (n : Int) (hn : T.g n = none) :
    Calls Try.prog 30 #[.pointer (some ⟨p, 0, none⟩), .int .i64 n] w fun e w' => e = .returned (.int .i64 0) ∧ w = w' := by
  obtain ⟨g, h, blk, H⟩ := H
  have c0 := H.c0
  have HN := Lib.hid hn; clear hn
  go_enter Try.func30, Try.ntmps30
  go_wp2_with (at_lookup; refine wpList_look_none H HN.out rfl _ _ rfl rfl rfl ?_)
  go_ret
  exact ⟨rfl, rfl⟩
end
theorem Own.tab {w0 W : World} {R : Nat → Prop} {p : Nat} {T : Tab} (h : Own w0 R W p T) : ∃ S, TabAt W p S T := by
  obtain ⟨S, h, _⟩ := h; exact ⟨S, h⟩
/-- beside its clone -/
theorem Own.beside {w0 W W' : World} {R : Nat → Prop} {p p' : Nat} {T T' : Tab} {S' : Nat → Prop} (h : Own w0 R W p T) (hk : Kept W W') (hc : TabAt W' p' S' T') (hs : ∀ k, S' k → W.heap.size ≤ k) : Own w0 S' W' p T := by
  obtain ⟨S, h1, h2, h3, h4⟩ := h
  refine ⟨S, h1.kept hk, h2.trans hk, h3, fun k hk' => ⟨hc.slt k hk', fun hS => ?_⟩⟩
  have := h1.slt k hS
  have := hs k hk'
  omega
theorem row_len {W : World} {base e n : Nat} {v : Value} {xs : List Value} (h : W.ownsRow base e 1 v n xs) : ∃ ao cap, v = .slice ao n cap := by
  rcases h.2 with ⟨rfl, rfl⟩ | ⟨g, cap, cur, rfl, _⟩
  · exact ⟨_, _, rfl⟩
  · exact ⟨_, _, rfl⟩
section
set_option maxHeartbeats 4000000
set_option maxRecDepth 100000
theorem law_drops (v : Value) (l : List Op5) (a1 : Int) (w : World) (hs : OSrc w v l) :
    Calls Try.prog 5 #[v, .int .i64 a1] w fun e w' => e = .returned (.bool true) ∧ Kept w w' := by
  have HS := Lib.hid hs
  obtain ⟨oa, cap, rfl, _, hmax, _⟩ := hs
  unfold maxLen at hmax
  obtain ⟨who, hwho, hwl⟩ := and_i64 a1 2 (by decide) (m := 3) (by decide)
  have hw4 : who < 4 := hwl
  clear hwl
  go_enter Try.func5, Try.ntmps5
  go_wp2_with fail
  refine Calls.mono (usage_shown _) ?_
  rintro e w1 ⟨rfl, hk1⟩
  have HK1 := Lib.hid hk1
  clear hk1
  go_wp2_with fail
  refine Calls.mono (own_New w _ HK1.out) ?_
  rintro e w2 ⟨p, rfl, h2, _⟩
  have H2 : Hid (Own w (fun _ => False) w2 p (opensT (List.replicate 0 16))) := Lib.hid (by have := h2.less (R' := fun _ => False) (fun _ h => h.elim); rwa [← opensT_nil] at this)
  clear h2 HK1
  go_wp2
  go_loopw [7] (fun i wr => ∃ k : Nat, k ≤ 4 ∧ i = .int .i64 k ∧ Hid (Own w (fun _ => False) wr p (opensT (List.replicate k 16)))) (fun i _ => 4 - (intOf i).toNat)
  case atStart => exact ⟨0, by omega, rfl, H2⟩
  case round =>
    clear H2
    obtain ⟨k, hk, rfl, HO⟩ := hrel
    by_cases hlt : k < 4
    · have hop := own_Open HO.out (k : Int) 16 (by omega) (by decide) (by decide) (by have := opensT_none (List.replicate k 16); rwa [List.length_replicate] at this)
      have hnx := opensT_next (List.replicate k 16) 16
      rw [List.length_replicate, ← List.replicate_succ'] at hnx
      rw [hnx] at hop
      have HOP := Lib.hid hop
      clear hop hnx HO
      go_wp2_with fail
      refine Calls.mono HOP.out ?_
      rintro e w3 ⟨rfl, h3, _⟩
      have H3 := Lib.hid h3
      clear h3 HOP
      go_wp2
      go_roundw
      case rel => exact ⟨k + 1, by omega, by go_num, H3⟩
      case measure => simp [intOf]; omega
    · have hk4 : k = 4 := by omega
      have hge : 4 ≤ k := by omega
      have HO4 : Hid (Own w (fun _ => False) _ p (opensT (List.replicate 4 16))) := Lib.hid (by have := HO.out; rwa [hk4] at this)
      have HV4 := Lib.hid DV.opens
      generalize opensT (List.replicate 4 16) = T4 at *
      clear hk4 HO hlt
      obtain ⟨wa, rfl⟩ : ∃ wa, wa = wr := ⟨_, rfl⟩
      go_upto_block 2 with fail
      go_cut [] (fun wc => ∃ T, Hid (DV T) ∧ Hid (Own w (fun _ => False) wc p T))
      case first =>
        go_wp2
        go_loopw [8] (fun i wr => ∃ (q : Nat) (T : Tab), q ≤ l.length ∧ i = .int .i64 q ∧ Hid (DV T) ∧ Hid (Own w (fun _ => False) wr p T)) (fun i _ => l.length - (intOf i).toNat)
        case atStart => exact ⟨0, T4, by omega, rfl, HV4, HO4⟩
        case round =>
          clear HV4 HO4
          obtain ⟨q, T, hq, rfl, HV, HO⟩ := hrel
          by_cases hc : q < l.length ∧ q < 100
          · obtain ⟨hql, hq2⟩ := hc
            obtain ⟨b, off, rfl, c0, c1, c2, c3⟩ := HS.out.at q hql
            obtain ⟨y, hy, hyl⟩ := and_i64 l[q].group 2 (by decide) (m := 3) (by decide)
            obtain ⟨s, hsb, hsl⟩ := and_i64 l[q].slot 4 (by decide) (m := 15) (by decide)
            obtain ⟨z, hz, hzl⟩ := and_i64 l[q].block 5 (by decide) (m := 31) (by decide)
            have hy4 : y < 4 := hyl
            have hs16 : s < 16 := hsl
            clear hyl hsl hzl c0
            generalize l[q].group = xg at *
            generalize l[q].slot = xs at *
            generalize l[q].block = xb at *
            have hS0K : ∀ W, Kept w W → W.cell? ⟨b, off + q * 5 + 1, none⟩ = some (Value.int .i64 xg) ∧ W.cell? ⟨b, off + q * 5 + 2, none⟩ = some (Value.int .i64 xs) ∧ W.cell? ⟨b, off + q * 5 + 3, none⟩ = some (Value.int .i64 xb) := fun W hk => ⟨hk.cell' c1, hk.cell' c2, hk.cell' c3⟩
            have HS0K := Lib.hid hS0K
            have hod := (HO.out.kept ((Kept.refl _).drew)).1
            have hS0 := hS0K _ hod.keeps
            have HCA := Lib.hid (dv_Put hod HV.out y hy4 s hs16 (z : Int) (by omega))
            clear c1 c2 c3 hod hS0K
            go_upto_region 13 with fail
            have hS := hS0
            refine wp_region_calm ?_
            refine wp_region_E (fun (W : World) => W.cell? ⟨b, off + q * 5 + 1, none⟩ = some (Value.int .i64 xg) ∧ W.cell? ⟨b, off + q * 5 + 2, none⟩ = some (Value.int .i64 xs) ∧ W.cell? ⟨b, off + q * 5 + 3, none⟩ = some (Value.int .i64 xb)) 100 (by kernel_rfl) ?_
            refine wpAnyE_take (i := 0) (v := ?_) (listed' := #[true, false, false, false, false, false, false, false, false, false, false, false, false, false, false, false, false, false, false, false]) (by rfl) (by kernel_rfl) (by kernel_rfl) calm_put hS (by rfl) ?_ ?_
            rotate_left
            · intro W hW; clear hW; go_simp; try (with_reducible rfl)
            simp only [Act.put, List.getElem_toArray, List.getElem_cons_succ, List.getElem_cons_zero, List.setIfInBounds_toArray, List.set_cons_zero, List.set_cons_succ]
            refine wpAnyE_take (i := 1) (v := ?_) (listed' := #[true, true, false, false, false, false, false, false, false, false, false, false, false, false, false, false, false, false, false, false]) (by rfl) (by kernel_rfl) (by kernel_rfl) calm_put hS (by rfl) ?_ ?_
            rotate_left
            · intro W hW; clear hW; go_simp; try (with_reducible rfl)
            simp only [Act.put, List.getElem_toArray, List.getElem_cons_succ, List.getElem_cons_zero, List.setIfInBounds_toArray, List.set_cons_zero, List.set_cons_succ]
            refine wpAnyE_take (i := 2) (v := ?_) (listed' := #[true, true, true, false, false, false, false, false, false, false, false, false, false, false, false, false, false, false, false, false]) (by rfl) (by kernel_rfl) (by kernel_rfl) calm_put hS (by rfl) ?_ ?_
            rotate_left
            · intro W hW; clear hW; go_simp; try (with_reducible rfl)
            simp only [Act.put, List.getElem_toArray, List.getElem_cons_succ, List.getElem_cons_zero, List.setIfInBounds_toArray, List.set_cons_zero, List.set_cons_succ]
            refine wpAnyE_take (i := 3) (v := ?_) (listed' := #[true, true, true, true, false, false, false, false, false, false, false, false, false, false, false, false, false, false, false, false]) (by rfl) (by kernel_rfl) (by kernel_rfl) calm_put hS (by rfl) ?_ ?_
            rotate_left
            · intro W hW; clear hW; go_simp; try (with_reducible rfl)
            simp only [Act.put, List.getElem_toArray, List.getElem_cons_succ, List.getElem_cons_zero, List.setIfInBounds_toArray, List.set_cons_zero, List.set_cons_succ]
            refine wpAnyE_take (i := 4) (v := ?_) (listed' := #[true, true, true, true, true, false, false, false, false, false, false, false, false, false, false, false, false, false, false, false]) (by rfl) (by kernel_rfl) (by kernel_rfl) calm_put hS (by rfl) ?_ ?_
            rotate_left
            · intro W hW; clear hW; go_simp; try (with_reducible rfl)
            simp only [Act.put, List.getElem_toArray, List.getElem_cons_succ, List.getElem_cons_zero, List.setIfInBounds_toArray, List.set_cons_zero, List.set_cons_succ]
            refine wpAnyE_take (i := 5) (v := ?_) (listed' := #[true, true, true, true, true, true, false, false, false, false, false, false, false, false, false, false, false, false, false, false]) (by rfl) (by kernel_rfl) (by kernel_rfl) calm_put hS (by rfl) ?_ ?_
            rotate_left
            · intro W hW; obtain ⟨hc0, hc1, hc2⟩ := hW; go_simp; try (with_reducible rfl)
            simp only [Act.put, List.getElem_toArray, List.getElem_cons_succ, List.getElem_cons_zero, List.setIfInBounds_toArray, List.set_cons_zero, List.set_cons_succ]
            refine wpAnyE_take (i := 6) (v := .int .i64 (y : Int)) (listed' := #[true, true, true, true, true, true, true, false, false, false, false, false, false, false, false, false, false, false, false, false]) (by rfl) (by kernel_rfl) (by kernel_rfl) calm_put hS (by rfl) ?_ ?_
            · intro W hW; clear hW; go_simp; try (with_reducible rfl)
            simp only [Act.put, List.getElem_toArray, List.getElem_cons_succ, List.getElem_cons_zero, List.setIfInBounds_toArray, List.set_cons_zero, List.set_cons_succ]
            refine wpAnyE_take (i := 7) (v := ?_) (listed' := #[true, true, true, true, true, true, true, true, false, false, false, false, false, false, false, false, false, false, false, false]) (by rfl) (by kernel_rfl) (by kernel_rfl) calm_put hS (by rfl) ?_ ?_
            rotate_left
            · intro W hW; clear hW; go_simp; try (with_reducible rfl)
            simp only [Act.put, List.getElem_toArray, List.getElem_cons_succ, List.getElem_cons_zero, List.setIfInBounds_toArray, List.set_cons_zero, List.set_cons_succ]
            refine wpAnyE_take (i := 8) (v := ?_) (listed' := #[true, true, true, true, true, true, true, true, true, false, false, false, false, false, false, false, false, false, false, false]) (by rfl) (by kernel_rfl) (by kernel_rfl) calm_put hS (by rfl) ?_ ?_
            rotate_left
            · intro W hW; clear hW; go_simp; try (with_reducible rfl)
            simp only [Act.put, List.getElem_toArray, List.getElem_cons_succ, List.getElem_cons_zero, List.setIfInBounds_toArray, List.set_cons_zero, List.set_cons_succ]
            refine wpAnyE_take (i := 9) (v := ?_) (listed' := #[true, true, true, true, true, true, true, true, true, true, false, false, false, false, false, false, false, false, false, false]) (by rfl) (by kernel_rfl) (by kernel_rfl) calm_put hS (by rfl) ?_ ?_
            rotate_left
            · intro W hW; clear hW; go_simp; try (with_reducible rfl)
            simp only [Act.put, List.getElem_toArray, List.getElem_cons_succ, List.getElem_cons_zero, List.setIfInBounds_toArray, List.set_cons_zero, List.set_cons_succ]
            refine wpAnyE_take (i := 10) (v := ?_) (listed' := #[true, true, true, true, true, true, true, true, true, true, true, false, false, false, false, false, false, false, false, false]) (by rfl) (by kernel_rfl) (by kernel_rfl) calm_put hS (by rfl) ?_ ?_
            rotate_left
            · intro W hW; clear hW; go_simp; try (with_reducible rfl)
            simp only [Act.put, List.getElem_toArray, List.getElem_cons_succ, List.getElem_cons_zero, List.setIfInBounds_toArray, List.set_cons_zero, List.set_cons_succ]
            refine wpAnyE_take (i := 11) (v := ?_) (listed' := #[true, true, true, true, true, true, true, true, true, true, true, true, false, false, false, false, false, false, false, false]) (by rfl) (by kernel_rfl) (by kernel_rfl) calm_put hS (by rfl) ?_ ?_
            rotate_left
            · intro W hW; obtain ⟨hc0, hc1, hc2⟩ := hW; go_simp; try (with_reducible rfl)
            simp only [Act.put, List.getElem_toArray, List.getElem_cons_succ, List.getElem_cons_zero, List.setIfInBounds_toArray, List.set_cons_zero, List.set_cons_succ]
            refine wpAnyE_take (i := 12) (v := .int .i64 (s : Int)) (listed' := #[true, true, true, true, true, true, true, true, true, true, true, true, true, false, false, false, false, false, false, false]) (by rfl) (by kernel_rfl) (by kernel_rfl) calm_put hS (by rfl) ?_ ?_
            · intro W hW; clear hW; go_simp; try (with_reducible rfl)
            simp only [Act.put, List.getElem_toArray, List.getElem_cons_succ, List.getElem_cons_zero, List.setIfInBounds_toArray, List.set_cons_zero, List.set_cons_succ]
            refine wpAnyE_take (i := 13) (v := ?_) (listed' := #[true, true, true, true, true, true, true, true, true, true, true, true, true, true, false, false, false, false, false, false]) (by rfl) (by kernel_rfl) (by kernel_rfl) calm_put hS (by rfl) ?_ ?_
            rotate_left
            · intro W hW; clear hW; go_simp; try (with_reducible rfl)
            simp only [Act.put, List.getElem_toArray, List.getElem_cons_succ, List.getElem_cons_zero, List.setIfInBounds_toArray, List.set_cons_zero, List.set_cons_succ]
            refine wpAnyE_take (i := 14) (v := ?_) (listed' := #[true, true, true, true, true, true, true, true, true, true, true, true, true, true, true, false, false, false, false, false]) (by rfl) (by kernel_rfl) (by kernel_rfl) calm_put hS (by rfl) ?_ ?_
            rotate_left
            · intro W hW; clear hW; go_simp; try (with_reducible rfl)
            simp only [Act.put, List.getElem_toArray, List.getElem_cons_succ, List.getElem_cons_zero, List.setIfInBounds_toArray, List.set_cons_zero, List.set_cons_succ]
            refine wpAnyE_take (i := 15) (v := ?_) (listed' := #[true, true, true, true, true, true, true, true, true, true, true, true, true, true, true, true, false, false, false, false]) (by rfl) (by kernel_rfl) (by kernel_rfl) calm_put hS (by rfl) ?_ ?_
            rotate_left
            · intro W hW; clear hW; go_simp; try (with_reducible rfl)
            simp only [Act.put, List.getElem_toArray, List.getElem_cons_succ, List.getElem_cons_zero, List.setIfInBounds_toArray, List.set_cons_zero, List.set_cons_succ]
            refine wpAnyE_take (i := 16) (v := ?_) (listed' := #[true, true, true, true, true, true, true, true, true, true, true, true, true, true, true, true, true, false, false, false]) (by rfl) (by kernel_rfl) (by kernel_rfl) calm_put hS (by rfl) ?_ ?_
            rotate_left
            · intro W hW; clear hW; go_simp; try (with_reducible rfl)
            simp only [Act.put, List.getElem_toArray, List.getElem_cons_succ, List.getElem_cons_zero, List.setIfInBounds_toArray, List.set_cons_zero, List.set_cons_succ]
            refine wpAnyE_take (i := 17) (v := ?_) (listed' := #[true, true, true, true, true, true, true, true, true, true, true, true, true, true, true, true, true, true, false, false]) (by rfl) (by kernel_rfl) (by kernel_rfl) calm_put hS (by rfl) ?_ ?_
            rotate_left
            · intro W hW; obtain ⟨hc0, hc1, hc2⟩ := hW; go_simp; try (with_reducible rfl)
            simp only [Act.put, List.getElem_toArray, List.getElem_cons_succ, List.getElem_cons_zero, List.setIfInBounds_toArray, List.set_cons_zero, List.set_cons_succ]
            refine wpAnyE_take (i := 18) (v := .int .i64 (z : Int)) (listed' := #[true, true, true, true, true, true, true, true, true, true, true, true, true, true, true, true, true, true, true, false]) (by rfl) (by kernel_rfl) (by kernel_rfl) calm_put hS (by rfl) ?_ ?_
            · intro W hW; clear hW; go_simp; try (with_reducible rfl)
            simp only [Act.put, List.getElem_toArray, List.getElem_cons_succ, List.getElem_cons_zero, List.setIfInBounds_toArray, List.set_cons_zero, List.set_cons_succ]
            refine wpAnyE_one (i := 19) (listed' := #[true, true, true, true, true, true, true, true, true, true, true, true, true, true, true, true, true, true, true, true]) (by rfl) (by kernel_rfl) (by kernel_rfl) (by rfl) (fun K hK => ?_)
            simp only [Act.put, List.getElem_toArray, List.getElem_cons_succ, List.getElem_cons_zero, List.setIfInBounds_toArray, List.set_cons_zero, List.set_cons_succ]
            go_wp2_with fail
            refine Calls.mono HCA.out ?_
            rintro e w5 ⟨E, T5, rfl, hv5, ho5, _⟩
            have HV5 := Lib.hid hv5
            have HO5 := Lib.hid ho5
            clear hv5 ho5 HCA
            have hS := HS0K.out w5 HO5.out.keeps
            refine hK _ _ (fun _ => hS) ?_; clear hK K
            refine wpAnyE_done (by kernel_rfl) ?_ _
            refine calm_normal ?_
            clear hS
            go_wp2
            go_roundw
            case rel => exact ⟨q + 1, T5, by omega, by go_num, HV5, HO5⟩
            case measure => simp [intOf]; omega
          · have hkk : l.length ≤ q ∨ (q < l.length ∧ 100 ≤ q) := by omega
            clear hc
            rcases hkk with hkk | ⟨hkk, h2⟩
            all_goals
              go_wp2
              go_meet
              case rel => exact ⟨T, HV, HO⟩
      case rest =>
        clear HV4 HO4 HS
        obtain ⟨T, HV, HO⟩ := hcut
        obtain ⟨lw, hlw, hlw16⟩ := HV.out.g who hw4
        have HLW := Lib.hid hlw
        have HLL := Lib.hid (HV.out.ok.len _ _ hlw)
        clear hlw hlw16
        obtain ⟨S, hS1⟩ := HO.out.tab
        have HCL := Lib.hid (tab_Clone hS1 HV.out.ok.len)
        clear hS1
        go_wp2_with (refine stop_at (o := ⟨some 62, _, _, _, _, _⟩) ?_)
        refine Stop.mk ?_
        try simp only [hwho]
        go_wp2_with fail
        refine Calls.mono HCL.out ?_
        rintro e w3 ⟨p', S', rfl, hc3, hk3, hs3⟩
        have HO3 := Lib.hid (HO.out.beside hk3 hc3 hs3)
        have HC3 := Lib.hid hc3
        clear hc3 hk3 hs3 HCL HO
        go_wp2_with fail
        refine Calls.mono (own_Drop HO3.out (who : Int) HLW.out) ?_
        rintro e w4 ⟨rfl, ho4, hr4⟩
        have HO4 := Lib.hid ho4
        have HC4 := Lib.hid (HC3.out.of_same hr4)
        have HND := Lib.hid (DV.drop_none (T := T) (who : Int))
        clear ho4 hr4 HO3 HC3
        go_wp2_with fail
        refine Calls.mono (own_Drop_none HO4.out (who : Int) HND.out) ?_
        rintro e w5 ⟨rfl, ho5, hr5, hk5⟩
        have HO5 := Lib.hid ho5
        have HC5 := Lib.hid (HC4.out.kept hk5)
        clear ho5 hr5 hk5 HO4 HC4
        obtain ⟨S5, hS5⟩ := HO5.out.tab
        have HP5 := Lib.hid (tab_Put_nog hS5 (who : Int) 0 1 HND.out)
        have HSL5 := Lib.hid (tab_Slots_none hS5 (who : Int) HND.out)
        have HG5 := Lib.hid (tab_Groups hS5 [0, 1, 2, 3] (fun n hn => by
          have h := (HV.out.left (who : Int) n).1 hn
          have : n = 0 ∨ n = 1 ∨ n = 2 ∨ n = 3 := by omega
          rcases this with rfl | rfl | rfl | rfl <;> exact ⟨by simp, by decide⟩) (by decide))
        clear hS5
        go_wp2_with fail
        refine Calls.mono HP5.out ?_
        rintro e w6 ⟨rfl, rfl⟩
        go_wp2_with fail
        refine Calls.mono HSL5.out ?_
        rintro e w6 ⟨rfl, rfl⟩
        go_wp2_with fail
        refine Calls.mono HG5.out ?_
        rintro e w6 ⟨vg, ks, rfl, hmem, hris, hrow, _, hk6⟩
        have hlen : ks.length = 3 := three_left (hris.imp fun h => by omega) (who := (who : Int)) ⟨by omega, by omega⟩ (fun m => by rw [hmem m]; exact HV.out.left _ m)
        obtain ⟨ao, cg, rfl⟩ := row_len hrow
        rw [hlen]
        have HO6 := Lib.hid (HO5.out.kept hk6).1
        have HC6 := Lib.hid (HC5.out.kept hk6)
        clear hmem hris hrow hk6 hlen HP5 HSL5 HG5 HO5 HC5
        go_wp2
        go_loopw [10] (fun i wr => ∃ q : Nat, q ≤ 32 ∧ i = .int .i64 q ∧ Hid (Own w S' wr p (T.drop (who : Int))) ∧ Hid (TabAt wr p' S' T)) (fun i _ => 32 - (intOf i).toNat)
        case atStart => exact ⟨0, by omega, rfl, HO6, HC6⟩
        case round =>
          clear HO6 HC6
          obtain ⟨q, hq, rfl, HO, HC⟩ := hrel
          by_cases hlt : q < 32
          · obtain ⟨r1, hr1⟩ : ∃ r1, T.f (q : Int) = r1 := ⟨_, rfl⟩
            obtain ⟨r2, hr2⟩ : ∃ r2, (T.drop (who : Int)).f (q : Int) = r2 := ⟨_, rfl⟩
            have hway : (r1 = none ∧ r2 = none) ∨ (∃ s : Int × Int, r1 = some s ∧ s.1 = (who : Int) ∧ r2 = none) ∨ ∃ s : Int × Int, r1 = some s ∧ s.1 ≠ (who : Int) ∧ r2 = some s := by
              rw [← hr2, ← hr1]
              unfold Tab.drop
              dsimp only
              cases hf : T.f (q : Int) with
              | none => exact .inl ⟨rfl, rfl⟩
              | some s =>
                dsimp only
                by_cases e : s.1 = (who : Int)
                · exact .inr (.inl ⟨s, rfl, e, if_pos e⟩)
                · exact .inr (.inr ⟨s, rfl, e, if_neg e⟩)
            have HF1 := Lib.hid (tab_Find HC.out (q : Int) r1 hr1)
            have HR2 := Lib.hid hr2
            clear hr1 hr2
            go_wp2_with fail
            refine Calls.mono HF1.out ?_
            rintro e w7 ⟨rfl, hk7⟩
            have HO7 := Lib.hid (HO.out.kept hk7).1
            have HC7 := Lib.hid (HC.out.kept hk7)
            clear hk7 HO HC HF1
            obtain ⟨S7, hS7⟩ := HO7.out.tab
            have HF2 := Lib.hid (tab_Find hS7 (q : Int) r2 HR2.out)
            clear hS7
            rcases hway with ⟨rfl, rfl⟩ | ⟨s, rfl, hsw, rfl⟩ | ⟨s, rfl, hsw, rfl⟩
            · unfold findV at *
              go_wp2_with fail
              refine Calls.mono HF2.out ?_
              rintro e w8 ⟨rfl, hk8⟩
              have HO8 := Lib.hid (HO7.out.kept hk8).1
              have HC8 := Lib.hid (HC7.out.kept hk8)
              clear hk8 HO7 HC7 HF2
              go_wp2
              go_roundw
              case rel => exact ⟨q + 1, by omega, by go_num, HO8, HC8⟩
              case measure => simp [intOf]; omega
            · unfold findV at *
              have hne : (s.1 != (who : Int)) = false := by simp [hsw]
              clear hsw
              go_wp2_with fail
              refine Calls.mono HF2.out ?_
              rintro e w8 ⟨rfl, hk8⟩
              have HO8 := Lib.hid (HO7.out.kept hk8).1
              have HC8 := Lib.hid (HC7.out.kept hk8)
              clear hk8 HO7 HC7 HF2
              go_wp2
              go_roundw
              case rel => exact ⟨q + 1, by omega, by go_num, HO8, HC8⟩
              case measure => simp [intOf]; omega
            · unfold findV at *
              have hne : (s.1 != (who : Int)) = true := by simp [hsw]
              clear hsw
              go_wp2_with fail
              refine Calls.mono HF2.out ?_
              rintro e w8 ⟨rfl, hk8⟩
              have HO8 := Lib.hid (HO7.out.kept hk8).1
              have HC8 := Lib.hid (HC7.out.kept hk8)
              clear hk8 HO7 HC7 HF2
              go_wp2
              go_roundw
              case rel => exact ⟨q + 1, by omega, by go_num, HO8, HC8⟩
              case measure => simp [intOf]; omega
          · have hge : 32 ≤ q := by omega
            clear hlt
            have hop := own_Open HO.out (who : Int) 16 (by omega) (by decide) (by decide) HND.out
            have HOP := Lib.hid hop
            clear hop
            go_wp2_with fail
            refine Calls.mono HOP.out ?_
            rintro e w7 ⟨rfl, ho7, hr7⟩
            have HO7 := Lib.hid ho7
            have HC7 := Lib.hid (HC.out.of_same hr7)
            clear ho7 hr7 HOP HO HC
            have hok := (HV.out.ok.drop (who : Int)).open_ HND.out (N := 16) (by decide) (by decide)
            have hct := own_Count HO7.out hok (who : Int) (l := List.replicate 16 (-1)) (by unfold Tab.open_; simp)
            have HCT : Hid (Calls Try.prog 33 #[.pointer (some ⟨p, 0, none⟩), .int .i64 (who : Int)] w7 fun e w' => e = .returned (.int .i64 0) ∧ Own w S' w' p ((T.drop (who : Int)).open_ (who : Int) 16) ∧ SameR S' w7 w' ∧ Kept w7 w') := Lib.hid hct
            clear hok hct
            go_wp2_with fail
            refine Calls.mono HCT.out ?_
            rintro e w8 ⟨rfl, _, _, hk8⟩
            have HO8 := Lib.hid (HO7.out.kept hk8).1
            have HC8 := Lib.hid (HC7.out.kept hk8)
            clear hk8 HCT HO7 HC7
            go_wp2_with fail
            refine Calls.mono (tab_Count HC8.out (who : Int) HLW.out HLL.out.1 HLL.out.2) ?_
            rintro e w9 ⟨rfl, hk9⟩
            have HO9 := Lib.hid (HO8.out.kept hk9).1
            have HC9 := Lib.hid (HC8.out.kept hk9)
            clear hk9 HO8 HC8
            go_wp2_with fail
            refine Calls.mono (tab_Blocks HC9.out (who : Int) HLW.out HLL.out.1 HLL.out.2) ?_
            rintro e w10 ⟨g10, c10, j10, rfl, _, _, hk10⟩
            have HK10 := Lib.hid (HO9.out.keeps.trans hk10)
            clear hk10 HO9 HC9
            go_wp2
            go_ret
            exact ⟨rfl, HK10.out⟩
end
end Go.Proofs.Ytglplhmclfekfaa
