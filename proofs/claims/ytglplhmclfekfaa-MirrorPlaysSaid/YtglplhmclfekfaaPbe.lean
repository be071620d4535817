/- law12: MirrorPlays, the walk (gen_mplays.py). -/
import Derived.Test.YtglplhmclfekfaaEcA
import Derived.Test.YtglplhmclfekfaaEaA
namespace Go.Proofs.Ytglplhmclfekfaa
open Go.RowKit
set_option linter.unusedVariables false
set_option linter.unusedSimpArgs false

set_option maxHeartbeats 4000000
set_option maxRecDepth 100000
theorem law_plays12 (vl : Value) (l : List OpM) (w : World) (hs : KSrc w vl l) :
    Calls Try.prog 6 #[vl] w fun e w' => e = .returned (.bool true) ∧ Kept w w' := by
  have HSRC0 := Lib.hid hs
  obtain ⟨oa, cap, rfl, hlc, hcm, _⟩ := hs
  have HSRC := HSRC0
  clear HSRC0
  go_enter Try.func6, Try.ntmps6
  go_wp2_with fail
  refine Calls.mono (m_shown w) ?_
  rintro e w1 ⟨rfl, hk1⟩
  have HK1 := Lib.hid hk1
  clear hk1
  go_wp2_with fail
  refine Calls.mono (m_laid 4 (by decide) w w1 (fun _ => False) HK1.out (fun _ h => h.elim)) ?_
  rintro e w2 ⟨p, rfl, hb, _⟩
  have HB2 := Lib.hid hb
  clear hb HK1
  go_wp2_with fail
  refine Calls.mono (br_New2 12 HB2.out) ?_
  rintro e w3 ⟨q, rfl, hb⟩
  have HP3 := Lib.hid hb
  clear hb HB2
  go_wp2
  go_loopw [6] (fun i wr => ∃ k : Nat, k ≤ 4 ∧ i = .int .i64 k ∧ Hid (BR w (fun _ => False) wr p (addZ 12 4) q (addZ 12 k).ref)) (fun i _ => 4 - (intOf i).toNat)
  case atStart => exact ⟨0, Nat.zero_le _, rfl, HP3⟩
  case round =>
    clear HP3
    obtain ⟨k, hk, rfl, HP⟩ := hrel
    by_cases hlt : k < 4
    · go_wp2_with fail
      refine Calls.mono (br_Add2 (z := 12) HP.out (by omega) (by decide)) ?_
      rintro e w4 ⟨rfl, hb, _⟩
      have HP4 := Lib.hid hb
      clear hb HP
      go_wp2
      go_roundw
      case rel => exact ⟨k + 1, hlt, by go_num, HP4⟩
      case measure => simp [intOf]; omega
    · rw [show k = 4 by omega] at HP
      have HSA : Hid (Sane (addZ 12 4) 4 12 0) := Lib.hid (Sane.addZ (by decide) (by decide))
      generalize addZ 12 4 = T0 at *
      go_wp2
      go_loopw [7] (fun i wr => ∃ (k : Nat) (T : BankT), k ≤ l.length ∧ k ≤ 150 ∧ i = .int .i64 k ∧ Hid (BR w (fun _ => False) wr p T q T.ref) ∧ Hid (Sane T 4 12 (2 * k))) (fun i _ => l.length - (intOf i).toNat)
      case atStart => exact ⟨0, T0, Nat.zero_le _, Nat.zero_le _, rfl, HP, HSA⟩
      case round =>
        clear HP HSA
        obtain ⟨k, T, hk, hk150, rfl, HP, HSA⟩ := hrel
        by_cases hgo : k < l.length ∧ k < 150
        · obtain ⟨hlt, h150⟩ := hgo
          obtain ⟨b, off, rfl, hcs, g1⟩ := (HSRC.out.kept HP.out.keeps).at k hlt
          have HG1 := Lib.hid g1
          have HCS := Lib.hid hcs
          generalize l[k] = o at *
          clear hcs g1
          obtain ⟨kd, n, x0, x1, y0, y1, m⟩ := o
          simp only at HCS HG1
          go_wp2_with (refine stop_at (o := ⟨some 40, _, _, _, _, _⟩) ?_)
          refine Stop.mk ?_
          refine wpList_load_agg rfl _ rfl ty_opM b (off + k * 7) rfl _ HCS.out rfl ?_
          go_wp2_with fail
          refine Calls.mono (law_does12 HP.out HSA.out (by omega) kd n x0 x1 y0 y1 m (by have h9 := HG1.out; omega) (by have h9 := HG1.out; omega)) ?_
          rintro e w7 ⟨rfl, T', hp, hsa, _⟩
          have HP7 := Lib.hid hp
          have HSA7 := Lib.hid (hsa.le (c' := 2 * (k + 1)) (by omega))
          clear hp hsa HP HSA HCS HG1
          have HU := Lib.hid (HSA7.out.use (by decide) (by omega))
          have HDO := Lib.hid (HSA7.out.doc (by decide) (by omega))
          obtain ⟨oa', cap', hc1, hc2, hc3⟩ := HP7.out.cells
          have HWR := Lib.hid (bk_Writes (HP7.out.kept (Kept.refl w7).drew).disk)
          have HUP := Lib.hid (bk_Up (HP7.out.kept (Kept.refl w7).drew).disk)
          have HLO := Lib.hid ((bk_Loose (HP7.out.kept (Kept.refl w7).drew).disk HU.out).mono (R' := fun e w' => e = .returned (.int .i64 (T'.looseN : Int)) ∧ Kept w7.drew w') fun e w' hh => ⟨hh.1, hh.2.2.2⟩)
          obtain ⟨wn, hwn⟩ : ∃ x, x = T'.writes := ⟨_, rfl⟩
          obtain ⟨dn, hdn0⟩ : ∃ x, x = T'.down := ⟨_, rfl⟩
          obtain ⟨N, hN⟩ : ∃ x, x = T'.looseN := ⟨_, rfl⟩
          rw [← hwn] at HWR hc3
          rw [← hdn0] at HUP hc2
          rw [← hN] at HLO hc1
          clear hwn hdn0 hN
          have hdn : ((!dn) == dn) = false := by cases dn <;> rfl
          go_upto_region 14 with fail
          have hS : w7.drew.cell? ⟨q, 1, none⟩ = some (.slice oa' N cap') ∧ w7.drew.cell? ⟨q, 2, none⟩ = some (.bool dn) ∧ w7.drew.cell? ⟨q, 3, none⟩ = some (.int .i64 wn) := ⟨hc1, hc2, hc3⟩
          clear hc1 hc2 hc3
          refine wp_region_calm ?_
          refine wp_region_E (fun W => W.cell? ⟨q, 1, none⟩ = some (.slice oa' N cap') ∧ W.cell? ⟨q, 2, none⟩ = some (.bool dn) ∧ W.cell? ⟨q, 3, none⟩ = some (.int .i64 wn)) 100 (by kernel_rfl) ?_
          refine wpAnyE_take (i := 0) (v := ?_) (listed' := #[true, false, false, false, false, false, false, false, false, false, false, false, false, false, false, false, false, false, false, false, false, false, false, false, false, false, false, false, false, false]) (by rfl) (by kernel_rfl) (by kernel_rfl) calm_put hS (by rfl) ?_ ?_
          rotate_left
          · intro W hW; clear hW; go_simp; try (with_reducible rfl)
          simp only [Act.put, List.getElem_toArray, List.getElem_cons_succ, List.getElem_cons_zero, List.setIfInBounds_toArray, List.set_cons_zero, List.set_cons_succ]
          refine wpAnyE_take (i := 1) (v := ?_) (listed' := #[true, true, false, false, false, false, false, false, false, false, false, false, false, false, false, false, false, false, false, false, false, false, false, false, false, false, false, false, false, false]) (by rfl) (by kernel_rfl) (by kernel_rfl) calm_put hS (by rfl) ?_ ?_
          rotate_left
          · intro W hW; clear hW; go_simp; try (with_reducible rfl)
          simp only [Act.put, List.getElem_toArray, List.getElem_cons_succ, List.getElem_cons_zero, List.setIfInBounds_toArray, List.set_cons_zero, List.set_cons_succ]
          refine wpAnyE_take (i := 2) (v := ?_) (listed' := #[true, true, true, false, false, false, false, false, false, false, false, false, false, false, false, false, false, false, false, false, false, false, false, false, false, false, false, false, false, false]) (by rfl) (by kernel_rfl) (by kernel_rfl) calm_put hS (by rfl) ?_ ?_
          rotate_left
          · intro W hW; clear hW; go_simp; try (with_reducible rfl)
          simp only [Act.put, List.getElem_toArray, List.getElem_cons_succ, List.getElem_cons_zero, List.setIfInBounds_toArray, List.set_cons_zero, List.set_cons_succ]
          refine wpAnyE_take (i := 3) (v := ?_) (listed' := #[true, true, true, true, false, false, false, false, false, false, false, false, false, false, false, false, false, false, false, false, false, false, false, false, false, false, false, false, false, false]) (by rfl) (by kernel_rfl) (by kernel_rfl) calm_put hS (by rfl) ?_ ?_
          rotate_left
          · intro W hW; clear hW; go_simp; try (with_reducible rfl)
          simp only [Act.put, List.getElem_toArray, List.getElem_cons_succ, List.getElem_cons_zero, List.setIfInBounds_toArray, List.set_cons_zero, List.set_cons_succ]
          refine wpAnyE_take (i := 5) (v := ?_) (listed' := #[true, true, true, true, false, true, false, false, false, false, false, false, false, false, false, false, false, false, false, false, false, false, false, false, false, false, false, false, false, false]) (by rfl) (by kernel_rfl) (by kernel_rfl) calm_put hS (by rfl) ?_ ?_
          rotate_left
          · intro W hW; clear hW; go_simp; try (with_reducible rfl)
          simp only [Act.put, List.getElem_toArray, List.getElem_cons_succ, List.getElem_cons_zero, List.setIfInBounds_toArray, List.set_cons_zero, List.set_cons_succ]
          refine wpAnyE_take (i := 6) (v := ?_) (listed' := #[true, true, true, true, false, true, true, false, false, false, false, false, false, false, false, false, false, false, false, false, false, false, false, false, false, false, false, false, false, false]) (by rfl) (by kernel_rfl) (by kernel_rfl) calm_put hS (by rfl) ?_ ?_
          rotate_left
          · intro W hW; clear hW; go_simp; try (with_reducible rfl)
          simp only [Act.put, List.getElem_toArray, List.getElem_cons_succ, List.getElem_cons_zero, List.setIfInBounds_toArray, List.set_cons_zero, List.set_cons_succ]
          refine wpAnyE_take (i := 7) (v := ?_) (listed' := #[true, true, true, true, false, true, true, true, false, false, false, false, false, false, false, false, false, false, false, false, false, false, false, false, false, false, false, false, false, false]) (by rfl) (by kernel_rfl) (by kernel_rfl) calm_put hS (by rfl) ?_ ?_
          rotate_left
          · intro W hW; clear hW; go_simp; try (with_reducible rfl)
          simp only [Act.put, List.getElem_toArray, List.getElem_cons_succ, List.getElem_cons_zero, List.setIfInBounds_toArray, List.set_cons_zero, List.set_cons_succ]
          refine wpAnyE_take (i := 8) (v := ?_) (listed' := #[true, true, true, true, false, true, true, true, true, false, false, false, false, false, false, false, false, false, false, false, false, false, false, false, false, false, false, false, false, false]) (by rfl) (by kernel_rfl) (by kernel_rfl) calm_put hS (by rfl) ?_ ?_
          rotate_left
          · intro W hW; obtain ⟨c1, c2, c3⟩ := hW; go_simp; try (with_reducible rfl)
          simp only [Act.put, List.getElem_toArray, List.getElem_cons_succ, List.getElem_cons_zero, List.setIfInBounds_toArray, List.set_cons_zero, List.set_cons_succ]
          refine wpAnyE_one (i := 4) (listed' := #[true, true, true, true, true, true, true, true, true, false, false, false, false, false, false, false, false, false, false, false, false, false, false, false, false, false, false, false, false, false]) (by rfl) (by kernel_rfl) (by kernel_rfl) (by rfl) (fun K hK => ?_)
          simp only [Act.put, List.getElem_toArray, List.getElem_cons_succ, List.getElem_cons_zero, List.setIfInBounds_toArray, List.set_cons_zero, List.set_cons_succ]
          go_wp2_with fail
          refine Calls.mono HWR.out ?_
          rintro e w8 ⟨rfl, rfl⟩
          refine hK _ _ (fun _ => hS) ?_; clear hK K
          refine wpAnyE_take (i := 9) (v := .bool false) (listed' := #[true, true, true, true, true, true, true, true, true, true, false, false, false, false, false, false, false, false, false, false, false, false, false, false, false, false, false, false, false, false]) (by rfl) (by kernel_rfl) (by kernel_rfl) calm_put hS (by rfl) ?_ ?_
          · intro W hW; clear hW; go_simp; try simp [hdn]
          simp only [Act.put, List.getElem_toArray, List.getElem_cons_succ, List.getElem_cons_zero, List.setIfInBounds_toArray, List.set_cons_zero, List.set_cons_succ]
          refine wpAnyE_take (i := 10) (v := ?_) (listed' := #[true, true, true, true, true, true, true, true, true, true, true, false, false, false, false, false, false, false, false, false, false, false, false, false, false, false, false, false, false, false]) (by rfl) (by kernel_rfl) (by kernel_rfl) calm_put hS (by rfl) ?_ ?_
          rotate_left
          · intro W hW; clear hW; go_simp; try (with_reducible rfl)
          simp only [Act.put, List.getElem_toArray, List.getElem_cons_succ, List.getElem_cons_zero, List.setIfInBounds_toArray, List.set_cons_zero, List.set_cons_succ]
          refine wpAnyE_take (i := 11) (v := ?_) (listed' := #[true, true, true, true, true, true, true, true, true, true, true, true, false, false, false, false, false, false, false, false, false, false, false, false, false, false, false, false, false, false]) (by rfl) (by kernel_rfl) (by kernel_rfl) calm_put hS (by rfl) ?_ ?_
          rotate_left
          · intro W hW; clear hW; go_simp; try (with_reducible rfl)
          simp only [Act.put, List.getElem_toArray, List.getElem_cons_succ, List.getElem_cons_zero, List.setIfInBounds_toArray, List.set_cons_zero, List.set_cons_succ]
          refine wpAnyE_take (i := 12) (v := ?_) (listed' := #[true, true, true, true, true, true, true, true, true, true, true, true, true, false, false, false, false, false, false, false, false, false, false, false, false, false, false, false, false, false]) (by rfl) (by kernel_rfl) (by kernel_rfl) calm_put hS (by rfl) ?_ ?_
          rotate_left
          · intro W hW; clear hW; go_simp; try (with_reducible rfl)
          simp only [Act.put, List.getElem_toArray, List.getElem_cons_succ, List.getElem_cons_zero, List.setIfInBounds_toArray, List.set_cons_zero, List.set_cons_succ]
          refine wpAnyE_take (i := 14) (v := ?_) (listed' := #[true, true, true, true, true, true, true, true, true, true, true, true, true, false, true, false, false, false, false, false, false, false, false, false, false, false, false, false, false, false]) (by rfl) (by kernel_rfl) (by kernel_rfl) calm_put hS (by rfl) ?_ ?_
          rotate_left
          · intro W hW; clear hW; go_simp; try (with_reducible rfl)
          simp only [Act.put, List.getElem_toArray, List.getElem_cons_succ, List.getElem_cons_zero, List.setIfInBounds_toArray, List.set_cons_zero, List.set_cons_succ]
          refine wpAnyE_take (i := 15) (v := ?_) (listed' := #[true, true, true, true, true, true, true, true, true, true, true, true, true, false, true, true, false, false, false, false, false, false, false, false, false, false, false, false, false, false]) (by rfl) (by kernel_rfl) (by kernel_rfl) calm_put hS (by rfl) ?_ ?_
          rotate_left
          · intro W hW; clear hW; go_simp; try (with_reducible rfl)
          simp only [Act.put, List.getElem_toArray, List.getElem_cons_succ, List.getElem_cons_zero, List.setIfInBounds_toArray, List.set_cons_zero, List.set_cons_succ]
          refine wpAnyE_take (i := 16) (v := ?_) (listed' := #[true, true, true, true, true, true, true, true, true, true, true, true, true, false, true, true, true, false, false, false, false, false, false, false, false, false, false, false, false, false]) (by rfl) (by kernel_rfl) (by kernel_rfl) calm_put hS (by rfl) ?_ ?_
          rotate_left
          · intro W hW; clear hW; go_simp; try (with_reducible rfl)
          simp only [Act.put, List.getElem_toArray, List.getElem_cons_succ, List.getElem_cons_zero, List.setIfInBounds_toArray, List.set_cons_zero, List.set_cons_succ]
          refine wpAnyE_take (i := 17) (v := ?_) (listed' := #[true, true, true, true, true, true, true, true, true, true, true, true, true, false, true, true, true, true, false, false, false, false, false, false, false, false, false, false, false, false]) (by rfl) (by kernel_rfl) (by kernel_rfl) calm_put hS (by rfl) ?_ ?_
          rotate_left
          · intro W hW; obtain ⟨c1, c2, c3⟩ := hW; go_simp; try (with_reducible rfl)
          simp only [Act.put, List.getElem_toArray, List.getElem_cons_succ, List.getElem_cons_zero, List.setIfInBounds_toArray, List.set_cons_zero, List.set_cons_succ]
          refine wpAnyE_one (i := 13) (listed' := #[true, true, true, true, true, true, true, true, true, true, true, true, true, true, true, true, true, true, false, false, false, false, false, false, false, false, false, false, false, false]) (by rfl) (by kernel_rfl) (by kernel_rfl) (by rfl) (fun K hK => ?_)
          simp only [Act.put, List.getElem_toArray, List.getElem_cons_succ, List.getElem_cons_zero, List.setIfInBounds_toArray, List.set_cons_zero, List.set_cons_succ]
          go_wp2_with fail
          refine Calls.mono HUP.out ?_
          rintro e w8 ⟨rfl, rfl⟩
          refine hK _ _ (fun _ => hS) ?_; clear hK K
          refine wpAnyE_take (i := 18) (v := .bool false) (listed' := #[true, true, true, true, true, true, true, true, true, true, true, true, true, true, true, true, true, true, true, false, false, false, false, false, false, false, false, false, false, false]) (by rfl) (by kernel_rfl) (by kernel_rfl) calm_put hS (by rfl) ?_ ?_
          · intro W hW; clear hW; go_simp; try simp [hdn]
          simp only [Act.put, List.getElem_toArray, List.getElem_cons_succ, List.getElem_cons_zero, List.setIfInBounds_toArray, List.set_cons_zero, List.set_cons_succ]
          refine wpAnyE_take (i := 19) (v := ?_) (listed' := #[true, true, true, true, true, true, true, true, true, true, true, true, true, true, true, true, true, true, true, true, false, false, false, false, false, false, false, false, false, false]) (by rfl) (by kernel_rfl) (by kernel_rfl) calm_put hS (by rfl) ?_ ?_
          rotate_left
          · intro W hW; clear hW; go_simp; try (with_reducible rfl)
          simp only [Act.put, List.getElem_toArray, List.getElem_cons_succ, List.getElem_cons_zero, List.setIfInBounds_toArray, List.set_cons_zero, List.set_cons_succ]
          refine wpAnyE_take (i := 20) (v := ?_) (listed' := #[true, true, true, true, true, true, true, true, true, true, true, true, true, true, true, true, true, true, true, true, true, false, false, false, false, false, false, false, false, false]) (by rfl) (by kernel_rfl) (by kernel_rfl) calm_put hS (by rfl) ?_ ?_
          rotate_left
          · intro W hW; clear hW; go_simp; try (with_reducible rfl)
          simp only [Act.put, List.getElem_toArray, List.getElem_cons_succ, List.getElem_cons_zero, List.setIfInBounds_toArray, List.set_cons_zero, List.set_cons_succ]
          refine wpAnyE_take (i := 21) (v := ?_) (listed' := #[true, true, true, true, true, true, true, true, true, true, true, true, true, true, true, true, true, true, true, true, true, true, false, false, false, false, false, false, false, false]) (by rfl) (by kernel_rfl) (by kernel_rfl) calm_put hS (by rfl) ?_ ?_
          rotate_left
          · intro W hW; clear hW; go_simp; try (with_reducible rfl)
          simp only [Act.put, List.getElem_toArray, List.getElem_cons_succ, List.getElem_cons_zero, List.setIfInBounds_toArray, List.set_cons_zero, List.set_cons_succ]
          refine wpAnyE_take (i := 23) (v := ?_) (listed' := #[true, true, true, true, true, true, true, true, true, true, true, true, true, true, true, true, true, true, true, true, true, true, false, true, false, false, false, false, false, false]) (by rfl) (by kernel_rfl) (by kernel_rfl) calm_put hS (by rfl) ?_ ?_
          rotate_left
          · intro W hW; clear hW; go_simp; try (with_reducible rfl)
          simp only [Act.put, List.getElem_toArray, List.getElem_cons_succ, List.getElem_cons_zero, List.setIfInBounds_toArray, List.set_cons_zero, List.set_cons_succ]
          refine wpAnyE_take (i := 24) (v := ?_) (listed' := #[true, true, true, true, true, true, true, true, true, true, true, true, true, true, true, true, true, true, true, true, true, true, false, true, true, false, false, false, false, false]) (by rfl) (by kernel_rfl) (by kernel_rfl) calm_put hS (by rfl) ?_ ?_
          rotate_left
          · intro W hW; clear hW; go_simp; try (with_reducible rfl)
          simp only [Act.put, List.getElem_toArray, List.getElem_cons_succ, List.getElem_cons_zero, List.setIfInBounds_toArray, List.set_cons_zero, List.set_cons_succ]
          refine wpAnyE_take (i := 25) (v := ?_) (listed' := #[true, true, true, true, true, true, true, true, true, true, true, true, true, true, true, true, true, true, true, true, true, true, false, true, true, true, false, false, false, false]) (by rfl) (by kernel_rfl) (by kernel_rfl) calm_put hS (by rfl) ?_ ?_
          rotate_left
          · intro W hW; clear hW; go_simp; try (with_reducible rfl)
          simp only [Act.put, List.getElem_toArray, List.getElem_cons_succ, List.getElem_cons_zero, List.setIfInBounds_toArray, List.set_cons_zero, List.set_cons_succ]
          refine wpAnyE_take (i := 26) (v := ?_) (listed' := #[true, true, true, true, true, true, true, true, true, true, true, true, true, true, true, true, true, true, true, true, true, true, false, true, true, true, true, false, false, false]) (by rfl) (by kernel_rfl) (by kernel_rfl) calm_put hS (by rfl) ?_ ?_
          rotate_left
          · intro W hW; obtain ⟨c1, c2, c3⟩ := hW; go_simp; try (with_reducible rfl)
          simp only [Act.put, List.getElem_toArray, List.getElem_cons_succ, List.getElem_cons_zero, List.setIfInBounds_toArray, List.set_cons_zero, List.set_cons_succ]
          refine wpAnyE_take (i := 27) (v := ?_) (listed' := #[true, true, true, true, true, true, true, true, true, true, true, true, true, true, true, true, true, true, true, true, true, true, false, true, true, true, true, true, false, false]) (by rfl) (by kernel_rfl) (by kernel_rfl) calm_put hS (by rfl) ?_ ?_
          rotate_left
          · intro W hW; clear hW; go_simp; try (with_reducible rfl)
          simp only [Act.put, List.getElem_toArray, List.getElem_cons_succ, List.getElem_cons_zero, List.setIfInBounds_toArray, List.set_cons_zero, List.set_cons_succ]
          refine wpAnyE_one (i := 22) (listed' := #[true, true, true, true, true, true, true, true, true, true, true, true, true, true, true, true, true, true, true, true, true, true, true, true, true, true, true, true, false, false]) (by rfl) (by kernel_rfl) (by kernel_rfl) (by rfl) (fun K hK => ?_)
          simp only [Act.put, List.getElem_toArray, List.getElem_cons_succ, List.getElem_cons_zero, List.setIfInBounds_toArray, List.set_cons_zero, List.set_cons_succ]
          go_wp2_with fail
          refine Calls.mono HLO.out ?_
          rintro e w8 ⟨rfl, hk⟩
          have hS := (⟨hk.cell' hS.1, hk.cell' hS.2.1, hk.cell' hS.2.2⟩ : _ ∧ _ ∧ _)
          have HP8 := Lib.hid ((HP7.out.kept (Kept.refl w7).drew).keptS hk).1
          refine hK _ _ (fun _ => hS) ?_; clear hK K
          clear hk
          refine wpAnyE_take (i := 28) (v := .bool false) (listed' := #[true, true, true, true, true, true, true, true, true, true, true, true, true, true, true, true, true, true, true, true, true, true, true, true, true, true, true, true, true, false]) (by rfl) (by kernel_rfl) (by kernel_rfl) calm_put hS (by rfl) ?_ ?_
          · intro W hW; clear hW; go_simp; try simp [hdn]
          simp only [Act.put, List.getElem_toArray, List.getElem_cons_succ, List.getElem_cons_zero, List.setIfInBounds_toArray, List.set_cons_zero, List.set_cons_succ]
          refine wpAnyE_take (i := 29) (v := ?_) (listed' := #[true, true, true, true, true, true, true, true, true, true, true, true, true, true, true, true, true, true, true, true, true, true, true, true, true, true, true, true, true, true]) (by rfl) (by kernel_rfl) (by kernel_rfl) calm_put hS (by rfl) ?_ ?_
          rotate_left
          · intro W hW; clear hW; go_simp; try (with_reducible rfl)
          simp only [Act.put, List.getElem_toArray, List.getElem_cons_succ, List.getElem_cons_zero, List.setIfInBounds_toArray, List.set_cons_zero, List.set_cons_succ]
          refine wpAnyE_done (by kernel_rfl) ?_ _
          refine calm_normal ?_
          clear hS HWR HUP HLO HP7 hdn
          go_wp2
          go_loopw [9] (fun i wr => ∃ k2 : Nat, k2 ≤ 48 ∧ i = .int .i64 k2 ∧ Hid (BR w (fun _ => False) wr p T' q T'.ref)) (fun i _ => 48 - (intOf i).toNat)
          case atStart => exact ⟨0, Nat.zero_le _, rfl, HP8⟩
          case round =>
            clear HP8
            obtain ⟨k2, hk2, rfl, HP⟩ := hrel
            by_cases hl2 : k2 < 48
            · have hdm : ((k2 : Int) % 12) = ((k2 % 12 : Nat) : Int) := by omega
              have hdq : ((k2 : Int) / 12) = ((k2 / 12 : Nat) : Int) := by omega
              have hdqt : (k2 : Int).tdiv 12 = ((k2 / 12 : Nat) : Int) := by rw [Int.tdiv_eq_ediv_of_nonneg (by omega)]; exact hdq
              have hdmt : (k2 : Int).tmod 12 = ((k2 % 12 : Nat) : Int) := by rw [Int.tmod_eq_emod_of_nonneg (by omega)]; exact hdm
              generalize k2 % 12 = a at *
              generalize k2 / 12 = d at *
              have HL : Hid ((T'.read (d : Int) (a : Int)).1.length = 64) := Lib.hid (T'.read_is HU.out.inv.ok _ _).1
              have H1 := Lib.hid (fun (W : World) (h : BR w (fun _ => False) W p T' q T'.ref) => br_Read h HU.out (d : Int) (a : Int))
              have H2 := Lib.hid (fun (W : World) (h : BR w (fun _ => False) W p T' q T'.ref) => br_Read2 h HDO.out (d : Int) (a : Int))
              obtain ⟨s, ec, hT'⟩ : ∃ s ec, T'.read (d : Int) (a : Int) = (s, ec) := ⟨_, _, rfl⟩
              rw [hT'] at H1 H2 HL
              simp only at H1 H2 HL
              clear hT'
              go_wp2_with fail
              refine Calls.mono (H1.out _ HP.out) ?_
              rintro e v1 ⟨rfl, hk1⟩
              have HP1 := Lib.hid (HP.out.keptS hk1).1
              clear hk1 HP
              go_wp2_with (refine stop_at (o := ⟨some 10, _, _, _, _, _⟩) ?_)
              refine Stop.mk ?_
              refine wpList_new_row rfl rfl _ _ rfl rfl ty_sec _ zero_sec (by rw [u8s_length]; rfl) (u8s s) rfl (by rw [u8s_length, HL.out]) (u8s_one _) rfl ?_
              intro v2 hz hs2 hk2'
              have HZ2 := hz
              have HP2 := Lib.hid (HP1.out.keptS hk2').1
              obtain ⟨Z1, hE⟩ : ∃ b, b = v1.heap.size := ⟨_, rfl⟩
              rw [← hE] at HZ2 ⊢
              clear hz hs2 hk2' hE HP1
              go_wp2_with fail
              refine Calls.mono (H2.out _ HP2.out) ?_
              rintro e v3 ⟨rfl, hk3⟩
              have HP3 := Lib.hid (HP2.out.keptS hk3).1
              have HZ3 := Lib.hid (hk3.block HZ2.out)
              clear hk3 HP2 HZ2
              go_wp2_with (refine stop_at (o := ⟨some 12, _, _, _, _, _⟩) ?_)
              refine Stop.mk ?_
              refine wpList_new_row rfl rfl _ _ rfl rfl ty_sec _ zero_sec (by rw [u8s_length]; rfl) (u8s s) rfl (by rw [u8s_length, HL.out]) (u8s_one _) rfl ?_
              intro v4 hz hs2 hk4
              have HY4 := hz
              have HZ4 := Lib.hid (hk4.block HZ3.out)
              have HP4 := Lib.hid (HP3.out.keptS hk4).1
              obtain ⟨Z2, hE⟩ : ∃ b, b = v3.heap.size := ⟨_, rfl⟩
              rw [← hE] at HY4 ⊢
              clear hz hs2 hk4 hE HP3 HZ3
              go_wp2_with (refine stop_at (o := ⟨some 96, _, _, _, _, _⟩) ?_)
              refine Stop.mk ?_
              refine wpList_load_aggW _ rfl ty_sec Z1 0 rfl (u8s s) (by simpa using Cells.of_block HZ4.out) (by rw [u8s_length, HL.out]) rfl ?_
              go_wp2_with (refine stop_at (o := ⟨some 97, _, _, _, _, _⟩) ?_)
              refine Stop.mk ?_
              refine wpList_load_aggW _ rfl ty_sec Z2 0 rfl (u8s s) (by simpa using Cells.of_block HY4.out) (by rw [u8s_length, HL.out]) rfl ?_
              go_wp2_with (refine stop_at (o := ⟨some 98, _, _, _, _, _⟩) ?_)
              refine Stop.mk ?_
              refine wpList_neq_sec rfl _ _ rfl s s rfl rfl HL.out HL.out ?_
              go_wp2
              go_roundw
              case rel => exact ⟨k2 + 1, hl2, by go_num, HP4⟩
              case measure => simp [intOf]; omega
            · have hkk : k2 = 48 := by omega
              subst hkk
              go_wp2
              go_roundw
              case rel => exact ⟨k + 1, T', hlt, h150, by go_num, HP, HSA7⟩
              case measure => simp [intOf]; omega
        · have hcase : k = l.length ∨ (k < l.length ∧ k = 150) := by omega
          clear hgo
          rcases hcase with rfl | ⟨hlt, rfl⟩
          · go_wp2
            go_ret
            exact ⟨rfl, HP.out.keeps⟩
          · go_wp2
            go_ret
            exact ⟨rfl, HP.out.keeps⟩
end Go.Proofs.Ytglplhmclfekfaa
