/- law13: StripePlays, the walk (gen_splays.py). -/
import Derived.Test.YtglplhmclfekfaaGreatPch
namespace Go.Proofs.YtglplhmclfekfaaGreat
open Go.RowKit
set_option linter.unusedVariables false
set_option linter.unusedSimpArgs false

set_option maxHeartbeats 4000000
set_option maxRecDepth 100000
theorem law_plays13 (v1 : Value) (l1 : List (Int × Int)) (v2 : Value) (l2 : List (Int × Int)) (vl : Value) (l : List OpS) (w : World) (h1 : XtSrc w v1 l1) (h2 : XtSrc w v2 l2) (hs : OSrc w vl l) :
    Calls Tryz.prog 3 #[v1, v2, vl] w fun e w' => e = .returned (.bool true) ∧ Kept w w' := by
  have HSRC0 := Lib.hid hs
  have H1 := Lib.hid h1
  have H2 := Lib.hid h2
  obtain ⟨oa, cap, rfl, hlc, hcm, _⟩ := hs
  have HSRC := HSRC0
  clear HSRC0 h1 h2
  go_enter Tryz.func3, Tryz.ntmps3
  go_wp2_with fail
  refine Calls.mono (law_shown13 w) ?_
  rintro e w1 ⟨rfl, hk1⟩
  have HK1 := Lib.hid hk1
  clear hk1
  go_wp2_with fail
  refine Calls.mono (s_laid 5 (by decide) w w1 (fun _ => False) HK1.out (fun _ h => h.elim)) ?_
  rintro e w2 ⟨p, rfl, hb, _⟩
  have HB2 := Lib.hid hb
  clear hb HK1
  go_wp2_with fail
  refine Calls.mono (br_New2 20 HB2.out) ?_
  rintro e w3 ⟨q, rfl, hb⟩
  have HP3 := Lib.hid hb
  clear hb HB2
  go_wp2
  go_loopw [10] (fun i wr => ∃ k : Nat, k ≤ 5 ∧ i = .int .i64 k ∧ Hid (BR w (fun _ => False) wr p (addZ 20 5) q (addZ 20 k).ref)) (fun i _ => 5 - (intOf i).toNat)
  case atStart => exact ⟨0, Nat.zero_le _, rfl, HP3⟩
  case round =>
    clear HP3
    obtain ⟨k, hk, rfl, HP⟩ := hrel
    by_cases hlt : k < 5
    · go_wp2_with fail
      refine Calls.mono (br_Add2 (z := 20) HP.out (by omega) (by decide)) ?_
      rintro e w4 ⟨rfl, hb, _⟩
      have HP4 := Lib.hid hb
      clear hb HP
      go_wp2
      go_roundw
      case rel => exact ⟨k + 1, hlt, by go_num, HP4⟩
      case measure => simp [intOf]; omega
    · rw [show k = 5 by omega] at HP
      have HSA : Hid (Sane (addZ 20 5) 5 20 0) := Lib.hid (Sane.addZ (by decide) (by decide))
      generalize addZ 20 5 = T0 at *
      go_wp2_with fail
      refine Calls.mono (law_fewO (H1.out.kept HP.out.keeps)) ?_
      rintro e w5 ⟨va, rfl, hva, hwa, hk5⟩
      have HP5 := Lib.hid (HP.out.range hk5 (fun k => va.ownBlock = some k) (fun k hk => hwa k hk))
      have HVA5 := Lib.hid hva
      clear hva hwa hk5 HP
      go_wp2_with fail
      refine Calls.mono (law_fewO (H2.out.kept HP5.out.keeps)) ?_
      rintro e w6 ⟨vc, rfl, hvc, hwc, hk6⟩
      have HP6 : Hid (BR w (fun k => va.ownBlock = some k ∨ vc.ownBlock = some k) w6 p T0 q T0.ref) := Lib.hid ((HP5.out.range hk6 (fun k => vc.ownBlock = some k) (fun k hk => hwc k hk)).less fun k hk => hk.elim (fun h => .inl (.inr h)) .inr)
      have HVA6 := Lib.hid (HVA5.out.kept hk6)
      have HVC6 := Lib.hid hvc
      have HNA := Lib.hid (fewL_near l1)
      have HNC := Lib.hid (fewL_near l2)
      have HLA : Hid ((fewL l1).length ≤ 9) := Lib.hid (by rw [fewL_len]; omega)
      have HLC : Hid ((fewL l2).length ≤ 9) := Lib.hid (by rw [fewL_len]; omega)
      clear hvc hwc hk6 HP5 HVA5 H1 H2
      generalize fewL l1 = La at *
      generalize fewL l2 = Lc at *
      go_wp2
      go_loopw [11] (fun i wr => ∃ (k : Nat) (T : BankT), k ≤ l.length ∧ k ≤ 100 ∧ i = .int .i64 k ∧ Hid (BR w (fun k => va.ownBlock = some k ∨ vc.ownBlock = some k) wr p T q T.ref) ∧ Hid (ESl wr va La) ∧ Hid (ESl wr vc Lc) ∧ Hid (Sane T 5 20 (12 * k))) (fun i _ => l.length - (intOf i).toNat)
      case atStart => exact ⟨0, T0, Nat.zero_le _, Nat.zero_le _, rfl, HP6, HVA6, HVC6, HSA⟩
      case round =>
        clear HP6 HVA6 HVC6 HSA
        obtain ⟨k, T, hk, hk100, rfl, HP, HVA, HVC, HSA⟩ := hrel
        by_cases hgo : k < l.length ∧ k < 100
        · obtain ⟨hlt, h100⟩ := hgo
          obtain ⟨b, off, rfl, hcs, g1⟩ := (HSRC.out.kept HP.out.keeps).at k hlt
          have HG1 := Lib.hid g1
          have HCS := Lib.hid hcs
          generalize l[k] = o at *
          clear hcs g1
          obtain ⟨kd, ok, ot, on, om, ob, omk⟩ := o
          simp only at HCS HG1
          -- which row
          obtain ⟨vx, Lx, HVX, HNX, HLX, HRX⟩ : ∃ (vx : Value) (Lx : List (Int × Int)), Hid (vx = if ob then va else vc) ∧ Hid (Near Lx) ∧ Hid (Lx.length ≤ 9) ∧ Hid (∀ W : World, ESl W va La → ESl W vc Lc → ESl W vx Lx) := by
            cases ob
            · exact ⟨vc, Lc, Lib.hid rfl, HNC, HLC, Lib.hid fun _ _ h => h⟩
            · exact ⟨va, La, Lib.hid rfl, HNA, HLA, Lib.hid fun _ h _ => h⟩
          have HRO : Hid (∀ k, vx.ownBlock = some k → (fun k => va.ownBlock = some k ∨ vc.ownBlock = some k) k) := Lib.hid (by
            rw [HVX.out]
            cases ob
            · exact fun k hk => .inr hk
            · exact fun k hk => .inl hk)
          have HLT := Lib.hid (And.intro hlt h100)
          have hd100 : decide ((k : Int) < 100) = true := decide_eq_true (by omega)
          have hdl : decide ((k : Int) < (l.length : Int)) = true := decide_eq_true (by omega)
          have c5 := HCS.out 5 (by simp)
          have c5' : wr.cell? ⟨b, off + k * 7 + 5, none⟩ = some (.bool ob) := c5
          clear c5
          go_upto_if 50 with fail
          go_cut [12, 49, 50] from 51 to 51 (fun v v1 v2 wc => wc = wr ∧ v = vx ∧ v1 = .bool ob ∧ v2 = .bool (!ob))
          case first =>
            cases ob
            · go_wp2
              go_meet
              case rel => exact ⟨rfl, by rw [HVX.out]; rfl, rfl, rfl⟩
            · go_wp2
              go_meet
              case rel => exact ⟨rfl, by rw [HVX.out]; rfl, rfl, rfl⟩
          case rest =>
          obtain ⟨rfl, rfl, rfl, rfl⟩ := hcut
          clear c5'
          go_wp2_with (refine stop_at (o := ⟨some 58, _, _, _, _, _⟩) ?_)
          refine Stop.mk ?_
          refine wpList_load_agg rfl _ rfl ty_opS b (off + k * 7) rfl _ HCS.out rfl ?_
          go_wp2_with fail
          refine Calls.mono (law_does13 HP.out HSA.out (by omega) (HRX.out _ HVA.out HVC.out) HNX.out HLX.out HRO.out kd ok ot on om ob omk (by have h9 := HG1.out; omega) (by have h9 := HG1.out; omega) (by have h9 := HG1.out; omega)) ?_
          rintro e w7 ⟨rfl, T', hp, hsa, hsr⟩
          have HP7 := Lib.hid hp
          have HSA7 := Lib.hid (hsa.le (c' := 12 * (k + 1)) (by omega))
          have HVA7 := Lib.hid (HVA.out.same (R := fun k => va.ownBlock = some k ∨ vc.ownBlock = some k) (fun k hk => .inl hk) hsr (fun k hk => hp.lt hk))
          have HVC7 := Lib.hid (HVC.out.same (R := fun k => va.ownBlock = some k ∨ vc.ownBlock = some k) (fun k hk => .inr hk) hsr (fun k hk => hp.lt hk))
          clear hp hsa hsr HP HSA HCS HG1 HVA HVC HRX HNX HLX HRO HVX
          have HU := Lib.hid (HSA7.out.use (by decide) (by omega))
          have HDO := Lib.hid (HSA7.out.doc (by decide) (by omega))
          obtain ⟨oa', cap', hc1, hc2, hc3⟩ := HP7.out.cells
          have HWR := Lib.hid (bk_Writes (HP7.out.kept (Kept.refl w7).drew).disk)
          have HUP := Lib.hid (bk_Up (HP7.out.kept (Kept.refl w7).drew).disk)
          have HLO := Lib.hid ((bk_Loose (HP7.out.kept (Kept.refl w7).drew).disk HU.out).mono (R' := fun e w' => e = .returned (.int .i64 (T'.looseN : Int)) ∧ Kept w7.drew w') fun e w' hh => ⟨hh.1, hh.2.2.2⟩)
          obtain ⟨wn, hwn⟩ : ∃ x, x = T'.writes := ⟨_, rfl⟩
          obtain ⟨dn, hdn0⟩ : ∃ x, x = T'.down := ⟨_, rfl⟩
          obtain ⟨N, hN⟩ : ∃ x, x = T'.looseN := ⟨_, rfl⟩
          rw [← hwn] at HWR hc3
          rw [← hdn0] at HUP hc2
          rw [← hN] at HLO hc1
          clear hwn hdn0 hN
          have hdn : ((!dn) == dn) = false := by cases dn <;> rfl
          go_upto_region 19 with fail
          have hS : w7.drew.cell? ⟨q, 1, none⟩ = some (.slice oa' N cap') ∧ w7.drew.cell? ⟨q, 2, none⟩ = some (.bool dn) ∧ w7.drew.cell? ⟨q, 3, none⟩ = some (.int .i64 wn) := ⟨hc1, hc2, hc3⟩
          clear hc1 hc2 hc3
          refine wp_region_calm ?_
          refine wp_region_E (fun W => W.cell? ⟨q, 1, none⟩ = some (.slice oa' N cap') ∧ W.cell? ⟨q, 2, none⟩ = some (.bool dn) ∧ W.cell? ⟨q, 3, none⟩ = some (.int .i64 wn)) 100 (by kernel_rfl) ?_
          refine wpAnyE_take (i := 0) (v := ?_) (listed' := #[true, false, false, false, false, false, false, false, false, false, false, false, false, false, false, false, false, false, false, false, false, false, false, false, false, false, false, false, false, false]) (by rfl) (by kernel_rfl) (by kernel_rfl) calm_put hS (by rfl) ?_ ?_
          rotate_left
          · intro W hW; clear hW; go_simp; try (with_reducible rfl)
          simp only [Act.put, List.getElem_toArray, List.getElem_cons_succ, List.getElem_cons_zero, List.setIfInBounds_toArray, List.set_cons_zero, List.set_cons_succ]
          refine wpAnyE_take (i := 1) (v := ?_) (listed' := #[true, true, false, false, false, false, false, false, false, false, false, false, false, false, false, false, false, false, false, false, false, false, false, false, false, false, false, false, false, false]) (by rfl) (by kernel_rfl) (by kernel_rfl) calm_put hS (by rfl) ?_ ?_
          rotate_left
          · intro W hW; clear hW; go_simp; try (with_reducible rfl)
          simp only [Act.put, List.getElem_toArray, List.getElem_cons_succ, List.getElem_cons_zero, List.setIfInBounds_toArray, List.set_cons_zero, List.set_cons_succ]
          refine wpAnyE_take (i := 2) (v := ?_) (listed' := #[true, true, true, false, false, false, false, false, false, false, false, false, false, false, false, false, false, false, false, false, false, false, false, false, false, false, false, false, false, false]) (by rfl) (by kernel_rfl) (by kernel_rfl) calm_put hS (by rfl) ?_ ?_
          rotate_left
          · intro W hW; clear hW; go_simp; try (with_reducible rfl)
          simp only [Act.put, List.getElem_toArray, List.getElem_cons_succ, List.getElem_cons_zero, List.setIfInBounds_toArray, List.set_cons_zero, List.set_cons_succ]
          refine wpAnyE_take (i := 3) (v := ?_) (listed' := #[true, true, true, true, false, false, false, false, false, false, false, false, false, false, false, false, false, false, false, false, false, false, false, false, false, false, false, false, false, false]) (by rfl) (by kernel_rfl) (by kernel_rfl) calm_put hS (by rfl) ?_ ?_
          rotate_left
          · intro W hW; clear hW; go_simp; try (with_reducible rfl)
          simp only [Act.put, List.getElem_toArray, List.getElem_cons_succ, List.getElem_cons_zero, List.setIfInBounds_toArray, List.set_cons_zero, List.set_cons_succ]
          refine wpAnyE_take (i := 5) (v := ?_) (listed' := #[true, true, true, true, false, true, false, false, false, false, false, false, false, false, false, false, false, false, false, false, false, false, false, false, false, false, false, false, false, false]) (by rfl) (by kernel_rfl) (by kernel_rfl) calm_put hS (by rfl) ?_ ?_
          rotate_left
          · intro W hW; clear hW; go_simp; try (with_reducible rfl)
          simp only [Act.put, List.getElem_toArray, List.getElem_cons_succ, List.getElem_cons_zero, List.setIfInBounds_toArray, List.set_cons_zero, List.set_cons_succ]
          refine wpAnyE_take (i := 6) (v := ?_) (listed' := #[true, true, true, true, false, true, true, false, false, false, false, false, false, false, false, false, false, false, false, false, false, false, false, false, false, false, false, false, false, false]) (by rfl) (by kernel_rfl) (by kernel_rfl) calm_put hS (by rfl) ?_ ?_
          rotate_left
          · intro W hW; clear hW; go_simp; try (with_reducible rfl)
          simp only [Act.put, List.getElem_toArray, List.getElem_cons_succ, List.getElem_cons_zero, List.setIfInBounds_toArray, List.set_cons_zero, List.set_cons_succ]
          refine wpAnyE_take (i := 7) (v := ?_) (listed' := #[true, true, true, true, false, true, true, true, false, false, false, false, false, false, false, false, false, false, false, false, false, false, false, false, false, false, false, false, false, false]) (by rfl) (by kernel_rfl) (by kernel_rfl) calm_put hS (by rfl) ?_ ?_
          rotate_left
          · intro W hW; clear hW; go_simp; try (with_reducible rfl)
          simp only [Act.put, List.getElem_toArray, List.getElem_cons_succ, List.getElem_cons_zero, List.setIfInBounds_toArray, List.set_cons_zero, List.set_cons_succ]
          refine wpAnyE_take (i := 8) (v := ?_) (listed' := #[true, true, true, true, false, true, true, true, true, false, false, false, false, false, false, false, false, false, false, false, false, false, false, false, false, false, false, false, false, false]) (by rfl) (by kernel_rfl) (by kernel_rfl) calm_put hS (by rfl) ?_ ?_
          rotate_left
          · intro W hW; obtain ⟨c1, c2, c3⟩ := hW; go_simp; try (with_reducible rfl)
          simp only [Act.put, List.getElem_toArray, List.getElem_cons_succ, List.getElem_cons_zero, List.setIfInBounds_toArray, List.set_cons_zero, List.set_cons_succ]
          refine wpAnyE_one (i := 4) (listed' := #[true, true, true, true, true, true, true, true, true, false, false, false, false, false, false, false, false, false, false, false, false, false, false, false, false, false, false, false, false, false]) (by rfl) (by kernel_rfl) (by kernel_rfl) (by rfl) (fun K hK => ?_)
          simp only [Act.put, List.getElem_toArray, List.getElem_cons_succ, List.getElem_cons_zero, List.setIfInBounds_toArray, List.set_cons_zero, List.set_cons_succ]
          go_wp2_with fail
          refine Calls.mono HWR.out ?_
          rintro e w8 ⟨rfl, rfl⟩
          refine hK _ _ (fun _ => hS) ?_; clear hK K
          refine wpAnyE_take (i := 9) (v := .bool false) (listed' := #[true, true, true, true, true, true, true, true, true, true, false, false, false, false, false, false, false, false, false, false, false, false, false, false, false, false, false, false, false, false]) (by rfl) (by kernel_rfl) (by kernel_rfl) calm_put hS (by rfl) ?_ ?_
          · intro W hW; clear hW; go_simp; try simp [hdn]
          simp only [Act.put, List.getElem_toArray, List.getElem_cons_succ, List.getElem_cons_zero, List.setIfInBounds_toArray, List.set_cons_zero, List.set_cons_succ]
          refine wpAnyE_take (i := 10) (v := ?_) (listed' := #[true, true, true, true, true, true, true, true, true, true, true, false, false, false, false, false, false, false, false, false, false, false, false, false, false, false, false, false, false, false]) (by rfl) (by kernel_rfl) (by kernel_rfl) calm_put hS (by rfl) ?_ ?_
          rotate_left
          · intro W hW; clear hW; go_simp; try (with_reducible rfl)
          simp only [Act.put, List.getElem_toArray, List.getElem_cons_succ, List.getElem_cons_zero, List.setIfInBounds_toArray, List.set_cons_zero, List.set_cons_succ]
          refine wpAnyE_take (i := 11) (v := ?_) (listed' := #[true, true, true, true, true, true, true, true, true, true, true, true, false, false, false, false, false, false, false, false, false, false, false, false, false, false, false, false, false, false]) (by rfl) (by kernel_rfl) (by kernel_rfl) calm_put hS (by rfl) ?_ ?_
          rotate_left
          · intro W hW; clear hW; go_simp; try (with_reducible rfl)
          simp only [Act.put, List.getElem_toArray, List.getElem_cons_succ, List.getElem_cons_zero, List.setIfInBounds_toArray, List.set_cons_zero, List.set_cons_succ]
          refine wpAnyE_take (i := 12) (v := ?_) (listed' := #[true, true, true, true, true, true, true, true, true, true, true, true, true, false, false, false, false, false, false, false, false, false, false, false, false, false, false, false, false, false]) (by rfl) (by kernel_rfl) (by kernel_rfl) calm_put hS (by rfl) ?_ ?_
          rotate_left
          · intro W hW; clear hW; go_simp; try (with_reducible rfl)
          simp only [Act.put, List.getElem_toArray, List.getElem_cons_succ, List.getElem_cons_zero, List.setIfInBounds_toArray, List.set_cons_zero, List.set_cons_succ]
          refine wpAnyE_take (i := 14) (v := ?_) (listed' := #[true, true, true, true, true, true, true, true, true, true, true, true, true, false, true, false, false, false, false, false, false, false, false, false, false, false, false, false, false, false]) (by rfl) (by kernel_rfl) (by kernel_rfl) calm_put hS (by rfl) ?_ ?_
          rotate_left
          · intro W hW; clear hW; go_simp; try (with_reducible rfl)
          simp only [Act.put, List.getElem_toArray, List.getElem_cons_succ, List.getElem_cons_zero, List.setIfInBounds_toArray, List.set_cons_zero, List.set_cons_succ]
          refine wpAnyE_take (i := 15) (v := ?_) (listed' := #[true, true, true, true, true, true, true, true, true, true, true, true, true, false, true, true, false, false, false, false, false, false, false, false, false, false, false, false, false, false]) (by rfl) (by kernel_rfl) (by kernel_rfl) calm_put hS (by rfl) ?_ ?_
          rotate_left
          · intro W hW; clear hW; go_simp; try (with_reducible rfl)
          simp only [Act.put, List.getElem_toArray, List.getElem_cons_succ, List.getElem_cons_zero, List.setIfInBounds_toArray, List.set_cons_zero, List.set_cons_succ]
          refine wpAnyE_take (i := 16) (v := ?_) (listed' := #[true, true, true, true, true, true, true, true, true, true, true, true, true, false, true, true, true, false, false, false, false, false, false, false, false, false, false, false, false, false]) (by rfl) (by kernel_rfl) (by kernel_rfl) calm_put hS (by rfl) ?_ ?_
          rotate_left
          · intro W hW; clear hW; go_simp; try (with_reducible rfl)
          simp only [Act.put, List.getElem_toArray, List.getElem_cons_succ, List.getElem_cons_zero, List.setIfInBounds_toArray, List.set_cons_zero, List.set_cons_succ]
          refine wpAnyE_take (i := 17) (v := ?_) (listed' := #[true, true, true, true, true, true, true, true, true, true, true, true, true, false, true, true, true, true, false, false, false, false, false, false, false, false, false, false, false, false]) (by rfl) (by kernel_rfl) (by kernel_rfl) calm_put hS (by rfl) ?_ ?_
          rotate_left
          · intro W hW; obtain ⟨c1, c2, c3⟩ := hW; go_simp; try (with_reducible rfl)
          simp only [Act.put, List.getElem_toArray, List.getElem_cons_succ, List.getElem_cons_zero, List.setIfInBounds_toArray, List.set_cons_zero, List.set_cons_succ]
          refine wpAnyE_one (i := 13) (listed' := #[true, true, true, true, true, true, true, true, true, true, true, true, true, true, true, true, true, true, false, false, false, false, false, false, false, false, false, false, false, false]) (by rfl) (by kernel_rfl) (by kernel_rfl) (by rfl) (fun K hK => ?_)
          simp only [Act.put, List.getElem_toArray, List.getElem_cons_succ, List.getElem_cons_zero, List.setIfInBounds_toArray, List.set_cons_zero, List.set_cons_succ]
          go_wp2_with fail
          refine Calls.mono HUP.out ?_
          rintro e w8 ⟨rfl, rfl⟩
          refine hK _ _ (fun _ => hS) ?_; clear hK K
          refine wpAnyE_take (i := 18) (v := .bool false) (listed' := #[true, true, true, true, true, true, true, true, true, true, true, true, true, true, true, true, true, true, true, false, false, false, false, false, false, false, false, false, false, false]) (by rfl) (by kernel_rfl) (by kernel_rfl) calm_put hS (by rfl) ?_ ?_
          · intro W hW; clear hW; go_simp; try simp [hdn]
          simp only [Act.put, List.getElem_toArray, List.getElem_cons_succ, List.getElem_cons_zero, List.setIfInBounds_toArray, List.set_cons_zero, List.set_cons_succ]
          refine wpAnyE_take (i := 19) (v := ?_) (listed' := #[true, true, true, true, true, true, true, true, true, true, true, true, true, true, true, true, true, true, true, true, false, false, false, false, false, false, false, false, false, false]) (by rfl) (by kernel_rfl) (by kernel_rfl) calm_put hS (by rfl) ?_ ?_
          rotate_left
          · intro W hW; clear hW; go_simp; try (with_reducible rfl)
          simp only [Act.put, List.getElem_toArray, List.getElem_cons_succ, List.getElem_cons_zero, List.setIfInBounds_toArray, List.set_cons_zero, List.set_cons_succ]
          refine wpAnyE_take (i := 20) (v := ?_) (listed' := #[true, true, true, true, true, true, true, true, true, true, true, true, true, true, true, true, true, true, true, true, true, false, false, false, false, false, false, false, false, false]) (by rfl) (by kernel_rfl) (by kernel_rfl) calm_put hS (by rfl) ?_ ?_
          rotate_left
          · intro W hW; clear hW; go_simp; try (with_reducible rfl)
          simp only [Act.put, List.getElem_toArray, List.getElem_cons_succ, List.getElem_cons_zero, List.setIfInBounds_toArray, List.set_cons_zero, List.set_cons_succ]
          refine wpAnyE_take (i := 21) (v := ?_) (listed' := #[true, true, true, true, true, true, true, true, true, true, true, true, true, true, true, true, true, true, true, true, true, true, false, false, false, false, false, false, false, false]) (by rfl) (by kernel_rfl) (by kernel_rfl) calm_put hS (by rfl) ?_ ?_
          rotate_left
          · intro W hW; clear hW; go_simp; try (with_reducible rfl)
          simp only [Act.put, List.getElem_toArray, List.getElem_cons_succ, List.getElem_cons_zero, List.setIfInBounds_toArray, List.set_cons_zero, List.set_cons_succ]
          refine wpAnyE_take (i := 23) (v := ?_) (listed' := #[true, true, true, true, true, true, true, true, true, true, true, true, true, true, true, true, true, true, true, true, true, true, false, true, false, false, false, false, false, false]) (by rfl) (by kernel_rfl) (by kernel_rfl) calm_put hS (by rfl) ?_ ?_
          rotate_left
          · intro W hW; clear hW; go_simp; try (with_reducible rfl)
          simp only [Act.put, List.getElem_toArray, List.getElem_cons_succ, List.getElem_cons_zero, List.setIfInBounds_toArray, List.set_cons_zero, List.set_cons_succ]
          refine wpAnyE_take (i := 24) (v := ?_) (listed' := #[true, true, true, true, true, true, true, true, true, true, true, true, true, true, true, true, true, true, true, true, true, true, false, true, true, false, false, false, false, false]) (by rfl) (by kernel_rfl) (by kernel_rfl) calm_put hS (by rfl) ?_ ?_
          rotate_left
          · intro W hW; clear hW; go_simp; try (with_reducible rfl)
          simp only [Act.put, List.getElem_toArray, List.getElem_cons_succ, List.getElem_cons_zero, List.setIfInBounds_toArray, List.set_cons_zero, List.set_cons_succ]
          refine wpAnyE_take (i := 25) (v := ?_) (listed' := #[true, true, true, true, true, true, true, true, true, true, true, true, true, true, true, true, true, true, true, true, true, true, false, true, true, true, false, false, false, false]) (by rfl) (by kernel_rfl) (by kernel_rfl) calm_put hS (by rfl) ?_ ?_
          rotate_left
          · intro W hW; clear hW; go_simp; try (with_reducible rfl)
          simp only [Act.put, List.getElem_toArray, List.getElem_cons_succ, List.getElem_cons_zero, List.setIfInBounds_toArray, List.set_cons_zero, List.set_cons_succ]
          refine wpAnyE_take (i := 26) (v := ?_) (listed' := #[true, true, true, true, true, true, true, true, true, true, true, true, true, true, true, true, true, true, true, true, true, true, false, true, true, true, true, false, false, false]) (by rfl) (by kernel_rfl) (by kernel_rfl) calm_put hS (by rfl) ?_ ?_
          rotate_left
          · intro W hW; obtain ⟨c1, c2, c3⟩ := hW; go_simp; try (with_reducible rfl)
          simp only [Act.put, List.getElem_toArray, List.getElem_cons_succ, List.getElem_cons_zero, List.setIfInBounds_toArray, List.set_cons_zero, List.set_cons_succ]
          refine wpAnyE_take (i := 27) (v := ?_) (listed' := #[true, true, true, true, true, true, true, true, true, true, true, true, true, true, true, true, true, true, true, true, true, true, false, true, true, true, true, true, false, false]) (by rfl) (by kernel_rfl) (by kernel_rfl) calm_put hS (by rfl) ?_ ?_
          rotate_left
          · intro W hW; clear hW; go_simp; try (with_reducible rfl)
          simp only [Act.put, List.getElem_toArray, List.getElem_cons_succ, List.getElem_cons_zero, List.setIfInBounds_toArray, List.set_cons_zero, List.set_cons_succ]
          refine wpAnyE_one (i := 22) (listed' := #[true, true, true, true, true, true, true, true, true, true, true, true, true, true, true, true, true, true, true, true, true, true, true, true, true, true, true, true, false, false]) (by rfl) (by kernel_rfl) (by kernel_rfl) (by rfl) (fun K hK => ?_)
          simp only [Act.put, List.getElem_toArray, List.getElem_cons_succ, List.getElem_cons_zero, List.setIfInBounds_toArray, List.set_cons_zero, List.set_cons_succ]
          go_wp2_with fail
          refine Calls.mono HLO.out ?_
          rintro e w8 ⟨rfl, hk⟩
          have hS := (⟨hk.cell' hS.1, hk.cell' hS.2.1, hk.cell' hS.2.2⟩ : _ ∧ _ ∧ _)
          have HP8 := Lib.hid ((HP7.out.kept (Kept.refl w7).drew).keptS hk).1
          have HVA8 := Lib.hid ((HVA7.out.kept (Kept.refl w7).drew).kept hk)
          have HVC8 := Lib.hid ((HVC7.out.kept (Kept.refl w7).drew).kept hk)
          refine hK _ _ (fun _ => hS) ?_; clear hK K
          clear hk
          refine wpAnyE_take (i := 28) (v := .bool false) (listed' := #[true, true, true, true, true, true, true, true, true, true, true, true, true, true, true, true, true, true, true, true, true, true, true, true, true, true, true, true, true, false]) (by rfl) (by kernel_rfl) (by kernel_rfl) calm_put hS (by rfl) ?_ ?_
          · intro W hW; clear hW; go_simp; try simp [hdn]
          simp only [Act.put, List.getElem_toArray, List.getElem_cons_succ, List.getElem_cons_zero, List.setIfInBounds_toArray, List.set_cons_zero, List.set_cons_succ]
          refine wpAnyE_take (i := 29) (v := ?_) (listed' := #[true, true, true, true, true, true, true, true, true, true, true, true, true, true, true, true, true, true, true, true, true, true, true, true, true, true, true, true, true, true]) (by rfl) (by kernel_rfl) (by kernel_rfl) calm_put hS (by rfl) ?_ ?_
          rotate_left
          · intro W hW; clear hW; go_simp; try (with_reducible rfl)
          simp only [Act.put, List.getElem_toArray, List.getElem_cons_succ, List.getElem_cons_zero, List.setIfInBounds_toArray, List.set_cons_zero, List.set_cons_succ]
          refine wpAnyE_done (by kernel_rfl) ?_ _
          refine calm_normal ?_
          clear hS HWR HUP HLO HP7 hdn HVA7 HVC7
          go_wp2
          go_roundw
          case rel => exact ⟨k + 1, T', HLT.out.1, HLT.out.2, by go_num, HP8, HVA8, HVC8, HSA7⟩
          case measure => simp [intOf]; have := HLT.out.1; omega
        · have HU := Lib.hid (HSA.out.use (by decide) (by omega))
          have HDO := Lib.hid (HSA.out.doc (by decide) (by omega))
          have hcase : k = l.length ∨ (k < l.length ∧ k = 100) := by omega
          clear hgo HNA HNC HLA HLC HVA HVC HSA
          have HP0 : Hid (BR w (fun _ => False) wr p T q T.ref) := Lib.hid (HP.out.less fun _ h => h.elim)
          clear HP
          rcases hcase with rfl | ⟨hlt, rfl⟩
          · skip
            go_wp2
            go_loopw [14] (fun i wr2 => ∃ k2 : Nat, k2 ≤ 100 ∧ i = .int .i64 k2 ∧ Hid (BR w (fun _ => False) wr2 p T q T.ref)) (fun i _ => 100 - (intOf i).toNat)
            case atStart => exact ⟨0, Nat.zero_le _, rfl, HP0⟩
            case round =>
              clear HP0
              obtain ⟨k2, hk2, rfl, HP⟩ := hrel
              by_cases hl2 : k2 < 100
              · have hdm : ((k2 : Int) % 20) = ((k2 % 20 : Nat) : Int) := by omega
                have hdq : ((k2 : Int) / 20) = ((k2 / 20 : Nat) : Int) := by omega
                have hdqt : (k2 : Int).tdiv 20 = ((k2 / 20 : Nat) : Int) := by rw [Int.tdiv_eq_ediv_of_nonneg (by omega)]; exact hdq
                have hdmt : (k2 : Int).tmod 20 = ((k2 % 20 : Nat) : Int) := by rw [Int.tmod_eq_emod_of_nonneg (by omega)]; exact hdm
                generalize k2 % 20 = a at *
                generalize k2 / 20 = d at *
                have HL : Hid ((T.read (d : Int) (a : Int)).1.length = 64) := Lib.hid (T.read_is HU.out.inv.ok _ _).1
                have H1 := Lib.hid (fun (W : World) (h : BR w (fun _ => False) W p T q T.ref) => br_Read h HU.out (d : Int) (a : Int))
                have H2 := Lib.hid (fun (W : World) (h : BR w (fun _ => False) W p T q T.ref) => br_Read2 h HDO.out (d : Int) (a : Int))
                obtain ⟨s, ec, hT'⟩ : ∃ s ec, T.read (d : Int) (a : Int) = (s, ec) := ⟨_, _, rfl⟩
                rw [hT'] at H1 H2 HL
                simp only at H1 H2 HL
                clear hT'
                go_wp2_with fail
                refine Calls.mono (H1.out _ HP.out) ?_
                rintro e v1 ⟨rfl, hk1⟩
                have HP1 := Lib.hid (HP.out.keptS hk1).1
                clear hk1 HP
                go_wp2_with (refine stop_at (o := ⟨some 15, _, _, _, _, _⟩) ?_)
                refine Stop.mk ?_
                refine wpList_new_row rfl rfl _ _ rfl rfl ty_sec _ zero_sec (by rw [u8s_length]; rfl) (u8s s) rfl (by rw [u8s_length, HL.out]) (u8s_one _) rfl ?_
                intro v2 hz hs2 hk2'
                have HZ2 := hz
                have HP2 := Lib.hid (HP1.out.keptS hk2').1
                obtain ⟨Z1, hE⟩ : ∃ b, b = v1.heap.size := ⟨_, rfl⟩
                rw [← hE] at HZ2 ⊢
                clear hz hs2 hk2' hE HP1
                go_wp2_with fail
                refine Calls.mono (H2.out _ HP2.out) ?_
                rintro e v3 ⟨rfl, hk3⟩
                have HP3 := Lib.hid (HP2.out.keptS hk3).1
                have HZ3 := Lib.hid (hk3.block HZ2.out)
                clear hk3 HP2 HZ2
                go_wp2_with (refine stop_at (o := ⟨some 17, _, _, _, _, _⟩) ?_)
                refine Stop.mk ?_
                refine wpList_new_row rfl rfl _ _ rfl rfl ty_sec _ zero_sec (by rw [u8s_length]; rfl) (u8s s) rfl (by rw [u8s_length, HL.out]) (u8s_one _) rfl ?_
                intro v4 hz hs2 hk4
                have HY4 := hz
                have HZ4 := Lib.hid (hk4.block HZ3.out)
                have HP4 := Lib.hid (HP3.out.keptS hk4).1
                obtain ⟨Z2, hE⟩ : ∃ b, b = v3.heap.size := ⟨_, rfl⟩
                rw [← hE] at HY4 ⊢
                clear hz hs2 hk4 hE HP3 HZ3
                go_wp2_with (refine stop_at (o := ⟨some 114, _, _, _, _, _⟩) ?_)
                refine Stop.mk ?_
                refine wpList_load_aggW _ rfl ty_sec Z1 0 rfl (u8s s) (by simpa using Cells.of_block HZ4.out) (by rw [u8s_length, HL.out]) rfl ?_
                go_wp2_with (refine stop_at (o := ⟨some 115, _, _, _, _, _⟩) ?_)
                refine Stop.mk ?_
                refine wpList_load_aggW _ rfl ty_sec Z2 0 rfl (u8s s) (by simpa using Cells.of_block HY4.out) (by rw [u8s_length, HL.out]) rfl ?_
                go_wp2_with (refine stop_at (o := ⟨some 116, _, _, _, _, _⟩) ?_)
                refine Stop.mk ?_
                refine wpList_neq_sec rfl _ _ rfl s s rfl rfl HL.out HL.out ?_
                go_wp2
                go_roundw
                case rel => exact ⟨k2 + 1, hl2, by go_num, HP4⟩
                case measure => simp [intOf]; omega
              · go_wp2
                go_ret
                exact ⟨rfl, HP.out.keeps⟩
          · skip
            go_wp2
            go_loopw [14] (fun i wr2 => ∃ k2 : Nat, k2 ≤ 100 ∧ i = .int .i64 k2 ∧ Hid (BR w (fun _ => False) wr2 p T q T.ref)) (fun i _ => 100 - (intOf i).toNat)
            case atStart => exact ⟨0, Nat.zero_le _, rfl, HP0⟩
            case round =>
              clear HP0
              obtain ⟨k2, hk2, rfl, HP⟩ := hrel
              by_cases hl2 : k2 < 100
              · have hdm : ((k2 : Int) % 20) = ((k2 % 20 : Nat) : Int) := by omega
                have hdq : ((k2 : Int) / 20) = ((k2 / 20 : Nat) : Int) := by omega
                have hdqt : (k2 : Int).tdiv 20 = ((k2 / 20 : Nat) : Int) := by rw [Int.tdiv_eq_ediv_of_nonneg (by omega)]; exact hdq
                have hdmt : (k2 : Int).tmod 20 = ((k2 % 20 : Nat) : Int) := by rw [Int.tmod_eq_emod_of_nonneg (by omega)]; exact hdm
                generalize k2 % 20 = a at *
                generalize k2 / 20 = d at *
                have HL : Hid ((T.read (d : Int) (a : Int)).1.length = 64) := Lib.hid (T.read_is HU.out.inv.ok _ _).1
                have H1 := Lib.hid (fun (W : World) (h : BR w (fun _ => False) W p T q T.ref) => br_Read h HU.out (d : Int) (a : Int))
                have H2 := Lib.hid (fun (W : World) (h : BR w (fun _ => False) W p T q T.ref) => br_Read2 h HDO.out (d : Int) (a : Int))
                obtain ⟨s, ec, hT'⟩ : ∃ s ec, T.read (d : Int) (a : Int) = (s, ec) := ⟨_, _, rfl⟩
                rw [hT'] at H1 H2 HL
                simp only at H1 H2 HL
                clear hT'
                go_wp2_with fail
                refine Calls.mono (H1.out _ HP.out) ?_
                rintro e v1 ⟨rfl, hk1⟩
                have HP1 := Lib.hid (HP.out.keptS hk1).1
                clear hk1 HP
                go_wp2_with (refine stop_at (o := ⟨some 15, _, _, _, _, _⟩) ?_)
                refine Stop.mk ?_
                refine wpList_new_row rfl rfl _ _ rfl rfl ty_sec _ zero_sec (by rw [u8s_length]; rfl) (u8s s) rfl (by rw [u8s_length, HL.out]) (u8s_one _) rfl ?_
                intro v2 hz hs2 hk2'
                have HZ2 := hz
                have HP2 := Lib.hid (HP1.out.keptS hk2').1
                obtain ⟨Z1, hE⟩ : ∃ b, b = v1.heap.size := ⟨_, rfl⟩
                rw [← hE] at HZ2 ⊢
                clear hz hs2 hk2' hE HP1
                go_wp2_with fail
                refine Calls.mono (H2.out _ HP2.out) ?_
                rintro e v3 ⟨rfl, hk3⟩
                have HP3 := Lib.hid (HP2.out.keptS hk3).1
                have HZ3 := Lib.hid (hk3.block HZ2.out)
                clear hk3 HP2 HZ2
                go_wp2_with (refine stop_at (o := ⟨some 17, _, _, _, _, _⟩) ?_)
                refine Stop.mk ?_
                refine wpList_new_row rfl rfl _ _ rfl rfl ty_sec _ zero_sec (by rw [u8s_length]; rfl) (u8s s) rfl (by rw [u8s_length, HL.out]) (u8s_one _) rfl ?_
                intro v4 hz hs2 hk4
                have HY4 := hz
                have HZ4 := Lib.hid (hk4.block HZ3.out)
                have HP4 := Lib.hid (HP3.out.keptS hk4).1
                obtain ⟨Z2, hE⟩ : ∃ b, b = v3.heap.size := ⟨_, rfl⟩
                rw [← hE] at HY4 ⊢
                clear hz hs2 hk4 hE HP3 HZ3
                go_wp2_with (refine stop_at (o := ⟨some 114, _, _, _, _, _⟩) ?_)
                refine Stop.mk ?_
                refine wpList_load_aggW _ rfl ty_sec Z1 0 rfl (u8s s) (by simpa using Cells.of_block HZ4.out) (by rw [u8s_length, HL.out]) rfl ?_
                go_wp2_with (refine stop_at (o := ⟨some 115, _, _, _, _, _⟩) ?_)
                refine Stop.mk ?_
                refine wpList_load_aggW _ rfl ty_sec Z2 0 rfl (u8s s) (by simpa using Cells.of_block HY4.out) (by rw [u8s_length, HL.out]) rfl ?_
                go_wp2_with (refine stop_at (o := ⟨some 116, _, _, _, _, _⟩) ?_)
                refine Stop.mk ?_
                refine wpList_neq_sec rfl _ _ rfl s s rfl rfl HL.out HL.out ?_
                go_wp2
                go_roundw
                case rel => exact ⟨k2 + 1, hl2, by go_num, HP4⟩
                case measure => simp [intOf]; omega
              · go_wp2
                go_ret
                exact ⟨rfl, HP.out.keeps⟩
end Go.Proofs.YtglplhmclfekfaaGreat
