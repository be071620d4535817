/- DiskAgain: the walk (gen_again.py). -/
import Derived.Test.YtglplhmclfekfaaDlv
import Derived.Test.YtglplhmclfekfaaAgp
namespace Go.Proofs.Ytglplhmclfekfaa
open Go.RowKit
set_option linter.unusedVariables false
set_option linter.unusedSimpArgs false

section
variable {w W : World}
set_option maxHeartbeats 2000000
set_option maxRecDepth 100000
theorem law_again (v : Value) (l : List OpD) (mask other : Int) (w : World) (hs : DSrc w v l) (hm : 0 ≤ mask ∧ mask < 18446744073709551616) (hm2 : 0 ≤ other ∧ other < 18446744073709551616) :
    Calls Try.prog 3 #[v, .int .u64 mask, .int .u64 other] w fun e w' => e = .returned (.bool true) ∧ Kept w w' := by
  have HS := Lib.hid hs
  obtain ⟨oa, cap, rfl, hcap, hmax, hrest⟩ := hs
  clear hrest
  unfold maxLen at hmax
  have HM := Lib.hid hm
  have HM2 := Lib.hid hm2
  clear hm hm2
  have HSH := Lib.hid (law_shown03 w)
  go_enter Try.func3, Try.ntmps3
  go_wp2_with fail
  refine Calls.mono HSH.out ?_
  rintro e w1 ⟨rfl, hk1⟩
  have HL := Lib.hid (law_laid w w1 (fun _ => False) hk1 (fun _ h => h.elim))
  clear hk1 HSH
  go_wp2_with fail
  refine Calls.mono HL.out ?_
  rintro e w2 ⟨q, rfl, hb, _⟩
  have HB2 := Lib.hid hb
  clear hb HL
  go_upto_block 0 with fail
  go_cut [] (fun wc => ∃ (T : BankT), Hid (Still T 3 8) ∧ T.clock ≤ 60 ∧ T.writes ≤ 60 ∧ Hid (BK w (fun _ => False) wc q T))
  case first =>
    go_wp2
    go_loopw [9] (fun i wr => ∃ (k : Nat) (T : BankT), k ≤ l.length ∧ k ≤ 60 ∧ i = .int .i64 k ∧ Hid (Still T 3 8) ∧ T.clock ≤ k ∧ T.writes = k ∧ Hid (BK w (fun _ => False) wr q T)) (fun i _ => l.length - (intOf i).toNat)
    case atStart => exact ⟨0, _, Nat.zero_le _, by decide, rfl, Lib.hid (addN_still (by decide)), by rw [(addN_rest 3).2.2.1]; exact Int.le_refl _, (addN_rest 3).2.2.2, HB2⟩
    case round =>
      obtain ⟨k, T, hk, hk60, rfl, HI, hclk, hwri, HB⟩ := hrel
      by_cases hlt : k < l.length ∧ k < 60
      · obtain ⟨hlt, h60⟩ := hlt
        obtain ⟨b, off, rfl, _, g1, g2, g3, _⟩ := HS.out.at k hlt
        obtain ⟨y1, hy1, hyl1⟩ := and_low l[k].disk 16 (by decide) (m := 65535) (by decide)
        obtain ⟨a, ha, hal⟩ := and_low l[k].at_ 3 (by decide) (m := 7) (by decide)
        have hym1 : (y1 : Int) % 3 = ((y1 % 3 : Nat) : Int) := by omega
        have hymt : (y1 : Int).tmod 3 = ((y1 % 3 : Nat) : Int) := by rw [Int.tmod_eq_emod_of_nonneg (by omega)]; exact hym1
        have hd3 : y1 % 3 < 3 := by omega
        have ha8 : a < 8 := hal
        clear hyl1 hal
        generalize l[k].disk = xd at *
        generalize l[k].at_ = xa at *
        generalize l[k].n = xn at *
        generalize y1 % 3 = d at *
        have HSN := Lib.hid (show (secN xn).length = 64 ∧ ∀ x ∈ secN xn, IsByte x from ⟨secN_len xn, secN_byte xn⟩)
        obtain ⟨T', he, hI', hc', hw', _⟩ := HI.out.write hd3 ha8 HSN.out
        have HI' := Lib.hid hI'
        have HE := Lib.hid he
        have HU := Lib.hid (bk_use HI.out (by decide) hclk (Int.le_of_eq hwri) (by omega) (by omega))
        clear hI' he
        go_upto_region 8 with fail
        have hS : Kept w wr.drew := HB.out.keeps.drew
        refine wp_region_calm ?_
        refine wp_region_E (fun W => Kept w W) 100 (by kernel_rfl) ?_
        refine wpAnyE_take (i := 0) (v := ?_) (listed' := #[true, false, false, false, false, false, false, false, false, false, false, false, false, false, false, false, false, false, false, false, false, false]) (by rfl) (by kernel_rfl) (by kernel_rfl) calm_put hS (by rfl) ?_ ?_
        rotate_left
        · intro W hW; clear hW; go_simp; try (with_reducible rfl)
        simp only [Act.put, List.getElem_toArray, List.getElem_cons_succ, List.getElem_cons_zero, List.setIfInBounds_toArray, List.set_cons_zero, List.set_cons_succ]
        refine wpAnyE_take (i := 1) (v := ?_) (listed' := #[true, true, false, false, false, false, false, false, false, false, false, false, false, false, false, false, false, false, false, false, false, false]) (by rfl) (by kernel_rfl) (by kernel_rfl) calm_put hS (by rfl) ?_ ?_
        rotate_left
        · intro W hW; clear hW; go_simp; try (with_reducible rfl)
        simp only [Act.put, List.getElem_toArray, List.getElem_cons_succ, List.getElem_cons_zero, List.setIfInBounds_toArray, List.set_cons_zero, List.set_cons_succ]
        refine wpAnyE_take (i := 2) (v := ?_) (listed' := #[true, true, true, false, false, false, false, false, false, false, false, false, false, false, false, false, false, false, false, false, false, false]) (by rfl) (by kernel_rfl) (by kernel_rfl) calm_put hS (by rfl) ?_ ?_
        rotate_left
        · intro W hW; clear hW; go_simp; try (with_reducible rfl)
        simp only [Act.put, List.getElem_toArray, List.getElem_cons_succ, List.getElem_cons_zero, List.setIfInBounds_toArray, List.set_cons_zero, List.set_cons_succ]
        refine wpAnyE_take (i := 3) (v := ?_) (listed' := #[true, true, true, true, false, false, false, false, false, false, false, false, false, false, false, false, false, false, false, false, false, false]) (by rfl) (by kernel_rfl) (by kernel_rfl) calm_put hS (by rfl) ?_ ?_
        rotate_left
        · intro W hW; clear hW; go_simp; try (with_reducible rfl)
        simp only [Act.put, List.getElem_toArray, List.getElem_cons_succ, List.getElem_cons_zero, List.setIfInBounds_toArray, List.set_cons_zero, List.set_cons_succ]
        refine wpAnyE_take (i := 4) (v := ?_) (listed' := #[true, true, true, true, true, false, false, false, false, false, false, false, false, false, false, false, false, false, false, false, false, false]) (by rfl) (by kernel_rfl) (by kernel_rfl) calm_put hS (by rfl) ?_ ?_
        rotate_left
        · intro W hW; clear hW; go_simp; try (with_reducible rfl)
        simp only [Act.put, List.getElem_toArray, List.getElem_cons_succ, List.getElem_cons_zero, List.setIfInBounds_toArray, List.set_cons_zero, List.set_cons_succ]
        refine wpAnyE_take (i := 5) (v := ?_) (listed' := #[true, true, true, true, true, true, false, false, false, false, false, false, false, false, false, false, false, false, false, false, false, false]) (by rfl) (by kernel_rfl) (by kernel_rfl) calm_put hS (by rfl) ?_ ?_
        rotate_left
        · intro W hW; have d1 := hW.cell' g1; have d2 := hW.cell' g2; have d3 := hW.cell' g3; go_simp; try (with_reducible rfl)
        simp only [Act.put, List.getElem_toArray, List.getElem_cons_succ, List.getElem_cons_zero, List.setIfInBounds_toArray, List.set_cons_zero, List.set_cons_succ]
        refine wpAnyE_take (i := 6) (v := ?_) (listed' := #[true, true, true, true, true, true, true, false, false, false, false, false, false, false, false, false, false, false, false, false, false, false]) (by rfl) (by kernel_rfl) (by kernel_rfl) calm_put hS (by rfl) ?_ ?_
        rotate_left
        · intro W hW; clear hW; go_simp; try (with_reducible rfl)
        simp only [Act.put, List.getElem_toArray, List.getElem_cons_succ, List.getElem_cons_zero, List.setIfInBounds_toArray, List.set_cons_zero, List.set_cons_succ]
        refine wpAnyE_take (i := 7) (v := ?_) (listed' := #[true, true, true, true, true, true, true, true, false, false, false, false, false, false, false, false, false, false, false, false, false, false]) (by rfl) (by kernel_rfl) (by kernel_rfl) calm_put hS (by rfl) ?_ ?_
        rotate_left
        · intro W hW; clear hW; go_simp; try (with_reducible rfl)
        simp only [Act.put, List.getElem_toArray, List.getElem_cons_succ, List.getElem_cons_zero, List.setIfInBounds_toArray, List.set_cons_zero, List.set_cons_succ]
        refine wpAnyE_take (i := 8) (v := ?_) (listed' := #[true, true, true, true, true, true, true, true, true, false, false, false, false, false, false, false, false, false, false, false, false, false]) (by rfl) (by kernel_rfl) (by kernel_rfl) calm_put hS (by rfl) ?_ ?_
        rotate_left
        · intro W hW; clear hW; go_simp; try (with_reducible rfl)
        simp only [Act.put, List.getElem_toArray, List.getElem_cons_succ, List.getElem_cons_zero, List.setIfInBounds_toArray, List.set_cons_zero, List.set_cons_succ]
        refine wpAnyE_take (i := 9) (v := ?_) (listed' := #[true, true, true, true, true, true, true, true, true, true, false, false, false, false, false, false, false, false, false, false, false, false]) (by rfl) (by kernel_rfl) (by kernel_rfl) calm_put hS (by rfl) ?_ ?_
        rotate_left
        · intro W hW; clear hW; go_simp; try (with_reducible rfl)
        simp only [Act.put, List.getElem_toArray, List.getElem_cons_succ, List.getElem_cons_zero, List.setIfInBounds_toArray, List.set_cons_zero, List.set_cons_succ]
        refine wpAnyE_take (i := 10) (v := ?_) (listed' := #[true, true, true, true, true, true, true, true, true, true, true, false, false, false, false, false, false, false, false, false, false, false]) (by rfl) (by kernel_rfl) (by kernel_rfl) calm_put hS (by rfl) ?_ ?_
        rotate_left
        · intro W hW; clear hW; go_simp; try (with_reducible rfl)
        simp only [Act.put, List.getElem_toArray, List.getElem_cons_succ, List.getElem_cons_zero, List.setIfInBounds_toArray, List.set_cons_zero, List.set_cons_succ]
        refine wpAnyE_take (i := 11) (v := ?_) (listed' := #[true, true, true, true, true, true, true, true, true, true, true, true, false, false, false, false, false, false, false, false, false, false]) (by rfl) (by kernel_rfl) (by kernel_rfl) calm_put hS (by rfl) ?_ ?_
        rotate_left
        · intro W hW; clear hW; go_simp; try (with_reducible rfl)
        simp only [Act.put, List.getElem_toArray, List.getElem_cons_succ, List.getElem_cons_zero, List.setIfInBounds_toArray, List.set_cons_zero, List.set_cons_succ]
        refine wpAnyE_take (i := 12) (v := ?_) (listed' := #[true, true, true, true, true, true, true, true, true, true, true, true, true, false, false, false, false, false, false, false, false, false]) (by rfl) (by kernel_rfl) (by kernel_rfl) calm_put hS (by rfl) ?_ ?_
        rotate_left
        · intro W hW; have d1 := hW.cell' g1; have d2 := hW.cell' g2; have d3 := hW.cell' g3; go_simp; try (with_reducible rfl)
        simp only [Act.put, List.getElem_toArray, List.getElem_cons_succ, List.getElem_cons_zero, List.setIfInBounds_toArray, List.set_cons_zero, List.set_cons_succ]
        refine wpAnyE_take (i := 13) (v := ?_) (listed' := #[true, true, true, true, true, true, true, true, true, true, true, true, true, true, false, false, false, false, false, false, false, false]) (by rfl) (by kernel_rfl) (by kernel_rfl) calm_put hS (by rfl) ?_ ?_
        rotate_left
        · intro W hW; clear hW; go_simp; try (with_reducible rfl)
        simp only [Act.put, List.getElem_toArray, List.getElem_cons_succ, List.getElem_cons_zero, List.setIfInBounds_toArray, List.set_cons_zero, List.set_cons_succ]
        refine wpAnyE_take (i := 14) (v := ?_) (listed' := #[true, true, true, true, true, true, true, true, true, true, true, true, true, true, true, false, false, false, false, false, false, false]) (by rfl) (by kernel_rfl) (by kernel_rfl) calm_put hS (by rfl) ?_ ?_
        rotate_left
        · intro W hW; clear hW; go_simp; try (with_reducible rfl)
        simp only [Act.put, List.getElem_toArray, List.getElem_cons_succ, List.getElem_cons_zero, List.setIfInBounds_toArray, List.set_cons_zero, List.set_cons_succ]
        refine wpAnyE_take (i := 15) (v := ?_) (listed' := #[true, true, true, true, true, true, true, true, true, true, true, true, true, true, true, true, false, false, false, false, false, false]) (by rfl) (by kernel_rfl) (by kernel_rfl) calm_put hS (by rfl) ?_ ?_
        rotate_left
        · intro W hW; clear hW; go_simp; try (with_reducible rfl)
        simp only [Act.put, List.getElem_toArray, List.getElem_cons_succ, List.getElem_cons_zero, List.setIfInBounds_toArray, List.set_cons_zero, List.set_cons_succ]
        refine wpAnyE_take (i := 16) (v := ?_) (listed' := #[true, true, true, true, true, true, true, true, true, true, true, true, true, true, true, true, true, false, false, false, false, false]) (by rfl) (by kernel_rfl) (by kernel_rfl) calm_put hS (by rfl) ?_ ?_
        rotate_left
        · intro W hW; clear hW; go_simp; try (with_reducible rfl)
        simp only [Act.put, List.getElem_toArray, List.getElem_cons_succ, List.getElem_cons_zero, List.setIfInBounds_toArray, List.set_cons_zero, List.set_cons_succ]
        refine wpAnyE_take (i := 17) (v := ?_) (listed' := #[true, true, true, true, true, true, true, true, true, true, true, true, true, true, true, true, true, true, false, false, false, false]) (by rfl) (by kernel_rfl) (by kernel_rfl) calm_put hS (by rfl) ?_ ?_
        rotate_left
        · intro W hW; clear hW; go_simp; try (with_reducible rfl)
        simp only [Act.put, List.getElem_toArray, List.getElem_cons_succ, List.getElem_cons_zero, List.setIfInBounds_toArray, List.set_cons_zero, List.set_cons_succ]
        refine wpAnyE_take (i := 18) (v := ?_) (listed' := #[true, true, true, true, true, true, true, true, true, true, true, true, true, true, true, true, true, true, true, false, false, false]) (by rfl) (by kernel_rfl) (by kernel_rfl) calm_put hS (by rfl) ?_ ?_
        rotate_left
        · intro W hW; clear hW; go_simp; try (with_reducible rfl)
        simp only [Act.put, List.getElem_toArray, List.getElem_cons_succ, List.getElem_cons_zero, List.setIfInBounds_toArray, List.set_cons_zero, List.set_cons_succ]
        refine wpAnyE_take (i := 19) (v := ?_) (listed' := #[true, true, true, true, true, true, true, true, true, true, true, true, true, true, true, true, true, true, true, true, false, false]) (by rfl) (by kernel_rfl) (by kernel_rfl) calm_put hS (by rfl) ?_ ?_
        rotate_left
        · intro W hW; have d1 := hW.cell' g1; have d2 := hW.cell' g2; have d3 := hW.cell' g3; go_simp; try (with_reducible rfl)
        simp only [Act.put, List.getElem_toArray, List.getElem_cons_succ, List.getElem_cons_zero, List.setIfInBounds_toArray, List.set_cons_zero, List.set_cons_succ]
        refine wpAnyE_one (i := 20) (listed' := #[true, true, true, true, true, true, true, true, true, true, true, true, true, true, true, true, true, true, true, true, true, false]) (by rfl) (by kernel_rfl) (by kernel_rfl) (by rfl) (fun K hK => ?_)
        simp only [Act.put, List.getElem_toArray, List.getElem_cons_succ, List.getElem_cons_zero, List.setIfInBounds_toArray, List.set_cons_zero, List.set_cons_succ]
        go_wp2_with fail
        refine Calls.mono (law_sector xn _) ?_
        rintro e w4 ⟨rfl, hks⟩
        have hS := hS.trans hks
        have hB4 := (HB.out.kept ((Kept.refl wr).drew.trans hks)).1
        refine hK _ _ (fun _ => hS) ?_; clear hK K
        refine wpAnyE_one (i := 21) (listed' := #[true, true, true, true, true, true, true, true, true, true, true, true, true, true, true, true, true, true, true, true, true, true]) (by rfl) (by kernel_rfl) (by kernel_rfl) (by rfl) (fun K hK => ?_)
        simp only [Act.put, List.getElem_toArray, List.getElem_cons_succ, List.getElem_cons_zero, List.setIfInBounds_toArray, List.set_cons_zero, List.set_cons_succ]
        go_wp2_with fail
        refine Calls.mono (st_write hB4 HU.out (d : Int) (a : Int) (s := secN xn) (secN_len xn) (by rw [HE.out]) (by rw [HE.out])) ?_
        rintro e w5 ⟨rfl, hb5, hr5⟩
        refine hK _ _ (fun _ => hb5.keeps) ?_; clear hK K
        refine wpAnyE_done (by kernel_rfl) ?_ _
        refine calm_normal ?_
        have HB5 := Lib.hid hb5
        clear hb5 hr5 hS hB4 g1 g2 g3
        go_wp2
        go_roundw
        case rel => exact ⟨k + 1, T', hlt, h60, by go_num, HI', by omega, by omega, HB5⟩
        case measure => simp [intOf]; omega
      · have hkk : l.length ≤ k ∨ (k < l.length ∧ 60 ≤ k) := by omega
        clear hlt
        rcases hkk with hkk | ⟨hkk, h60⟩
        all_goals
          go_wp2
          go_meet
          case rel => exact ⟨T, HI, by omega, by omega, HB⟩
  case rest =>
    clear HS HB2
    obtain ⟨T, HI, hclk, hwri, HB⟩ := hcut
    have HU := Lib.hid (bk_use HI.out (by decide) hclk hwri (by omega) (by omega))
    have hup := HI.out.up
    have HST := Lib.hid (start_self hup)
    have hln : T.looseN ≤ 24 := by
      have h := looseTo_sz HI.out.toShape (Nat.le_refl 3)
      unfold BankT.looseN
      rw [HI.out.len]; exact h
    have hlz : ((24 : Int) < (T.looseN : Int)) = False := by simp; omega
    have hw0 := HI.out.inv.wr
    have HC := Lib.hid (AgC.of HI.out mask)
    have hcc : (T.crash mask).clock = T.clock := (HI.out.crash mask).2.1
    have HPOS : Hid (∀ k, k < T.l.length → 0 < (T.d k).sin.length) := Lib.hid (fun k hk => by rw [HI.out.sz k (by rw [← HI.out.len]; exact hk)]; decide)
    obtain ⟨x, hx⟩ : ∃ x, x = T.writes := ⟨_, rfl⟩
    rw [← hx] at HC hwri hw0
    have HX := Lib.hid hx
    clear hup hx
    go_wp2_with fail
    refine Calls.mono (bk_Writes HB.out) ?_
    rintro e w3 ⟨rfl, rfl⟩
    rw [← HX.out]
    go_wp2_with fail
    refine Calls.mono (bk_Start HB.out) ?_
    rintro e w3 ⟨rfl, hb3, _⟩
    rw [HST.out] at hb3
    have HB3 := Lib.hid hb3
    clear hb3 HB
    go_wp2_with fail
    refine Calls.mono (bk_Loose HB3.out HU.out) ?_
    rintro e w4 ⟨rfl, hb4, _⟩
    have HB4 := Lib.hid hb4
    clear hb4 HB3
    generalize T.looseN = ln at *
    go_wp2_with fail
    refine Calls.mono (bk_Clone HB4.out HI.out.inv.ok HPOS.out) ?_
    rintro e w5 ⟨qb, rfl, hb5⟩
    have HB5 := Lib.hid hb5
    clear hb5 HB4 HPOS
    go_wp2_with fail
    refine Calls.mono (HB5.out.op (fun R hb => bk_Crash hb HU.out mask HM.out.1 HM.out.2)) ?_
    rintro e w6 ⟨rfl, hb6, _⟩
    have HB6 := Lib.hid hb6
    clear hb6 HB5
    go_wp2_with fail
    refine Calls.mono (HB6.out.op2 (fun R hb => bk_Crash hb HU.out mask HM.out.1 HM.out.2)) ?_
    rintro e w7 ⟨rfl, hb7, _⟩
    have HB7 := Lib.hid hb7
    clear hb7 HB6 HU HI HST HX
    generalize T.crash mask = C at *
    have hcl : C.clock < 1000000000 := by omega
    have HUC := Lib.hid (HC.out.use (by omega) hcl)
    have HUF := Lib.hid (HC.out.useF (by omega) hcl)
    have HCD := Lib.hid (crash_down HC.out.down other)
    have HCL := Lib.hid hcl
    clear hcl hcc
    go_wp2_with fail
    refine Calls.mono (HB7.out.op (fun R hb => bk_Crash hb HUC.out other HM2.out.1 HM2.out.2)) ?_
    rintro e w8 ⟨rfl, hb8, _⟩
    rw [HCD.out] at hb8
    have HB8 := Lib.hid hb8
    clear hb8 HB7
    have HFA := Lib.hid (show Calls Try.prog 17 #[.pointer (some ⟨q, 0, none⟩), .int .i64 0, .int .i64 1] w8 fun e w' => e = .returned (.tuple #[]) ∧ BK2 w (fun _ => False) w' q (C.failing 1) qb C ∧ SameR (fun _ => False) w8 w' from HB8.out.op (fun R hb => bk_FailAt hb (k := 0) (by rw [HC.out.sh.len]; decide) 1))
    go_wp2_with fail
    refine Calls.mono HFA.out ?_
    rintro e w9 ⟨rfl, hb9, _⟩
    have HB9 := Lib.hid hb9
    clear hb9 HB8 HFA
    go_wp2_with fail
    refine Calls.mono (law_sector 1 w9) ?_
    rintro e w10 ⟨rfl, hk10⟩
    have HB10 := Lib.hid (HB9.out.kept hk10)
    clear hk10 HB9
    go_wp2_with fail
    refine Calls.mono (HB10.out.op (fun R hb => st_writeE hb HUF.out 0 0 (s := secN 1) (secN_len 1) (HC.out.writeF (secN 1)))) ?_
    rintro e w11 ⟨rfl, hb11, _⟩
    have HB11 := Lib.hid hb11
    clear hb11 HB10
    have HWR := Lib.hid ((bk_Writes HB11.out.fst).mono (R' := fun e' w' => e' = .returned (.int .i64 x) ∧ w11 = w') fun e' w' ⟨h1, h2⟩ => ⟨by rw [h1, show (C.failing 1).writes = C.writes from rfl, HC.out.wr], h2⟩)
    go_wp2_with fail
    refine Calls.mono HWR.out ?_
    rintro e w12 ⟨rfl, rfl⟩
    have HDD := Lib.hid (show Calls Try.prog 18 #[.pointer (some ⟨q, 0, none⟩), .int .i64 0] w11 fun e w' => e = .returned (.bool false) ∧ w11 = w' from (bk_Dead HB11.out.fst (k := 0) HC.out.lenF).mono fun e' w' ⟨h1, h2⟩ => ⟨by rw [h1, HC.out.deadF], h2⟩)
    clear HWR
    go_wp2_with fail
    refine Calls.mono HDD.out ?_
    rintro e w12 ⟨rfl, rfl⟩
    have HFB := Lib.hid (show Calls Try.prog 17 #[.pointer (some ⟨q, 0, none⟩), .int .i64 0, .int .i64 0] w11 fun e w' => e = .returned (.tuple #[]) ∧ BK2 w (fun _ => False) w' q ((C.failing 1).failing 0) qb C ∧ SameR (fun _ => False) w11 w' from HB11.out.op (fun R hb => bk_FailAt hb (k := 0) HC.out.lenF 0))
    rw [HC.out.back] at HFB
    clear HDD HUF HCD
    go_wp2_with fail
    refine Calls.mono HFB.out ?_
    rintro e w12 ⟨rfl, hb12, _⟩
    have HB12 := Lib.hid hb12
    clear hb12 HB11 HFB
    go_wp2_with fail
    refine Calls.mono (HB12.out.op (fun R hb => bk_Start hb)) ?_
    rintro e w13 ⟨rfl, hb13, _⟩
    have HB13 := Lib.hid hb13
    clear hb13 HB12
    go_wp2_with fail
    refine Calls.mono (HB13.out.op2 (fun R hb => bk_Start hb)) ?_
    rintro e w14 ⟨rfl, hb14, _⟩
    have HB14 := Lib.hid hb14
    clear hb14 HB13
    have HSS := Lib.hid HC.out.st
    have hsw : C.start.writes = x := HC.out.wr
    have hsc : C.start.clock < 1000000000 := HCL.out
    clear HC HCL HUC
    generalize C.start = S at *
    have HUS := Lib.hid (show S.Use from ⟨HSS.out.inv, by rw [HSS.out.len]; decide, hsc, by omega⟩)
    go_wp2
    go_loopw [13] (fun i wr => ∃ k : Nat, k ≤ 24 ∧ i = .int .i64 k ∧ Hid (BK2 w (fun _ => False) wr q S qb S)) (fun i _ => 24 - (intOf i).toNat)
    case atStart => exact ⟨0, Nat.zero_le _, rfl, HB14⟩
    case round =>
      clear HB14
      obtain ⟨k, hk, rfl, HB⟩ := hrel
      by_cases hlt : k < 24
      · have hdq : ((k : Int) / 8) = ((k / 8 : Nat) : Int) := by omega
        have hd3 : k / 8 < 3 := by omega
        obtain ⟨a, ha, hal⟩ := and_low (k : Int) 3 (by decide) (m := 7) (by decide)
        have ha8 : a < 8 := hal
        generalize k / 8 = d at *
        have hrd := HSS.out.read hd3 ha8
        have hx64 : (S.N d a).length = 64 := ((HSS.out.inv.ok.d (k := d) (by rw [HSS.out.len]; exact hd3)).new.at (i := a) (by rw [HSS.out.sz d hd3]; exact ha8)).1
        generalize S.N d a = xs at *
        have HX64 := Lib.hid hx64
        have HR := Lib.hid hrd
        clear hrd hx64 hal
        go_wp2_with fail
        refine Calls.mono (st_read HB.out.fst HUS.out (d : Int) (a : Int) HR.out) ?_
        rintro e' w8 ⟨rfl, hb8, hk8⟩
        have HB8 := Lib.hid (HB.out.kept hk8)
        clear hb8 hk8 HB
        go_wp2_with (refine stop_at (o := ⟨some 14, _, _, _, _, _⟩) ?_)
        refine Stop.mk ?_
        refine wpList_new_row rfl rfl _ _ rfl rfl ty_sec (u8s zeroB) zero_sec (by rw [u8s_length, zeroB_length]) (u8s xs) rfl (by rw [u8s_length, HX64.out]) (u8s_one _) rfl ?_
        intro w9 hz9 hs9 hk9
        have HX9 := hz9
        have HB9 := Lib.hid (HB8.out.kept hk9)
        clear hz9 hs9 hk9 HB8
        go_wp2_with fail
        refine Calls.mono (st_read HB9.out.symm.fst HUS.out (d : Int) (a : Int) HR.out) ?_
        rintro e' w10 ⟨rfl, hb10, hk10⟩
        have HB10 := Lib.hid (HB9.out.kept hk10)
        have HX10 := Lib.hid (hk10.block HX9.out)
        clear hb10 hk10 HB9 HX9
        go_wp2_with (refine stop_at (o := ⟨some 16, _, _, _, _, _⟩) ?_)
        refine Stop.mk ?_
        refine wpList_new_row rfl rfl _ _ rfl rfl ty_sec (u8s zeroB) zero_sec (by rw [u8s_length, zeroB_length]) (u8s xs) rfl (by rw [u8s_length, HX64.out]) (u8s_one _) rfl ?_
        intro w11 hz11 hs11 hk11
        have HB11 := Lib.hid (HB10.out.kept hk11)
        have HX11 := Lib.hid (hk11.block HX10.out)
        have HY11 := hz11
        clear hz11 hs11 hk11 HB10 HX10
        go_wp2_with (refine stop_at (o := ⟨some 124, _, _, _, _, _⟩) ?_)
        refine Stop.mk ?_
        refine wpList_load_agg rfl _ rfl ty_sec w8.heap.size 0 rfl (u8s xs) (by simpa using Cells.of_block HX11.out) (by rw [u8s_length, HX64.out]) ?_
        go_wp2_with (refine stop_at (o := ⟨some 125, _, _, _, _, _⟩) ?_)
        refine Stop.mk ?_
        refine wpList_load_agg rfl _ rfl ty_sec w10.heap.size 0 rfl (u8s xs) (by simpa using Cells.of_block HY11.out) (by rw [u8s_length, HX64.out]) ?_
        go_wp2_with (refine stop_at (o := ⟨some 126, _, _, _, _, _⟩) ?_)
        refine Stop.mk ?_
        refine wpList_neq_sec rfl _ _ rfl xs xs rfl rfl HX64.out HX64.out ?_
        rw [show (xs == xs) = true by simp]
        clear HX11 HY11
        go_wp2
        go_roundw
        case rel => exact ⟨k + 1, hlt, by go_num, HB11⟩
        case measure => simp [intOf]; omega
      · obtain ⟨T', he, _, _, hw', _⟩ := HSS.out.write (d := 0) (a := 0) (by decide) (by decide) (s := secN 1) ⟨secN_len 1, secN_byte 1⟩
        have hw2 : T'.writes = x + 1 := by rw [hw', hsw]
        have HE := Lib.hid (show S.write 0 0 (secN 1) = (T', 0) from he)
        have HW2 := Lib.hid hw2
        clear he hw' hw2
        go_wp2_with fail
        refine Calls.mono (law_sector 1 _) ?_
        rintro e w15 ⟨rfl, hk15⟩
        have HB15 := Lib.hid (HB.out.kept hk15)
        clear hk15 HB
        go_wp2_with fail
        refine Calls.mono (HB15.out.op (fun R hb => st_writeE hb HUS.out 0 0 (s := secN 1) (secN_len 1) HE.out)) ?_
        rintro e w16 ⟨rfl, hb16, _⟩
        have HB16 := Lib.hid hb16
        clear hb16 HB15
        have HWR := Lib.hid ((bk_Writes HB16.out.fst).mono (R' := fun e' w' => e' = .returned (.int .i64 (x + 1)) ∧ w16 = w') fun e' w' ⟨h1, h2⟩ => ⟨by rw [h1, HW2.out], h2⟩)
        go_wp2_with fail
        refine Calls.mono HWR.out ?_
        rintro e w17 ⟨rfl, rfl⟩
        have HK := Lib.hid HB16.out.keeps
        go_wp2
        go_ret
        exact ⟨rfl, HK.out⟩
end
end Go.Proofs.Ytglplhmclfekfaa
