/- DiskFails: the walk (gen_fails.py). -/
import Derived.Test.YtcbghpcohbgcjaaDlv
import Derived.Test.YtcbghpcohbgcjaaDls
namespace Go.Proofs.Ytcbghpcohbgcjaa
open Go.RowKit
set_option linter.unusedVariables false
set_option linter.unusedSimpArgs false

section
variable {w W : World}
set_option maxHeartbeats 4000000
set_option maxRecDepth 100000
theorem law_fails (v : Value) (l : List OpD) (who0 n0 : Int) (w : World) (hs : DSrc w v l) :
    Calls Try.prog 3 #[v, .int .i64 who0, .int .i64 n0] w fun e w' => e = .returned (.bool true) ∧ Kept w w' := by
  have HS := Lib.hid hs
  obtain ⟨oa, cap, rfl, hcap, hmax, hrest⟩ := hs
  clear hrest
  unfold maxLen at hmax
  obtain ⟨yw, hyw, hywl⟩ := and_low who0 16 (by decide) (m := 65535) (by decide)
  have hywm : (yw : Int) % 3 = ((yw % 3 : Nat) : Int) := by omega
  have hw3 : yw % 3 < 3 := by omega
  clear hywl
  generalize yw % 3 = who at *
  have hw1m : ((who : Int) + 1) % 3 = (((who + 1) % 3 : Nat) : Int) := by omega
  have hw13 : (who + 1) % 3 < 3 := by omega
  have hw1n : (who + 1) % 3 ≠ who := by omega
  generalize (who + 1) % 3 = who1 at *
  have HW1 := Lib.hid hw1m; clear hw1m
  obtain ⟨y, hy, hyl⟩ := and_low n0 5 (by decide) (m := 31) (by decide)
  have hyl' : y < 32 := hyl
  clear hyl
  obtain ⟨n, hn⟩ : ∃ n : Nat, (1 : Int) + (y : Int) = (n : Int) ∧ n ≤ 32 ∧ 0 < n := ⟨1 + y, by omega, by omega, by omega⟩
  obtain ⟨hn1, hn32, hn0⟩ := hn
  have HSH := Lib.hid (law_shown03 w)
  go_enter Try.func3, Try.ntmps3
  go_wp2_with fail
  refine Calls.mono HSH.out ?_
  rintro e w1 ⟨rfl, hk1⟩
  have HL := Lib.hid (law_laid w w1 (fun _ => False) hk1 (fun _ h => h.elim))
  clear hk1 HSH
  go_wp2_with fail
  refine Calls.mono HL.out ?_
  rintro e w2 ⟨qa, rfl, hb, hr⟩
  have HB2 := Lib.hid hb
  clear hb hr HL
  go_wp2_with fail
  refine Calls.mono (laid2 HB2.out) ?_
  rintro e w3 ⟨qb, rfl, hb⟩
  have HB3 := Lib.hid hb
  clear hb HB2
  go_wp2_with fail
  refine Calls.mono (HB3.out.op (fun R hb => bk_FailAt hb (k := who) (by rw [(addN_still (by decide) : Still (addN 3) 3 8).len]; exact hw3) (n : Int))) ?_
  rintro e w4 ⟨rfl, hb, hr⟩
  have HB4 := Lib.hid hb
  have HI4 := Lib.hid (FaI.start hw3 hn0 hn32)
  have HCK : Hid (((addN 3).up who { (addN 3).d who with fail := max (n : Int) 0 }).clock ≤ 0 ∧ (addN 3).clock ≤ 0) := Lib.hid ⟨Int.le_of_eq (addN_rest 3).2.2.1, Int.le_of_eq (addN_rest 3).2.2.1⟩
  clear hb hr HB3
  generalize (addN 3).up who { (addN 3).d who with fail := max (n : Int) 0 } = Ta0 at *
  try simp only [hywm]
  try simp only [hn1]
  clear hyw hywm hy hyl' hn1
  go_upto_block 0 with fail
  go_cut [10] (fun cw wc => ∃ (c : Nat) (Ta Tb : BankT), cw = .int .i64 c ∧ Hid (FaI who n c Ta Tb) ∧ c ≤ 80 ∧ Ta.clock ≤ 80 ∧ Tb.clock ≤ 80 ∧ Hid (BK2 w (fun _ => False) wc qa Ta qb Tb))
  case first =>
    go_wp2
    go_loopw [10, 11] (fun cw i wr => ∃ (k c : Nat) (Ta Tb : BankT), k ≤ l.length ∧ k ≤ 80 ∧ i = .int .i64 k ∧ cw = .int .i64 c ∧ c ≤ k ∧ Ta.clock ≤ k ∧ Tb.clock ≤ k ∧ Hid (FaI who n c Ta Tb) ∧ Hid (BK2 w (fun _ => False) wr qa Ta qb Tb)) (fun _ i _ => l.length - (intOf i).toNat)
    case atStart => exact ⟨0, 0, _, _, Nat.zero_le _, by decide, rfl, rfl, Nat.le_refl _, HCK.out.1, HCK.out.2, HI4, HB4⟩
    case round =>
      obtain ⟨k, c, Ta, Tb, hk, hk80, rfl, rfl, hck, hclka, hclkb, HI, HB⟩ := hrel
      by_cases hlt : k < l.length ∧ k < 80
      · obtain ⟨hlt, h80⟩ := hlt
        obtain ⟨b, off, rfl, g0, g1, g2, g3, g4, g5, g6⟩ := HS.out.at k hlt
        obtain ⟨y1, hy1, hyl1⟩ := and_low l[k].disk 16 (by decide) (m := 65535) (by decide)
        obtain ⟨a, ha, hal⟩ := and_low l[k].at_ 3 (by decide) (m := 7) (by decide)
        have hym1 : (y1 : Int) % 3 = ((y1 % 3 : Nat) : Int) := by omega
        have hymt : (y1 : Int).tmod 3 = ((y1 % 3 : Nat) : Int) := by rw [Int.tmod_eq_emod_of_nonneg (by omega)]; exact hym1
        have hd3 : y1 % 3 < 3 := by omega
        have ha8 : a < 8 := hal
        have hkd : (l[k].kind == 2) = true ∨ (l[k].kind == 2) = false := by cases (l[k].kind == 2) <;> simp
        clear hal hyl1 g4 g5 g6
        generalize l[k].kind = xk at *
        generalize l[k].disk = xd at *
        generalize l[k].at_ = xa at *
        generalize l[k].n = xn at *
        generalize y1 % 3 = d at *
        have HSN := Lib.hid (show (secN xn).length = 64 ∧ ∀ x ∈ secN xn, IsByte x from ⟨secN_len xn, secN_byte xn⟩)
        obtain ⟨u1, u2⟩ := HI.out.use (by omega) (by omega) (by omega)
        have HU1 := Lib.hid u1; have HU2 := Lib.hid u2
        clear u1 u2
        have c0 := HB.out.keeps.cell' g0
        have c1 := HB.out.keeps.cell' g1
        have c2 := HB.out.keeps.cell' g2
        go_upto_region 13 with fail
        have hS : Kept wr wr.drew := (Kept.refl wr).drew
        refine wp_region_calm ?_
        refine wp_region_E (fun W => Kept wr W) 15 (by kernel_rfl) ?_
        refine wpAnyE_take (i := 0) (v := ?_) (listed' := #[true, false, false, false, false, false, false, false, false, false, false, false, false, false, false, false]) (by rfl) (by kernel_rfl) (by kernel_rfl) calm_put hS (by rfl) ?_ ?_
        rotate_left
        · intro W hW; clear hW; go_simp; try (with_reducible rfl)
        simp only [Act.put, List.getElem_toArray, List.getElem_cons_succ, List.getElem_cons_zero, List.setIfInBounds_toArray, List.set_cons_zero, List.set_cons_succ]
        refine wpAnyE_take (i := 1) (v := ?_) (listed' := #[true, true, false, false, false, false, false, false, false, false, false, false, false, false, false, false]) (by rfl) (by kernel_rfl) (by kernel_rfl) calm_put hS (by rfl) ?_ ?_
        rotate_left
        · intro W hW; clear hW; go_simp; try (with_reducible rfl)
        simp only [Act.put, List.getElem_toArray, List.getElem_cons_succ, List.getElem_cons_zero, List.setIfInBounds_toArray, List.set_cons_zero, List.set_cons_succ]
        refine wpAnyE_take (i := 2) (v := ?_) (listed' := #[true, true, true, false, false, false, false, false, false, false, false, false, false, false, false, false]) (by rfl) (by kernel_rfl) (by kernel_rfl) calm_put hS (by rfl) ?_ ?_
        rotate_left
        · intro W hW; clear hW; go_simp; try (with_reducible rfl)
        simp only [Act.put, List.getElem_toArray, List.getElem_cons_succ, List.getElem_cons_zero, List.setIfInBounds_toArray, List.set_cons_zero, List.set_cons_succ]
        refine wpAnyE_take (i := 3) (v := ?_) (listed' := #[true, true, true, true, false, false, false, false, false, false, false, false, false, false, false, false]) (by rfl) (by kernel_rfl) (by kernel_rfl) calm_put hS (by rfl) ?_ ?_
        rotate_left
        · intro W hW; clear hW; go_simp; try (with_reducible rfl)
        simp only [Act.put, List.getElem_toArray, List.getElem_cons_succ, List.getElem_cons_zero, List.setIfInBounds_toArray, List.set_cons_zero, List.set_cons_succ]
        refine wpAnyE_take (i := 4) (v := ?_) (listed' := #[true, true, true, true, true, false, false, false, false, false, false, false, false, false, false, false]) (by rfl) (by kernel_rfl) (by kernel_rfl) calm_put hS (by rfl) ?_ ?_
        rotate_left
        · intro W hW; have d1 := hW.cell' c1; have d2 := hW.cell' c2; go_simp; try (with_reducible rfl)
        simp only [Act.put, List.getElem_toArray, List.getElem_cons_succ, List.getElem_cons_zero, List.setIfInBounds_toArray, List.set_cons_zero, List.set_cons_succ]
        refine wpAnyE_take (i := 5) (v := ?_) (listed' := #[true, true, true, true, true, true, false, false, false, false, false, false, false, false, false, false]) (by rfl) (by kernel_rfl) (by kernel_rfl) calm_put hS (by rfl) ?_ ?_
        rotate_left
        · intro W hW; clear hW; go_simp; try (with_reducible rfl)
        simp only [Act.put, List.getElem_toArray, List.getElem_cons_succ, List.getElem_cons_zero, List.setIfInBounds_toArray, List.set_cons_zero, List.set_cons_succ]
        refine wpAnyE_take (i := 6) (v := ?_) (listed' := #[true, true, true, true, true, true, true, false, false, false, false, false, false, false, false, false]) (by rfl) (by kernel_rfl) (by kernel_rfl) calm_put hS (by rfl) ?_ ?_
        rotate_left
        · intro W hW; clear hW; go_simp; try (with_reducible rfl)
        simp only [Act.put, List.getElem_toArray, List.getElem_cons_succ, List.getElem_cons_zero, List.setIfInBounds_toArray, List.set_cons_zero, List.set_cons_succ]
        refine wpAnyE_take (i := 7) (v := ?_) (listed' := #[true, true, true, true, true, true, true, true, false, false, false, false, false, false, false, false]) (by rfl) (by kernel_rfl) (by kernel_rfl) calm_put hS (by rfl) ?_ ?_
        rotate_left
        · intro W hW; clear hW; go_simp; try (with_reducible rfl)
        simp only [Act.put, List.getElem_toArray, List.getElem_cons_succ, List.getElem_cons_zero, List.setIfInBounds_toArray, List.set_cons_zero, List.set_cons_succ]
        refine wpAnyE_take (i := 8) (v := ?_) (listed' := #[true, true, true, true, true, true, true, true, true, false, false, false, false, false, false, false]) (by rfl) (by kernel_rfl) (by kernel_rfl) calm_put hS (by rfl) ?_ ?_
        rotate_left
        · intro W hW; clear hW; go_simp; try (with_reducible rfl)
        simp only [Act.put, List.getElem_toArray, List.getElem_cons_succ, List.getElem_cons_zero, List.setIfInBounds_toArray, List.set_cons_zero, List.set_cons_succ]
        refine wpAnyE_take (i := 9) (v := ?_) (listed' := #[true, true, true, true, true, true, true, true, true, true, false, false, false, false, false, false]) (by rfl) (by kernel_rfl) (by kernel_rfl) calm_put hS (by rfl) ?_ ?_
        rotate_left
        · intro W hW; clear hW; go_simp; try (with_reducible rfl)
        simp only [Act.put, List.getElem_toArray, List.getElem_cons_succ, List.getElem_cons_zero, List.setIfInBounds_toArray, List.set_cons_zero, List.set_cons_succ]
        refine wpAnyE_take (i := 10) (v := ?_) (listed' := #[true, true, true, true, true, true, true, true, true, true, true, false, false, false, false, false]) (by rfl) (by kernel_rfl) (by kernel_rfl) calm_put hS (by rfl) ?_ ?_
        rotate_left
        · intro W hW; clear hW; go_simp; try (with_reducible rfl)
        simp only [Act.put, List.getElem_toArray, List.getElem_cons_succ, List.getElem_cons_zero, List.setIfInBounds_toArray, List.set_cons_zero, List.set_cons_succ]
        refine wpAnyE_take (i := 11) (v := ?_) (listed' := #[true, true, true, true, true, true, true, true, true, true, true, true, false, false, false, false]) (by rfl) (by kernel_rfl) (by kernel_rfl) calm_put hS (by rfl) ?_ ?_
        rotate_left
        · intro W hW; have d1 := hW.cell' c1; have d2 := hW.cell' c2; go_simp; try (with_reducible rfl)
        simp only [Act.put, List.getElem_toArray, List.getElem_cons_succ, List.getElem_cons_zero, List.setIfInBounds_toArray, List.set_cons_zero, List.set_cons_succ]
        refine wpAnyE_take (i := 12) (v := ?_) (listed' := #[true, true, true, true, true, true, true, true, true, true, true, true, true, false, false, false]) (by rfl) (by kernel_rfl) (by kernel_rfl) calm_put hS (by rfl) ?_ ?_
        rotate_left
        · intro W hW; clear hW; go_simp; try (with_reducible rfl)
        simp only [Act.put, List.getElem_toArray, List.getElem_cons_succ, List.getElem_cons_zero, List.setIfInBounds_toArray, List.set_cons_zero, List.set_cons_succ]
        refine wpAnyE_take (i := 13) (v := ?_) (listed' := #[true, true, true, true, true, true, true, true, true, true, true, true, true, true, false, false]) (by rfl) (by kernel_rfl) (by kernel_rfl) calm_put hS (by rfl) ?_ ?_
        rotate_left
        · intro W hW; clear hW; go_simp; try (with_reducible rfl)
        simp only [Act.put, List.getElem_toArray, List.getElem_cons_succ, List.getElem_cons_zero, List.setIfInBounds_toArray, List.set_cons_zero, List.set_cons_succ]
        refine wpAnyE_one (i := 14) (listed' := #[true, true, true, true, true, true, true, true, true, true, true, true, true, true, true, false]) (by rfl) (by kernel_rfl) (by kernel_rfl) (by rfl) (fun K hK => ?_)
        simp only [Act.put, List.getElem_toArray, List.getElem_cons_succ, List.getElem_cons_zero, List.setIfInBounds_toArray, List.set_cons_zero, List.set_cons_succ]
        refine wp_alloc_abs _ rfl _ zero_plc ?_
        intro wp hzp hsp hkp
        refine hK _ _ (fun _ => hS.trans hkp) ?_; clear hK K
        refine wpAnyE_one (i := 15) (listed' := #[true, true, true, true, true, true, true, true, true, true, true, true, true, true, true, true]) (by rfl) (by kernel_rfl) (by kernel_rfl) (by rfl) (fun K hK => ?_)
        simp only [Act.put, List.getElem_toArray, List.getElem_cons_succ, List.getElem_cons_zero, List.setIfInBounds_toArray, List.set_cons_zero, List.set_cons_succ]
        refine wp_store_agg _ _ rfl ty_plc _ 0 rfl [.int .i64 (d : Int), .int .i64 (a : Int)] rfl rfl (by intro u hu; simp at hu; rcases hu with rfl | rfl <;> rfl) _ _ hzp.out (by simp) ?_
        intro wq hwq
        refine hK _ _ (fun h => absurd rfl h) ?_; clear hK K
        refine wpAnyE_done (by kernel_rfl) ?_ _
        refine calm_normal ?_

        replace hwq := hwq.all rfl
        have hk5 : Kept wr wq := hwq.kept (hS.trans hkp) (Nat.le_refl _)
        have hBl : wr.drew.heap.size < wq.heap.size := by rw [hwq.size]; exact hsp
        have HB5 := Lib.hid ((HB.out.more hk5 wr.drew.heap.size (show wr.heap.size ≤ wr.drew.heap.size from Nat.le_refl _) hBl).less (R' := fun k => k = wr.drew.heap.size) (fun k h => .inr h))
        have p0 : wq.cell? ⟨wr.drew.heap.size, 0, none⟩ = some (.int .i64 (d : Int)) := cell_of_row _ _ 0 _ _ _ hwq.blk
        have p1 : wq.cell? ⟨wr.drew.heap.size, 1, none⟩ = some (.int .i64 (a : Int)) := cell_of_row _ _ 1 _ _ _ hwq.blk
        have c0q := hk5.cell' c0
        have c3q := hk5.cell' (HB.out.keeps.cell' g3)
        clear hwq hzp hsp hkp hS hk5 hBl c0 c1 c2 hy1 hym1 hymt ha
        generalize wr.drew.heap.size = Bp at *
        rcases hkd with hkd | hkd
        · obtain ⟨e, Ta', Tb', e1, e2, HI', he, hca, hcb⟩ := HI.out.flush hd3
          have HI2 := Lib.hid HI'
          have HE1 := Lib.hid e1; have HE2 := Lib.hid e2
          have HEE := Lib.hid he
          clear HI' e1 e2 g1 g2 g3 he
          go_wp2_with fail
          refine Calls.mono (HB5.out.op (fun R hb => st_flush (c := e) (T' := Ta') hb HU1.out (d : Int) (by rw [HE1.out]) (by rw [HE1.out]))) ?_
          rintro e' w6 ⟨rfl, hb6, hr6⟩
          have HB6 := Lib.hid hb6
          have q0 := (World.cell?_of_block (a := ⟨Bp, 0, none⟩) (hr6 Bp rfl)).trans p0
          clear hb6 hr6 HB5 p0 p1 c0q c3q
          go_wp2_with fail
          refine Calls.mono (HB6.out.op2 (fun R hb => st_flush (c := 0) (T' := Tb') hb HU2.out (d : Int) (by rw [HE2.out]) (by rw [HE2.out]))) ?_
          rintro e' w7 ⟨rfl, hb7, hr7⟩
          have HB7 := Lib.hid (hb7.less (R' := fun _ => False) (fun _ h => h.elim))
          replace q0 := (World.cell?_of_block (a := ⟨Bp, 0, none⟩) (hr7 Bp rfl)).trans q0
          clear hb7 hr7 HB6
          have hw1m := HW1.out
          have he := HEE.out
          clear HEE
          have HDb := Lib.hid ((bk_Dead HB7.out.fst (k := who1) (by rw [HI2.out.sa.len]; exact hw13)).mono (R' := fun e' w' => e' = .returned (.bool false) ∧ w7 = w') fun e' w' ⟨h1, h2⟩ => ⟨by rw [h1, (HI2.out.oth who1 hw13 hw1n).1], h2⟩)
          by_cases hge : n ≤ c
          · have hgi : (n : Int) ≤ (c : Int) := by omega
            have HDa := Lib.hid ((bk_Dead HB7.out.fst (k := who) (by rw [HI2.out.sa.len]; exact hw3)).mono (R' := fun e' w' => e' = .returned (.bool true) ∧ w7 = w') fun e' w' ⟨h1, h2⟩ => ⟨by rw [h1, HI2.out.dead hw3]; simp [hge], h2⟩)
            by_cases hdw : d = who
            · rw [if_pos ⟨hdw, hge⟩] at he
              have hbe : ((d : Int) == (who : Int)) = true := by simp [hdw]
              subst he
              go_wp2_with fail
              refine Calls.mono HDa.out ?_
              rintro e' w8 ⟨rfl, rfl⟩
              go_wp2_with fail
              refine Calls.mono HDb.out ?_
              rintro e' w8 ⟨rfl, rfl⟩
              clear HDa HDb
              go_wp2
              go_roundw
              case rel => exact ⟨k + 1, c, Ta', Tb', hlt, h80, by go_num, by go_num, by omega, by omega, by omega, HI2, HB7⟩
              case measure => simp [intOf]; omega
            · rw [if_neg (fun h => hdw h.1)] at he
              have hbe : ((d : Int) == (who : Int)) = false := by simp; omega
              subst he
              go_wp2_with fail
              refine Calls.mono HDa.out ?_
              rintro e' w8 ⟨rfl, rfl⟩
              go_wp2_with fail
              refine Calls.mono HDb.out ?_
              rintro e' w8 ⟨rfl, rfl⟩
              clear HDa HDb
              go_wp2
              go_roundw
              case rel => exact ⟨k + 1, c, Ta', Tb', hlt, h80, by go_num, by go_num, by omega, by omega, by omega, HI2, HB7⟩
              case measure => simp [intOf]; omega
          · have hgi : ¬ (n : Int) ≤ (c : Int) := by omega
            have HDa := Lib.hid ((bk_Dead HB7.out.fst (k := who) (by rw [HI2.out.sa.len]; exact hw3)).mono (R' := fun e' w' => e' = .returned (.bool false) ∧ w7 = w') fun e' w' ⟨h1, h2⟩ => ⟨by rw [h1, HI2.out.dead hw3]; simp [hge], h2⟩)
            rw [if_neg (fun h => hge h.2)] at he
            subst he
            go_wp2_with fail
            refine Calls.mono HDa.out ?_
            rintro e' w8 ⟨rfl, rfl⟩
            go_wp2_with fail
            refine Calls.mono HDb.out ?_
            rintro e' w8 ⟨rfl, rfl⟩
            clear HDa HDb
            go_wp2
            go_roundw
            case rel => exact ⟨k + 1, c, Ta', Tb', hlt, h80, by go_num, by go_num, by omega, by omega, by omega, HI2, HB7⟩
            case measure => simp [intOf]; omega
        · obtain ⟨e, Ta', Tb', e1, e2, HI', he, hca, hcb⟩ := HI.out.write hw3 hn0 hd3 ha8 HSN.out
          have HI2 := Lib.hid HI'
          have HWA := Lib.hid (fun (W : World) (hB : BK2 w (fun k => k = Bp) W qa Ta qb Tb) => hB.op (fun R hb => st_writeE hb HU1.out (d : Int) (a : Int) (s := secN xn) (secN_len xn) e1))
          have HWB := Lib.hid (fun (W : World) (hB : BK2 w (fun k => k = Bp) W qa Ta' qb Tb) => hB.op2 (fun R hb => st_writeE hb HU2.out (d : Int) (a : Int) (s := secN xn) (secN_len xn) e2))
          have HEE := Lib.hid he
          clear HI' e1 e2 HI he
          go_upto_region 20 with fail
          have hS : wq.drew.cell? ⟨Bp, 0, none⟩ = some (.int .i64 (d : Int)) ∧ wq.drew.cell? ⟨Bp, 1, none⟩ = some (.int .i64 (a : Int)) ∧ wq.drew.cell? ⟨b, off + k * 5 + 3, none⟩ = some (.int .i64 xn) := ⟨p0, p1, c3q⟩
          refine wp_region_calm ?_
          refine wp_region_E (fun W => W.cell? ⟨Bp, 0, none⟩ = some (.int .i64 (d : Int)) ∧ W.cell? ⟨Bp, 1, none⟩ = some (.int .i64 (a : Int)) ∧ W.cell? ⟨b, off + k * 5 + 3, none⟩ = some (.int .i64 xn)) 9 (by kernel_rfl) ?_
          refine wpAnyE_take (i := 0) (v := ?_) (listed' := #[true, false, false, false, false, false, false, false, false, false]) (by rfl) (by kernel_rfl) (by kernel_rfl) calm_put hS (by rfl) ?_ ?_
          rotate_left
          · intro W hW; clear hW; go_simp; try (with_reducible rfl)
          simp only [Act.put, List.getElem_toArray, List.getElem_cons_succ, List.getElem_cons_zero, List.setIfInBounds_toArray, List.set_cons_zero, List.set_cons_succ]
          refine wpAnyE_take (i := 1) (v := ?_) (listed' := #[true, true, false, false, false, false, false, false, false, false]) (by rfl) (by kernel_rfl) (by kernel_rfl) calm_put hS (by rfl) ?_ ?_
          rotate_left
          · intro W hW; obtain ⟨p0, p1, c3⟩ := hW; go_simp; try (with_reducible rfl)
          simp only [Act.put, List.getElem_toArray, List.getElem_cons_succ, List.getElem_cons_zero, List.setIfInBounds_toArray, List.set_cons_zero, List.set_cons_succ]
          refine wpAnyE_take (i := 2) (v := ?_) (listed' := #[true, true, true, false, false, false, false, false, false, false]) (by rfl) (by kernel_rfl) (by kernel_rfl) calm_put hS (by rfl) ?_ ?_
          rotate_left
          · intro W hW; clear hW; go_simp; try (with_reducible rfl)
          simp only [Act.put, List.getElem_toArray, List.getElem_cons_succ, List.getElem_cons_zero, List.setIfInBounds_toArray, List.set_cons_zero, List.set_cons_succ]
          refine wpAnyE_take (i := 3) (v := ?_) (listed' := #[true, true, true, true, false, false, false, false, false, false]) (by rfl) (by kernel_rfl) (by kernel_rfl) calm_put hS (by rfl) ?_ ?_
          rotate_left
          · intro W hW; clear hW; go_simp; try (with_reducible rfl)
          simp only [Act.put, List.getElem_toArray, List.getElem_cons_succ, List.getElem_cons_zero, List.setIfInBounds_toArray, List.set_cons_zero, List.set_cons_succ]
          refine wpAnyE_take (i := 4) (v := ?_) (listed' := #[true, true, true, true, true, false, false, false, false, false]) (by rfl) (by kernel_rfl) (by kernel_rfl) calm_put hS (by rfl) ?_ ?_
          rotate_left
          · intro W hW; clear hW; go_simp; try (with_reducible rfl)
          simp only [Act.put, List.getElem_toArray, List.getElem_cons_succ, List.getElem_cons_zero, List.setIfInBounds_toArray, List.set_cons_zero, List.set_cons_succ]
          refine wpAnyE_take (i := 5) (v := ?_) (listed' := #[true, true, true, true, true, true, false, false, false, false]) (by rfl) (by kernel_rfl) (by kernel_rfl) calm_put hS (by rfl) ?_ ?_
          rotate_left
          · intro W hW; clear hW; go_simp; try (with_reducible rfl)
          simp only [Act.put, List.getElem_toArray, List.getElem_cons_succ, List.getElem_cons_zero, List.setIfInBounds_toArray, List.set_cons_zero, List.set_cons_succ]
          refine wpAnyE_take (i := 6) (v := ?_) (listed' := #[true, true, true, true, true, true, true, false, false, false]) (by rfl) (by kernel_rfl) (by kernel_rfl) calm_put hS (by rfl) ?_ ?_
          rotate_left
          · intro W hW; obtain ⟨p0, p1, c3⟩ := hW; go_simp; try (with_reducible rfl)
          simp only [Act.put, List.getElem_toArray, List.getElem_cons_succ, List.getElem_cons_zero, List.setIfInBounds_toArray, List.set_cons_zero, List.set_cons_succ]
          refine wpAnyE_one (i := 7) (listed' := #[true, true, true, true, true, true, true, true, false, false]) (by rfl) (by kernel_rfl) (by kernel_rfl) (by rfl) (fun K hK => ?_)
          simp only [Act.put, List.getElem_toArray, List.getElem_cons_succ, List.getElem_cons_zero, List.setIfInBounds_toArray, List.set_cons_zero, List.set_cons_succ]
          go_wp2_with fail
          refine Calls.mono (law_sector xn _) ?_
          rintro e' w6 ⟨rfl, hks⟩
          have hS := (⟨hks.cell' hS.1, hks.cell' hS.2.1, hks.cell' hS.2.2⟩ : _ ∧ _ ∧ _)
          refine hK _ _ (fun _ => hS) ?_; clear hK K
          refine wpAnyE_one (i := 8) (listed' := #[true, true, true, true, true, true, true, true, true, false]) (by rfl) (by kernel_rfl) (by kernel_rfl) (by rfl) (fun K hK => ?_)
          simp only [Act.put, List.getElem_toArray, List.getElem_cons_succ, List.getElem_cons_zero, List.setIfInBounds_toArray, List.set_cons_zero, List.set_cons_succ]
          go_wp2_with fail
          refine Calls.mono (HWA.out _ (HB5.out.kept ((Kept.refl _).drew.trans hks))) ?_
          rintro e' w7 ⟨rfl, hb7, hr7⟩
          have HB7 := Lib.hid hb7
          have hS := (⟨(World.cell?_of_block (a := ⟨Bp, 0, none⟩) (hr7 Bp rfl)).trans hS.1, (World.cell?_of_block (a := ⟨Bp, 1, none⟩) (hr7 Bp rfl)).trans hS.2.1, hb7.keeps.cell' g3⟩ : _ ∧ _ ∧ _)
          refine hK _ _ (fun _ => hS) ?_; clear hK K
          refine wpAnyE_one (i := 9) (listed' := #[true, true, true, true, true, true, true, true, true, true]) (by rfl) (by kernel_rfl) (by kernel_rfl) (by rfl) (fun K hK => ?_)
          simp only [Act.put, List.getElem_toArray, List.getElem_cons_succ, List.getElem_cons_zero, List.setIfInBounds_toArray, List.set_cons_zero, List.set_cons_succ]
          go_wp2
          refine hK _ _ (fun _ => hS) ?_; clear hK K
          refine wpAnyE_done (by kernel_rfl) ?_ _
          refine calm_normal ?_

          clear p0 p1 c0q c3q HB5
          go_upto_region 21 with fail
          replace hS : w7.drew.cell? ⟨Bp, 0, none⟩ = some (.int .i64 (d : Int)) ∧ w7.drew.cell? ⟨Bp, 1, none⟩ = some (.int .i64 (a : Int)) ∧ w7.drew.cell? ⟨b, off + k * 5 + 3, none⟩ = some (.int .i64 xn) := hS
          refine wp_region_calm ?_
          refine wp_region_E (fun W => W.cell? ⟨Bp, 0, none⟩ = some (.int .i64 (d : Int)) ∧ W.cell? ⟨Bp, 1, none⟩ = some (.int .i64 (a : Int)) ∧ W.cell? ⟨b, off + k * 5 + 3, none⟩ = some (.int .i64 xn)) 9 (by kernel_rfl) ?_
          refine wpAnyE_take (i := 0) (v := ?_) (listed' := #[true, false, false, false, false, false, false, false, false, false]) (by rfl) (by kernel_rfl) (by kernel_rfl) calm_put hS (by rfl) ?_ ?_
          rotate_left
          · intro W hW; clear hW; go_simp; try (with_reducible rfl)
          simp only [Act.put, List.getElem_toArray, List.getElem_cons_succ, List.getElem_cons_zero, List.setIfInBounds_toArray, List.set_cons_zero, List.set_cons_succ]
          refine wpAnyE_take (i := 1) (v := ?_) (listed' := #[true, true, false, false, false, false, false, false, false, false]) (by rfl) (by kernel_rfl) (by kernel_rfl) calm_put hS (by rfl) ?_ ?_
          rotate_left
          · intro W hW; obtain ⟨p0, p1, c3⟩ := hW; go_simp; try (with_reducible rfl)
          simp only [Act.put, List.getElem_toArray, List.getElem_cons_succ, List.getElem_cons_zero, List.setIfInBounds_toArray, List.set_cons_zero, List.set_cons_succ]
          refine wpAnyE_take (i := 2) (v := ?_) (listed' := #[true, true, true, false, false, false, false, false, false, false]) (by rfl) (by kernel_rfl) (by kernel_rfl) calm_put hS (by rfl) ?_ ?_
          rotate_left
          · intro W hW; clear hW; go_simp; try (with_reducible rfl)
          simp only [Act.put, List.getElem_toArray, List.getElem_cons_succ, List.getElem_cons_zero, List.setIfInBounds_toArray, List.set_cons_zero, List.set_cons_succ]
          refine wpAnyE_take (i := 3) (v := ?_) (listed' := #[true, true, true, true, false, false, false, false, false, false]) (by rfl) (by kernel_rfl) (by kernel_rfl) calm_put hS (by rfl) ?_ ?_
          rotate_left
          · intro W hW; clear hW; go_simp; try (with_reducible rfl)
          simp only [Act.put, List.getElem_toArray, List.getElem_cons_succ, List.getElem_cons_zero, List.setIfInBounds_toArray, List.set_cons_zero, List.set_cons_succ]
          refine wpAnyE_take (i := 4) (v := ?_) (listed' := #[true, true, true, true, true, false, false, false, false, false]) (by rfl) (by kernel_rfl) (by kernel_rfl) calm_put hS (by rfl) ?_ ?_
          rotate_left
          · intro W hW; clear hW; go_simp; try (with_reducible rfl)
          simp only [Act.put, List.getElem_toArray, List.getElem_cons_succ, List.getElem_cons_zero, List.setIfInBounds_toArray, List.set_cons_zero, List.set_cons_succ]
          refine wpAnyE_take (i := 5) (v := ?_) (listed' := #[true, true, true, true, true, true, false, false, false, false]) (by rfl) (by kernel_rfl) (by kernel_rfl) calm_put hS (by rfl) ?_ ?_
          rotate_left
          · intro W hW; clear hW; go_simp; try (with_reducible rfl)
          simp only [Act.put, List.getElem_toArray, List.getElem_cons_succ, List.getElem_cons_zero, List.setIfInBounds_toArray, List.set_cons_zero, List.set_cons_succ]
          refine wpAnyE_take (i := 6) (v := ?_) (listed' := #[true, true, true, true, true, true, true, false, false, false]) (by rfl) (by kernel_rfl) (by kernel_rfl) calm_put hS (by rfl) ?_ ?_
          rotate_left
          · intro W hW; obtain ⟨p0, p1, c3⟩ := hW; go_simp; try (with_reducible rfl)
          simp only [Act.put, List.getElem_toArray, List.getElem_cons_succ, List.getElem_cons_zero, List.setIfInBounds_toArray, List.set_cons_zero, List.set_cons_succ]
          refine wpAnyE_one (i := 7) (listed' := #[true, true, true, true, true, true, true, true, false, false]) (by rfl) (by kernel_rfl) (by kernel_rfl) (by rfl) (fun K hK => ?_)
          simp only [Act.put, List.getElem_toArray, List.getElem_cons_succ, List.getElem_cons_zero, List.setIfInBounds_toArray, List.set_cons_zero, List.set_cons_succ]
          go_wp2_with fail
          refine Calls.mono (law_sector xn _) ?_
          rintro e' w8 ⟨rfl, hks⟩
          have hS := (⟨hks.cell' hS.1, hks.cell' hS.2.1, hks.cell' hS.2.2⟩ : _ ∧ _ ∧ _)
          refine hK _ _ (fun _ => hS) ?_; clear hK K
          refine wpAnyE_one (i := 8) (listed' := #[true, true, true, true, true, true, true, true, true, false]) (by rfl) (by kernel_rfl) (by kernel_rfl) (by rfl) (fun K hK => ?_)
          simp only [Act.put, List.getElem_toArray, List.getElem_cons_succ, List.getElem_cons_zero, List.setIfInBounds_toArray, List.set_cons_zero, List.set_cons_succ]
          go_wp2_with fail
          refine Calls.mono (HWB.out _ (HB7.out.kept ((Kept.refl _).drew.trans hks))) ?_
          rintro e' w9 ⟨rfl, hb9, hr9⟩
          have HB9 := Lib.hid (hb9.less (R' := fun _ => False) (fun _ h => h.elim))
          have hS := (⟨(World.cell?_of_block (a := ⟨Bp, 0, none⟩) (hr9 Bp rfl)).trans hS.1, (World.cell?_of_block (a := ⟨Bp, 1, none⟩) (hr9 Bp rfl)).trans hS.2.1, hb9.keeps.cell' g3⟩ : _ ∧ _ ∧ _)
          refine hK _ _ (fun _ => hS) ?_; clear hK K
          refine wpAnyE_one (i := 9) (listed' := #[true, true, true, true, true, true, true, true, true, true]) (by rfl) (by kernel_rfl) (by kernel_rfl) (by rfl) (fun K hK => ?_)
          simp only [Act.put, List.getElem_toArray, List.getElem_cons_succ, List.getElem_cons_zero, List.setIfInBounds_toArray, List.set_cons_zero, List.set_cons_succ]
          go_wp2
          refine hK _ _ (fun _ => hS) ?_; clear hK K
          refine wpAnyE_done (by kernel_rfl) ?_ _
          refine calm_normal ?_

          have q0 := hS.1
          clear hS HB7
          have hw1m := HW1.out
          have he := HEE.out
          clear HEE
          have HDb := Lib.hid ((bk_Dead HB9.out.fst (k := who1) (by rw [HI2.out.sa.len]; exact hw13)).mono (R' := fun e' w' => e' = .returned (.bool false) ∧ w9 = w') fun e' w' ⟨h1, h2⟩ => ⟨by rw [h1, (HI2.out.oth who1 hw13 hw1n).1], h2⟩)
          by_cases hge : n ≤ c + 1
          · have hgi : (n : Int) ≤ (c : Int) + 1 := by omega
            have HDa := Lib.hid ((bk_Dead HB9.out.fst (k := who) (by rw [HI2.out.sa.len]; exact hw3)).mono (R' := fun e' w' => e' = .returned (.bool true) ∧ w9 = w') fun e' w' ⟨h1, h2⟩ => ⟨by rw [h1, HI2.out.dead hw3]; simp [hge], h2⟩)
            by_cases hdw : d = who
            · rw [if_pos ⟨hdw, hge⟩] at he
              have hbe : ((d : Int) == (who : Int)) = true := by simp [hdw]
              subst he
              go_wp2_with fail
              refine Calls.mono HDa.out ?_
              rintro e' w8 ⟨rfl, rfl⟩
              go_wp2_with fail
              refine Calls.mono HDb.out ?_
              rintro e' w8 ⟨rfl, rfl⟩
              clear HDa HDb
              go_wp2
              go_roundw
              case rel => exact ⟨k + 1, c + 1, Ta', Tb', hlt, h80, by go_num, by go_num, by omega, by omega, by omega, HI2, HB9⟩
              case measure => simp [intOf]; omega
            · rw [if_neg (fun h => hdw h.1)] at he
              have hbe : ((d : Int) == (who : Int)) = false := by simp; omega
              subst he
              go_wp2_with fail
              refine Calls.mono HDa.out ?_
              rintro e' w8 ⟨rfl, rfl⟩
              go_wp2_with fail
              refine Calls.mono HDb.out ?_
              rintro e' w8 ⟨rfl, rfl⟩
              clear HDa HDb
              go_wp2
              go_roundw
              case rel => exact ⟨k + 1, c + 1, Ta', Tb', hlt, h80, by go_num, by go_num, by omega, by omega, by omega, HI2, HB9⟩
              case measure => simp [intOf]; omega
          · have hgi : ¬ (n : Int) ≤ (c : Int) + 1 := by omega
            have HDa := Lib.hid ((bk_Dead HB9.out.fst (k := who) (by rw [HI2.out.sa.len]; exact hw3)).mono (R' := fun e' w' => e' = .returned (.bool false) ∧ w9 = w') fun e' w' ⟨h1, h2⟩ => ⟨by rw [h1, HI2.out.dead hw3]; simp [hge], h2⟩)
            rw [if_neg (fun h => hge h.2)] at he
            subst he
            go_wp2_with fail
            refine Calls.mono HDa.out ?_
            rintro e' w8 ⟨rfl, rfl⟩
            go_wp2_with fail
            refine Calls.mono HDb.out ?_
            rintro e' w8 ⟨rfl, rfl⟩
            clear HDa HDb
            go_wp2
            go_roundw
            case rel => exact ⟨k + 1, c + 1, Ta', Tb', hlt, h80, by go_num, by go_num, by omega, by omega, by omega, HI2, HB9⟩
            case measure => simp [intOf]; omega
      · have hkk : l.length ≤ k ∨ (k < l.length ∧ 80 ≤ k) := by omega
        clear hlt
        rcases hkk with hkk | ⟨hkk, h80⟩
        all_goals
          go_wp2
          go_meet
          case rel => exact ⟨c, Ta, Tb, rfl, HI, by omega, by omega, by omega, HB⟩
  case rest =>
    obtain ⟨c, Ta, Tb, rfl, HI, hc80, hclka, hclkb, HB⟩ := hcut
    obtain ⟨u1, u2⟩ := HI.out.use (by omega) (by omega) (by omega)
    have HU1 := Lib.hid u1; have HU2 := Lib.hid u2
    clear u1 u2 HS HB4 HI4
    go_wp2_with fail
    refine Calls.mono (st_writes HB.out.fst HI.out.wa) ?_
    rintro e w5 ⟨rfl, rfl⟩
    go_wp2
    go_loopw [16] (fun i wr => ∃ k : Nat, k ≤ 24 ∧ i = .int .i64 k ∧ Hid (BK2 w (fun _ => False) wr qa Ta qb Tb)) (fun i _ => 24 - (intOf i).toNat)
    case atStart => exact ⟨0, Nat.zero_le _, rfl, HB⟩
    case round =>
      obtain ⟨k, hk, rfl, HB⟩ := hrel
      by_cases hlt : k < 24
      · have hdq : ((k : Int) / 8) = ((k / 8 : Nat) : Int) := by omega
        obtain ⟨a, ha, hal⟩ := and_low (k : Int) 3 (by decide) (m := 7) (by decide)
        have ha8 : a < 8 := hal
        have hd3 : k / 8 < 3 := by omega
        generalize k / 8 = d at *
        have HR2 := Lib.hid (HI.out.sb.read hd3 ha8)
        have hr1 := HI.out.read hd3 ha8
        have HY64 := Lib.hid (HI.out.len64 hd3 ha8)
        generalize Tb.N d a = ys at *
        obtain ⟨xs, e, he, hx⟩ : ∃ xs e, Ta.read (d : Int) (a : Int) = (xs, e) ∧ (xs, e) = if d = who ∧ n ≤ c then (zeroB, (7 : Int)) else (ys, 0) := ⟨_, _, rfl, hr1⟩
        have HR1 := Lib.hid he
        have hx64 : xs.length = 64 := by
          by_cases h : d = who ∧ n ≤ c
          · rw [if_pos h] at hx; cases hx; exact zeroB_length
          · rw [if_neg h] at hx; cases hx; exact HY64.out
        have HX64 := Lib.hid hx64
        have HX := Lib.hid hx
        clear hr1 he hx64 hx hal ha8 hd3
        go_wp2_with (refine stop_at (o := ⟨some 17, _, _, _, _, _⟩) ?_)
        refine Stop.mk ?_
        refine wpList_new_row rfl rfl _ _ rfl rfl ty_plc _ zero_plc rfl [.int .i64 (d : Int), .int .i64 (a : Int)] rfl rfl (by intro u hu; simp at hu; rcases hu with rfl | rfl <;> rfl) rfl ?_
        intro w7 hz7 hs7 hk7
        have p0 : w7.cell? ⟨wr.heap.size, 0, none⟩ = some (.int .i64 (d : Int)) := cell_of_row _ _ 0 _ _ _ hz7.out
        have p1 : w7.cell? ⟨wr.heap.size, 1, none⟩ = some (.int .i64 (a : Int)) := cell_of_row _ _ 1 _ _ _ hz7.out
        have HB7 := Lib.hid (HB.out.kept hk7)
        generalize wr.heap.size = Bp at *
        clear hz7 hs7 hk7
        go_wp2_with fail
        refine Calls.mono (st_read HB7.out.fst HU1.out (d : Int) (a : Int) HR1.out) ?_
        rintro e' w8 ⟨rfl, hb8, hk8⟩
        have HB8 := Lib.hid (HB7.out.kept hk8)
        replace p0 := hk8.cell' p0
        replace p1 := hk8.cell' p1
        clear hb8 hk8 HB7
        go_wp2_with (refine stop_at (o := ⟨some 18, _, _, _, _, _⟩) ?_)
        refine Stop.mk ?_
        refine wpList_new_row rfl rfl _ _ rfl rfl ty_sec (u8s zeroB) zero_sec (by rw [u8s_length, zeroB_length]) (u8s xs) rfl (by rw [u8s_length, HX64.out]) (u8s_one _) rfl ?_
        intro w9 hz9 hs9 hk9
        have HX9 := hz9
        have HB9 := Lib.hid (HB8.out.kept hk9)
        replace p0 := hk9.cell' p0
        replace p1 := hk9.cell' p1
        clear hz9 hs9 hk9 HB8
        go_wp2_with fail
        refine Calls.mono (st_read HB9.out.symm.fst HU2.out (d : Int) (a : Int) HR2.out) ?_
        rintro e' w10 ⟨rfl, hb10, hk10⟩
        have HB10 := Lib.hid (HB9.out.kept hk10)
        have HX10 := Lib.hid (hk10.block HX9.out)
        replace p0 := hk10.cell' p0
        clear hb10 hk10 HB9 p1 HX9
        go_wp2_with (refine stop_at (o := ⟨some 20, _, _, _, _, _⟩) ?_)
        refine Stop.mk ?_
        refine wpList_new_row rfl rfl _ _ rfl rfl ty_sec (u8s zeroB) zero_sec (by rw [u8s_length, zeroB_length]) (u8s ys) rfl (by rw [u8s_length, HY64.out]) (u8s_one _) rfl ?_
        intro w11 hz11 hs11 hk11
        have HB11 := Lib.hid (HB10.out.kept hk11)
        have HX11 := Lib.hid (hk11.block HX10.out)
        replace p0 := hk11.cell' p0
        have HY11 := hz11
        clear hz11 hs11 hk11 HB10 HX10
        by_cases hc3 : d = who ∧ n ≤ c
        · have hx2 := HX.out
          rw [if_pos hc3] at hx2
          obtain ⟨rfl, rfl⟩ : xs = zeroB ∧ e = 7 := by cases hx2; exact ⟨rfl, rfl⟩
          have hbe : ((d : Int) == (who : Int)) = true := by simp [hc3.1]
          have hge : (n : Int) ≤ (c : Int) := by omega
          clear hx2 HX
          go_wp2_with (refine stop_at (o := ⟨some 185, _, _, _, _, _⟩) ?_)
          refine Stop.mk ?_
          refine wpList_load_aggW _ rfl ty_sec w8.heap.size 0 rfl (u8s zeroB) (by simpa using Cells.of_block HX11.out) (by rw [u8s_length, HX64.out]) rfl ?_
          go_wp2_with (refine stop_at (o := ⟨some 187, _, _, _, _, _⟩) ?_)
          refine Stop.mk ?_
          refine wpList_neq_sec rfl _ _ rfl zeroB zeroB rfl rfl HX64.out HX64.out ?_
          rw [show (zeroB == zeroB) = true by simp]
          clear HX11 HY11
          go_wp2
          go_roundw
          case rel => exact ⟨k + 1, hlt, by go_num, HB11⟩
          case measure => simp [intOf]; omega
        · have hx2 := HX.out
          rw [if_neg hc3] at hx2
          obtain ⟨rfl, rfl⟩ : xs = ys ∧ e = 0 := by cases hx2; exact ⟨rfl, rfl⟩
          have hbe : ((d : Int) == (who : Int)) = false ∨ (((d : Int) == (who : Int)) = true ∧ ¬ (n : Int) ≤ (c : Int)) := by
            by_cases h : d = who
            · exact .inr ⟨by simp [h], by omega⟩
            · exact .inl (by simp; omega)
          clear hx2 HX hc3
          rcases hbe with hbe | ⟨hbe, hge⟩
          all_goals
            go_wp2_with (refine stop_at (o := ⟨some 189, _, _, _, _, _⟩) ?_)
            refine Stop.mk ?_
            refine wpList_load_agg rfl _ rfl ty_sec w8.heap.size 0 rfl (u8s xs) (by simpa using Cells.of_block HX11.out) (by rw [u8s_length, HX64.out]) ?_
            go_wp2_with (refine stop_at (o := ⟨some 190, _, _, _, _, _⟩) ?_)
            refine Stop.mk ?_
            refine wpList_load_agg rfl _ rfl ty_sec w10.heap.size 0 rfl (u8s xs) (by simpa using Cells.of_block HY11.out) (by rw [u8s_length, HX64.out]) ?_
            go_wp2_with (refine stop_at (o := ⟨some 191, _, _, _, _, _⟩) ?_)
            refine Stop.mk ?_
            refine wpList_neq_sec rfl _ _ rfl xs xs rfl rfl HX64.out HX64.out ?_
            rw [show (xs == xs) = true by simp]
            clear HX11 HY11
            go_wp2
            go_roundw
            case rel => exact ⟨k + 1, hlt, by go_num, HB11⟩
            case measure => simp [intOf]; omega
      · have hk24 : 24 ≤ k := by omega
        clear HU1 HU2
        go_wp2
        go_loopw [22] (fun i wr => ∃ (j : Nat) (Ta Tb : BankT), j ≤ 3 ∧ i = .int .i64 j ∧ Ta.clock ≤ 80 ∧ Tb.clock ≤ 80 ∧ Hid (FaI who n c Ta Tb) ∧ Hid (BK2 w (fun _ => False) wr qa Ta qb Tb)) (fun i _ => 3 - (intOf i).toNat)
        case atStart => exact ⟨0, Ta, Tb, Nat.zero_le _, rfl, hclka, hclkb, HI, HB⟩
        case round =>
          obtain ⟨j, Ta, Tb, hj, rfl, hclka, hclkb, HI, HB⟩ := hrel
          obtain ⟨u1, u2⟩ := HI.out.use (by omega) (by omega) (by omega)
          have HU1 := Lib.hid u1; have HU2 := Lib.hid u2
          clear u1 u2
          by_cases hjl : j < 3
          · obtain ⟨e, Ta', Tb', e1, e2, HI', he, hca, hcb⟩ := HI.out.flush hjl
            have HI2 := Lib.hid HI'
            have HE1 := Lib.hid e1; have HE2 := Lib.hid e2
            clear HI' e1 e2 he
            go_wp2_with fail
            refine Calls.mono (HB.out.op (fun R hb => st_flush (c := e) (T' := Ta') hb HU1.out (j : Int) (by rw [HE1.out]) (by rw [HE1.out]))) ?_
            rintro e' w6 ⟨rfl, hb6, hr6⟩
            have HB6 := Lib.hid hb6
            clear hb6 hr6 HB
            go_wp2_with fail
            refine Calls.mono (HB6.out.op2 (fun R hb => st_flush (c := 0) (T' := Tb') hb HU2.out (j : Int) (by rw [HE2.out]) (by rw [HE2.out]))) ?_
            rintro e' w7 ⟨rfl, hb7, hr7⟩
            have HB7 := Lib.hid hb7
            clear hb7 hr7 HB6
            go_wp2
            go_roundw
            case rel => exact ⟨j + 1, Ta', Tb', hjl, by go_num, by omega, by omega, HI2, HB7⟩
            case measure => simp [intOf]; omega
          · have hj3 : 3 ≤ j := by omega
            obtain ⟨v1, v2⟩ := HI.out.fin_use (by omega) (by omega) (by omega)
            have HV1 := Lib.hid v1; have HV2 := Lib.hid v2
            obtain ⟨a, ha, hal⟩ := and_low (n : Int) 3 (by decide) (m := 7) (by decide)
            have hw1m := HW1.out
            obtain ⟨xs, hx64, hr1, hr2⟩ := HI.out.fin hw13 (k := a) hal hw1n
            have HX64 := Lib.hid hx64; have HR1 := Lib.hid hr1; have HR2 := Lib.hid hr2
            clear v1 v2 hx64 hr1 hr2 hal HI
            go_wp2_with fail
            refine Calls.mono (HB.out.op (fun R hb => bk_Crash hb HU1.out 0 (by decide) (by decide))) ?_
            rintro e' w6 ⟨rfl, hb6, hr6⟩
            have HB6 := Lib.hid hb6
            clear hb6 hr6 HB
            go_wp2_with fail
            refine Calls.mono (HB6.out.op2 (fun R hb => bk_Crash hb HU2.out 0 (by decide) (by decide))) ?_
            rintro e' w7 ⟨rfl, hb7, hr7⟩
            have HB7 := Lib.hid hb7
            clear hb7 hr7 HB6
            go_wp2_with fail
            refine Calls.mono (HB7.out.op (fun R hb => bk_Start hb)) ?_
            rintro e' w8 ⟨rfl, hb8, hr8⟩
            have HB8 := Lib.hid hb8
            clear hb8 hr8 HB7
            go_wp2_with fail
            refine Calls.mono (HB8.out.op2 (fun R hb => bk_Start hb)) ?_
            rintro e' w9 ⟨rfl, hb9, hr9⟩
            have HB9 := Lib.hid hb9
            clear hb9 hr9 HB8 HU1 HU2
            generalize (Ta.crash 0).start = Sa at *
            generalize (Tb.crash 0).start = Sb at *
            go_wp2_with (refine stop_at (o := ⟨some 23, _, _, _, _, _⟩) ?_)
            refine Stop.mk ?_
            refine wpList_new_row rfl rfl _ _ rfl rfl ty_plc _ zero_plc rfl [.int .i64 (who1 : Int), .int .i64 (a : Int)] rfl rfl (by intro u hu; simp at hu; rcases hu with rfl | rfl <;> rfl) rfl ?_
            intro w10 hz10 hs10 hk10
            have p0 : w10.cell? ⟨w9.heap.size, 0, none⟩ = some (.int .i64 (who1 : Int)) := cell_of_row _ _ 0 _ _ _ hz10.out
            have p1 : w10.cell? ⟨w9.heap.size, 1, none⟩ = some (.int .i64 (a : Int)) := cell_of_row _ _ 1 _ _ _ hz10.out
            have HB10 := Lib.hid (HB9.out.kept hk10)
            generalize w9.heap.size = Bp at *
            clear hz10 hs10 hk10 HB9
            go_wp2_with fail
            refine Calls.mono (st_read HB10.out.fst HV1.out (who1 : Int) (a : Int) HR1.out) ?_
            rintro e' w11 ⟨rfl, hb11, hk11⟩
            have HB11 := Lib.hid (HB10.out.kept hk11)
            replace p0 := hk11.cell' p0
            replace p1 := hk11.cell' p1
            clear hb11 hk11 HB10
            go_wp2_with (refine stop_at (o := ⟨some 24, _, _, _, _, _⟩) ?_)
            refine Stop.mk ?_
            refine wpList_new_row rfl rfl _ _ rfl rfl ty_sec (u8s zeroB) zero_sec (by rw [u8s_length, zeroB_length]) (u8s xs) rfl (by rw [u8s_length, HX64.out]) (u8s_one _) rfl ?_
            intro w12 hz12 hs12 hk12
            have HX12 := hz12
            have HB12 := Lib.hid (HB11.out.kept hk12)
            replace p0 := hk12.cell' p0
            replace p1 := hk12.cell' p1
            clear hz12 hs12 hk12 HB11
            go_wp2_with fail
            refine Calls.mono (st_read HB12.out.symm.fst HV2.out (who1 : Int) (a : Int) HR2.out) ?_
            rintro e' w13 ⟨rfl, hb13, hk13⟩
            have HB13 := Lib.hid (HB12.out.kept hk13)
            have HX13 := Lib.hid (hk13.block HX12.out)
            clear hb13 hk13 HB12 p0 p1 HX12
            go_wp2_with (refine stop_at (o := ⟨some 26, _, _, _, _, _⟩) ?_)
            refine Stop.mk ?_
            refine wpList_new_row rfl rfl _ _ rfl rfl ty_sec (u8s zeroB) zero_sec (by rw [u8s_length, zeroB_length]) (u8s xs) rfl (by rw [u8s_length, HX64.out]) (u8s_one _) rfl ?_
            intro w14 hz14 hs14 hk14
            have HK := Lib.hid (HB13.out.kept hk14).keeps
            have HX14 := Lib.hid (hk14.block HX13.out)
            have HY14 := hz14
            clear hz14 hs14 hk14 HB13 HX13
            go_wp2_with (refine stop_at (o := ⟨some 235, _, _, _, _, _⟩) ?_)
            refine Stop.mk ?_
            refine wpList_load_aggW _ rfl ty_sec w11.heap.size 0 rfl (u8s xs) (by simpa using Cells.of_block HX14.out) (by rw [u8s_length, HX64.out]) rfl ?_
            go_wp2_with (refine stop_at (o := ⟨some 236, _, _, _, _, _⟩) ?_)
            refine Stop.mk ?_
            refine wpList_load_aggW _ rfl ty_sec w13.heap.size 0 rfl (u8s xs) (by simpa using Cells.of_block HY14.out) (by rw [u8s_length, HX64.out]) rfl ?_
            go_wp2_with (refine stop_at (o := ⟨some 237, _, _, _, _, _⟩) ?_)
            refine Stop.mk ?_
            refine wpList_eq_sec rfl _ _ rfl xs xs rfl rfl HX64.out HX64.out ?_
            rw [show (xs == xs) = true by simp]
            clear HX14 HY14
            go_wp2
            go_ret
            exact ⟨rfl, HK.out⟩
end
end Go.Proofs.Ytcbghpcohbgcjaa
