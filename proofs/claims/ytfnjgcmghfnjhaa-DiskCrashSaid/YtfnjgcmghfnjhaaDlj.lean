/- DiskArmed: the walk (gen_armed.py). -/
import Derived.Test.YtfnjgcmghfnjhaaDld
import Derived.Test.YtfnjgcmghfnjhaaDli
namespace Go.Proofs.Ytfnjgcmghfnjhaa
open Go.RowKit
set_option linter.unusedVariables false
set_option linter.unusedSimpArgs false

theorem st_writeE {w0 W : World} {R : Nat → Prop} {q : Nat} {T T' : BankT} (h : BK w0 R W q T) (u : T.Use) (d a : Int) {s : List Int} (hs : s.length = 64) {c : Int} (he : T.write d a s = (T', c)) :
    Calls Try.prog 17 #[.pointer (some ⟨q, 0, none⟩), .agg #[.int .i64 d, .int .i64 a], .agg (u8s s).toArray] W fun e w' => e = .returned (.int .i64 c) ∧ BK w0 R w' q T' ∧ SameR R W w' :=
  (bk_Write h u d a hs).mono fun e w' ⟨h1, h2, h3⟩ => ⟨by rw [h1, he], by rw [he] at h2; exact h2, h3⟩
section
variable {w W : World}
set_option maxHeartbeats 2000000
set_option maxRecDepth 100000
theorem law_armed (v : Value) (l : List OpD) (n0 mask : Int) (w : World) (hs : DSrc w v l) (hm : 0 ≤ mask ∧ mask < 18446744073709551616) :
    Calls Try.prog 5 #[v, .int .i64 n0, .int .u64 mask] w fun e w' => e = .returned (.bool true) ∧ Kept w w' := by
  have HS := Lib.hid hs
  obtain ⟨oa, cap, rfl, hcap, hmax, hrest⟩ := hs
  clear hrest
  unfold maxLen at hmax
  obtain ⟨y, hy, hyl⟩ := and_low n0 5 (by decide) (m := 31) (by decide)
  have hyl' : y < 32 := hyl
  clear hyl
  obtain ⟨n, hn⟩ : ∃ n : Nat, (1 : Int) + (y : Int) = (n : Int) ∧ n ≤ 32 ∧ 0 < n := ⟨1 + y, by omega, by omega, by omega⟩
  obtain ⟨hn1, hn32, hn0⟩ := hn
  have HSH := Lib.hid (law_shown03 w)
  have HM := Lib.hid hm
  go_enter Try.func5, Try.ntmps5
  go_wp2_with fail
  refine Calls.mono HSH.out ?_
  rintro e w1 ⟨rfl, hk1⟩
  have HL := Lib.hid (law_laid w w1 (fun _ => False) hk1 (fun _ h => h.elim))
  clear hk1 HSH
  go_wp2_with fail
  refine Calls.mono HL.out ?_
  rintro e w2 ⟨qa, rfl, hb, hr⟩
  have HB2 := Lib.hid hb
  clear hb hr HL
  go_wp2_with fail
  refine Calls.mono (laid2 HB2.out) ?_
  rintro e w3 ⟨qb, rfl, hb⟩
  have HB3 := Lib.hid hb
  clear hb HB2
  go_wp2_with fail
  refine Calls.mono (HB3.out.op (fun R hb => bk_Arm hb (n : Int) mask)) ?_
  rintro e w4 ⟨rfl, hb, hr⟩
  have HB4 := Lib.hid hb
  have HI4 := Lib.hid (ArI.start (mask := mask) hn0)
  clear hb hr HB3
  go_upto_block 0 with fail
  go_cut [] (fun wc => ∃ (c : Nat) (Ta Tb : BankT), Hid (ArI n mask c Ta Tb) ∧ c ≤ 80 ∧ Tb.clock ≤ 80 ∧ Hid (BK2 w (fun _ => False) wc qa Ta qb Tb))
  case first =>
    go_wp2
    go_loopw [10, 11] (fun cw i wr => ∃ (k c : Nat) (Ta Tb : BankT), k ≤ l.length ∧ k ≤ 80 ∧ i = .int .i64 k ∧ cw = .int .i64 c ∧ c ≤ k ∧ Tb.clock ≤ k ∧ Hid (ArI n mask c Ta Tb) ∧ Hid (BK2 w (fun _ => False) wr qa Ta qb Tb)) (fun _ i _ => l.length - (intOf i).toNat)
    case atStart => exact ⟨0, 0, _, _, Nat.zero_le _, by decide, rfl, rfl, Nat.le_refl _, by rw [(addN_rest 3).2.2.1]; exact Int.le_refl _, HI4, HB4⟩
    case round =>
      obtain ⟨k, c, Ta, Tb, hk, hk80, rfl, rfl, hck, hclk, HI, HB⟩ := hrel
      by_cases hlt : k < l.length ∧ k < 80
      · obtain ⟨hlt, h80⟩ := hlt
        obtain ⟨b, off, rfl, g0, g1, g2, g3, g4, g5, g6⟩ := HS.out.at k hlt
        obtain ⟨d, hd, hdl⟩ := and_low l[k].disk 2 (by decide) (m := 3) (by decide)
        obtain ⟨a, ha, hal⟩ := and_low l[k].at_ 4 (by decide) (m := 15) (by decide)
        have hd4 : d < 4 := hdl
        have hkd : (l[k].kind == 2) = true ∨ (l[k].kind == 2) = false := by cases (l[k].kind == 2) <;> simp
        clear hdl hal g4 g5 g6
        generalize l[k].kind = xk at *
        generalize l[k].disk = xd at *
        generalize l[k].at_ = xa at *
        generalize l[k].n = xn at *
        have HSN := Lib.hid (show (secN xn).length = 64 ∧ ∀ x ∈ secN xn, IsByte x from ⟨secN_len xn, secN_byte xn⟩)
        obtain ⟨u1, u2⟩ := HI.out.use hn32 (by omega) HM.out (by omega)
        have HU1 := Lib.hid u1; have HU2 := Lib.hid u2
        clear u1 u2
        have c0 := HB.out.keeps.cell' g0
        have c1 := HB.out.keeps.cell' g1
        have c2 := HB.out.keeps.cell' g2
        go_upto_region 12 with fail
        have hS : Kept wr wr.drew := (Kept.refl wr).drew
        refine wp_region_calm ?_
        refine wp_region_E (fun W => Kept wr W) 14 (by kernel_rfl) ?_
        refine wpAnyE_take (i := 0) (v := ?_) (listed' := #[true, false, false, false, false, false, false, false, false, false, false, false, false, false, false]) (by rfl) (by kernel_rfl) (by kernel_rfl) calm_put hS (by rfl) ?_ ?_
        rotate_left
        · intro W hW; clear hW; go_simp; try (with_reducible rfl)
        simp only [Act.put, List.getElem_toArray, List.getElem_cons_succ, List.getElem_cons_zero, List.setIfInBounds_toArray, List.set_cons_zero, List.set_cons_succ]
        refine wpAnyE_take (i := 1) (v := ?_) (listed' := #[true, true, false, false, false, false, false, false, false, false, false, false, false, false, false]) (by rfl) (by kernel_rfl) (by kernel_rfl) calm_put hS (by rfl) ?_ ?_
        rotate_left
        · intro W hW; clear hW; go_simp; try (with_reducible rfl)
        simp only [Act.put, List.getElem_toArray, List.getElem_cons_succ, List.getElem_cons_zero, List.setIfInBounds_toArray, List.set_cons_zero, List.set_cons_succ]
        refine wpAnyE_take (i := 2) (v := ?_) (listed' := #[true, true, true, false, false, false, false, false, false, false, false, false, false, false, false]) (by rfl) (by kernel_rfl) (by kernel_rfl) calm_put hS (by rfl) ?_ ?_
        rotate_left
        · intro W hW; clear hW; go_simp; try (with_reducible rfl)
        simp only [Act.put, List.getElem_toArray, List.getElem_cons_succ, List.getElem_cons_zero, List.setIfInBounds_toArray, List.set_cons_zero, List.set_cons_succ]
        refine wpAnyE_take (i := 3) (v := ?_) (listed' := #[true, true, true, true, false, false, false, false, false, false, false, false, false, false, false]) (by rfl) (by kernel_rfl) (by kernel_rfl) calm_put hS (by rfl) ?_ ?_
        rotate_left
        · intro W hW; clear hW; go_simp; try (with_reducible rfl)
        simp only [Act.put, List.getElem_toArray, List.getElem_cons_succ, List.getElem_cons_zero, List.setIfInBounds_toArray, List.set_cons_zero, List.set_cons_succ]
        refine wpAnyE_take (i := 4) (v := ?_) (listed' := #[true, true, true, true, true, false, false, false, false, false, false, false, false, false, false]) (by rfl) (by kernel_rfl) (by kernel_rfl) calm_put hS (by rfl) ?_ ?_
        rotate_left
        · intro W hW; have d1 := hW.cell' c1; have d2 := hW.cell' c2; go_simp; try (with_reducible rfl)
        simp only [Act.put, List.getElem_toArray, List.getElem_cons_succ, List.getElem_cons_zero, List.setIfInBounds_toArray, List.set_cons_zero, List.set_cons_succ]
        refine wpAnyE_take (i := 5) (v := ?_) (listed' := #[true, true, true, true, true, true, false, false, false, false, false, false, false, false, false]) (by rfl) (by kernel_rfl) (by kernel_rfl) calm_put hS (by rfl) ?_ ?_
        rotate_left
        · intro W hW; clear hW; go_simp; try (with_reducible rfl)
        simp only [Act.put, List.getElem_toArray, List.getElem_cons_succ, List.getElem_cons_zero, List.setIfInBounds_toArray, List.set_cons_zero, List.set_cons_succ]
        refine wpAnyE_take (i := 6) (v := ?_) (listed' := #[true, true, true, true, true, true, true, false, false, false, false, false, false, false, false]) (by rfl) (by kernel_rfl) (by kernel_rfl) calm_put hS (by rfl) ?_ ?_
        rotate_left
        · intro W hW; clear hW; go_simp; try (with_reducible rfl)
        simp only [Act.put, List.getElem_toArray, List.getElem_cons_succ, List.getElem_cons_zero, List.setIfInBounds_toArray, List.set_cons_zero, List.set_cons_succ]
        refine wpAnyE_take (i := 7) (v := ?_) (listed' := #[true, true, true, true, true, true, true, true, false, false, false, false, false, false, false]) (by rfl) (by kernel_rfl) (by kernel_rfl) calm_put hS (by rfl) ?_ ?_
        rotate_left
        · intro W hW; clear hW; go_simp; try (with_reducible rfl)
        simp only [Act.put, List.getElem_toArray, List.getElem_cons_succ, List.getElem_cons_zero, List.setIfInBounds_toArray, List.set_cons_zero, List.set_cons_succ]
        refine wpAnyE_take (i := 8) (v := ?_) (listed' := #[true, true, true, true, true, true, true, true, true, false, false, false, false, false, false]) (by rfl) (by kernel_rfl) (by kernel_rfl) calm_put hS (by rfl) ?_ ?_
        rotate_left
        · intro W hW; clear hW; go_simp; try (with_reducible rfl)
        simp only [Act.put, List.getElem_toArray, List.getElem_cons_succ, List.getElem_cons_zero, List.setIfInBounds_toArray, List.set_cons_zero, List.set_cons_succ]
        refine wpAnyE_take (i := 9) (v := ?_) (listed' := #[true, true, true, true, true, true, true, true, true, true, false, false, false, false, false]) (by rfl) (by kernel_rfl) (by kernel_rfl) calm_put hS (by rfl) ?_ ?_
        rotate_left
        · intro W hW; clear hW; go_simp; try (with_reducible rfl)
        simp only [Act.put, List.getElem_toArray, List.getElem_cons_succ, List.getElem_cons_zero, List.setIfInBounds_toArray, List.set_cons_zero, List.set_cons_succ]
        refine wpAnyE_take (i := 10) (v := ?_) (listed' := #[true, true, true, true, true, true, true, true, true, true, true, false, false, false, false]) (by rfl) (by kernel_rfl) (by kernel_rfl) calm_put hS (by rfl) ?_ ?_
        rotate_left
        · intro W hW; have d1 := hW.cell' c1; have d2 := hW.cell' c2; go_simp; try (with_reducible rfl)
        simp only [Act.put, List.getElem_toArray, List.getElem_cons_succ, List.getElem_cons_zero, List.setIfInBounds_toArray, List.set_cons_zero, List.set_cons_succ]
        refine wpAnyE_take (i := 11) (v := ?_) (listed' := #[true, true, true, true, true, true, true, true, true, true, true, true, false, false, false]) (by rfl) (by kernel_rfl) (by kernel_rfl) calm_put hS (by rfl) ?_ ?_
        rotate_left
        · intro W hW; clear hW; go_simp; try (with_reducible rfl)
        simp only [Act.put, List.getElem_toArray, List.getElem_cons_succ, List.getElem_cons_zero, List.setIfInBounds_toArray, List.set_cons_zero, List.set_cons_succ]
        refine wpAnyE_take (i := 12) (v := ?_) (listed' := #[true, true, true, true, true, true, true, true, true, true, true, true, true, false, false]) (by rfl) (by kernel_rfl) (by kernel_rfl) calm_put hS (by rfl) ?_ ?_
        rotate_left
        · intro W hW; clear hW; go_simp; try (with_reducible rfl)
        simp only [Act.put, List.getElem_toArray, List.getElem_cons_succ, List.getElem_cons_zero, List.setIfInBounds_toArray, List.set_cons_zero, List.set_cons_succ]
        refine wpAnyE_one (i := 13) (listed' := #[true, true, true, true, true, true, true, true, true, true, true, true, true, true, false]) (by rfl) (by kernel_rfl) (by kernel_rfl) (by rfl) (fun K hK => ?_)
        simp only [Act.put, List.getElem_toArray, List.getElem_cons_succ, List.getElem_cons_zero, List.setIfInBounds_toArray, List.set_cons_zero, List.set_cons_succ]
        refine wp_alloc_abs _ rfl _ zero_plc ?_
        intro wp hzp hsp hkp
        refine hK _ _ (fun _ => hS.trans hkp) ?_; clear hK K
        refine wpAnyE_one (i := 14) (listed' := #[true, true, true, true, true, true, true, true, true, true, true, true, true, true, true]) (by rfl) (by kernel_rfl) (by kernel_rfl) (by rfl) (fun K hK => ?_)
        simp only [Act.put, List.getElem_toArray, List.getElem_cons_succ, List.getElem_cons_zero, List.setIfInBounds_toArray, List.set_cons_zero, List.set_cons_succ]
        refine wp_store_agg _ _ rfl ty_plc _ 0 rfl [.int .i64 (d : Int), .int .i64 (a : Int)] rfl rfl (by intro u hu; simp at hu; rcases hu with rfl | rfl <;> rfl) _ _ hzp.out (by simp) ?_
        intro wq hwq
        refine hK _ _ (fun h => absurd rfl h) ?_; clear hK K
        refine wpAnyE_done (by kernel_rfl) ?_ _
        refine calm_normal ?_

        replace hwq := hwq.all rfl
        have hk5 : Kept wr wq := hwq.kept (hS.trans hkp) (Nat.le_refl _)
        have hBl : wr.drew.heap.size < wq.heap.size := by rw [hwq.size]; exact hsp
        have HB5 := Lib.hid ((HB.out.more hk5 wr.drew.heap.size (show wr.heap.size ≤ wr.drew.heap.size from Nat.le_refl _) hBl).less (R' := fun k => k = wr.drew.heap.size) (fun k h => .inr h))
        have p0 : wq.cell? ⟨wr.drew.heap.size, 0, none⟩ = some (.int .i64 (d : Int)) := cell_of_row _ _ 0 _ _ _ hwq.blk
        have p1 : wq.cell? ⟨wr.drew.heap.size, 1, none⟩ = some (.int .i64 (a : Int)) := cell_of_row _ _ 1 _ _ _ hwq.blk
        have c0q := hk5.cell' c0
        have c3q := hk5.cell' (HB.out.keeps.cell' g3)
        clear hwq hzp hsp hkp hS hk5 hBl c0 c1 c2
        generalize wr.drew.heap.size = Bp at *
        rcases hkd with hkd | hkd
        · obtain ⟨e, Ta', Tb', e1, e2, HI', hclk'⟩ := HI.out.flush d hd4
          have HI2 := Lib.hid HI'
          have HE1 := Lib.hid e1; have HE2 := Lib.hid e2
          have HSM := Lib.hid HI'.same
          obtain ⟨v1, v2⟩ := HI'.use hn32 (by omega) HM.out (by omega)
          have HV1 := Lib.hid v1; have HV2 := Lib.hid v2
          clear HI' e1 e2 v1 v2 g1 g2 g3
          go_wp2_with fail
          refine Calls.mono (HB5.out.op (fun R hb => st_flush (c := e) (T' := Ta') hb HU1.out (d : Int) (by rw [HE1.out]) (by rw [HE1.out]))) ?_
          rintro e' w6 ⟨rfl, hb6, hr6⟩
          have HB6 := Lib.hid hb6
          have q0 := (World.cell?_of_block (a := ⟨Bp, 0, none⟩) (hr6 Bp rfl)).trans p0
          clear hb6 hr6 HB5 p0 p1 c0q c3q
          go_wp2_with fail
          refine Calls.mono (HB6.out.op2 (fun R hb => st_flush (c := e) (T' := Tb') hb HU2.out (d : Int) (by rw [HE2.out]) (by rw [HE2.out]))) ?_
          rintro e' w7 ⟨rfl, hb7, hr7⟩
          have HB7 := Lib.hid (hb7.less (R' := fun _ => False) (fun _ h => h.elim))
          clear hb7 hr7 HB6 q0
          have HUa := Lib.hid ((bk_Up HB7.out.fst).mono (R' := fun e' w' => e' = .returned (.bool (!Tb'.down)) ∧ w7 = w') fun e' w' ⟨h1, h2⟩ => ⟨by rw [h1, HSM.out.1], h2⟩)
          go_wp2_with fail
          refine Calls.mono HUa.out ?_
          rintro e' w8 ⟨rfl, rfl⟩
          go_wp2_with fail
          refine Calls.mono (bk_Up HB7.out.symm.fst) ?_
          rintro e' w8 ⟨rfl, rfl⟩
          generalize hdn : Tb'.down = dn at *
          clear hdn HUa
          go_wp2_with fail
          refine Calls.mono (st_loose HB7.out.fst HV1.out HSM.out.2) ?_
          rintro e' w8 ⟨rfl, _, hk8⟩
          have HB8 := Lib.hid (HB7.out.kept hk8)
          clear hk8 HB7
          go_wp2_with fail
          refine Calls.mono (st_loose HB8.out.symm.fst HV2.out rfl) ?_
          rintro e' w9 ⟨rfl, _, hk9⟩
          replace HB8 := Lib.hid (HB8.out.kept hk9)
          clear hk9
          have HI3 : Hid (ArI n mask c Ta' Tb') := HI2
          go_wp2
          go_roundw
          case rel => exact ⟨k + 1, c, Ta', Tb', hlt, h80, by go_num, rfl, by omega, by omega, HI3, HB8⟩
          case measure => simp [intOf]; omega
        · by_cases hc : c + 1 = n
          · obtain ⟨Ta', e1, HI', hcl⟩ := HI.out.hit hc (d : Int) (a : Int) (secN xn)
            have HI2 := Lib.hid HI'
            have HWA := Lib.hid (fun (W : World) (hB : BK2 w (fun k => k = Bp) W qa Ta qb Tb) => hB.op (fun R hb => st_writeE hb HU1.out (d : Int) (a : Int) (s := secN xn) (secN_len xn) e1))
            have hcw : ((c : Int) + 1 == (n : Int)) = true := by simp; omega
            clear HI' e1 HI
            go_upto_region 19 with fail
            have hS : wq.drew.cell? ⟨Bp, 0, none⟩ = some (.int .i64 (d : Int)) ∧ wq.drew.cell? ⟨Bp, 1, none⟩ = some (.int .i64 (a : Int)) ∧ wq.drew.cell? ⟨b, off + k * 5 + 3, none⟩ = some (.int .i64 xn) := ⟨p0, p1, c3q⟩
            refine wp_region_calm ?_
            refine wp_region_E (fun W => W.cell? ⟨Bp, 0, none⟩ = some (.int .i64 (d : Int)) ∧ W.cell? ⟨Bp, 1, none⟩ = some (.int .i64 (a : Int)) ∧ W.cell? ⟨b, off + k * 5 + 3, none⟩ = some (.int .i64 xn)) 9 (by kernel_rfl) ?_
            refine wpAnyE_take (i := 0) (v := ?_) (listed' := #[true, false, false, false, false, false, false, false, false, false]) (by rfl) (by kernel_rfl) (by kernel_rfl) calm_put hS (by rfl) ?_ ?_
            rotate_left
            · intro W hW; clear hW; go_simp; try (with_reducible rfl)
            simp only [Act.put, List.getElem_toArray, List.getElem_cons_succ, List.getElem_cons_zero, List.setIfInBounds_toArray, List.set_cons_zero, List.set_cons_succ]
            refine wpAnyE_take (i := 1) (v := ?_) (listed' := #[true, true, false, false, false, false, false, false, false, false]) (by rfl) (by kernel_rfl) (by kernel_rfl) calm_put hS (by rfl) ?_ ?_
            rotate_left
            · intro W hW; obtain ⟨p0, p1, c3⟩ := hW; go_simp; try (with_reducible rfl)
            simp only [Act.put, List.getElem_toArray, List.getElem_cons_succ, List.getElem_cons_zero, List.setIfInBounds_toArray, List.set_cons_zero, List.set_cons_succ]
            refine wpAnyE_take (i := 2) (v := ?_) (listed' := #[true, true, true, false, false, false, false, false, false, false]) (by rfl) (by kernel_rfl) (by kernel_rfl) calm_put hS (by rfl) ?_ ?_
            rotate_left
            · intro W hW; clear hW; go_simp; try (with_reducible rfl)
            simp only [Act.put, List.getElem_toArray, List.getElem_cons_succ, List.getElem_cons_zero, List.setIfInBounds_toArray, List.set_cons_zero, List.set_cons_succ]
            refine wpAnyE_take (i := 3) (v := ?_) (listed' := #[true, true, true, true, false, false, false, false, false, false]) (by rfl) (by kernel_rfl) (by kernel_rfl) calm_put hS (by rfl) ?_ ?_
            rotate_left
            · intro W hW; clear hW; go_simp; try (with_reducible rfl)
            simp only [Act.put, List.getElem_toArray, List.getElem_cons_succ, List.getElem_cons_zero, List.setIfInBounds_toArray, List.set_cons_zero, List.set_cons_succ]
            refine wpAnyE_take (i := 4) (v := ?_) (listed' := #[true, true, true, true, true, false, false, false, false, false]) (by rfl) (by kernel_rfl) (by kernel_rfl) calm_put hS (by rfl) ?_ ?_
            rotate_left
            · intro W hW; clear hW; go_simp; try (with_reducible rfl)
            simp only [Act.put, List.getElem_toArray, List.getElem_cons_succ, List.getElem_cons_zero, List.setIfInBounds_toArray, List.set_cons_zero, List.set_cons_succ]
            refine wpAnyE_take (i := 5) (v := ?_) (listed' := #[true, true, true, true, true, true, false, false, false, false]) (by rfl) (by kernel_rfl) (by kernel_rfl) calm_put hS (by rfl) ?_ ?_
            rotate_left
            · intro W hW; clear hW; go_simp; try (with_reducible rfl)
            simp only [Act.put, List.getElem_toArray, List.getElem_cons_succ, List.getElem_cons_zero, List.setIfInBounds_toArray, List.set_cons_zero, List.set_cons_succ]
            refine wpAnyE_take (i := 6) (v := ?_) (listed' := #[true, true, true, true, true, true, true, false, false, false]) (by rfl) (by kernel_rfl) (by kernel_rfl) calm_put hS (by rfl) ?_ ?_
            rotate_left
            · intro W hW; obtain ⟨p0, p1, c3⟩ := hW; go_simp; try (with_reducible rfl)
            simp only [Act.put, List.getElem_toArray, List.getElem_cons_succ, List.getElem_cons_zero, List.setIfInBounds_toArray, List.set_cons_zero, List.set_cons_succ]
            refine wpAnyE_one (i := 7) (listed' := #[true, true, true, true, true, true, true, true, false, false]) (by rfl) (by kernel_rfl) (by kernel_rfl) (by rfl) (fun K hK => ?_)
            simp only [Act.put, List.getElem_toArray, List.getElem_cons_succ, List.getElem_cons_zero, List.setIfInBounds_toArray, List.set_cons_zero, List.set_cons_succ]
            go_wp2_with fail
            refine Calls.mono (law_sector xn _) ?_
            rintro e' w6 ⟨rfl, hks⟩
            have hS := (⟨hks.cell' hS.1, hks.cell' hS.2.1, hks.cell' hS.2.2⟩ : _ ∧ _ ∧ _)
            refine hK _ _ (fun _ => hS) ?_; clear hK K
            refine wpAnyE_one (i := 8) (listed' := #[true, true, true, true, true, true, true, true, true, false]) (by rfl) (by kernel_rfl) (by kernel_rfl) (by rfl) (fun K hK => ?_)
            simp only [Act.put, List.getElem_toArray, List.getElem_cons_succ, List.getElem_cons_zero, List.setIfInBounds_toArray, List.set_cons_zero, List.set_cons_succ]
            go_wp2_with fail
            refine Calls.mono (HWA.out _ (HB5.out.kept ((Kept.refl _).drew.trans hks))) ?_
            rintro e' w7 ⟨rfl, hb7, hr7⟩
            have HB7 := Lib.hid hb7
            have hS := (⟨(World.cell?_of_block (a := ⟨Bp, 0, none⟩) (hr7 Bp rfl)).trans hS.1, (World.cell?_of_block (a := ⟨Bp, 1, none⟩) (hr7 Bp rfl)).trans hS.2.1, hb7.keeps.cell' g3⟩ : _ ∧ _ ∧ _)
            refine hK _ _ (fun _ => hS) ?_; clear hK K
            refine wpAnyE_one (i := 9) (listed' := #[true, true, true, true, true, true, true, true, true, true]) (by rfl) (by kernel_rfl) (by kernel_rfl) (by rfl) (fun K hK => ?_)
            simp only [Act.put, List.getElem_toArray, List.getElem_cons_succ, List.getElem_cons_zero, List.setIfInBounds_toArray, List.set_cons_zero, List.set_cons_succ]
            go_wp2
            refine hK _ _ (fun _ => hS) ?_; clear hK K
            refine wpAnyE_done (by kernel_rfl) ?_ _
            refine calm_normal ?_

            clear hS p0 p1 c0q c3q HB5
            go_wp2_with fail
            refine Calls.mono (HB7.out.op2 (fun R hb => bk_Crash hb HU2.out mask HM.out.1 HM.out.2)) ?_
            rintro e' w8 ⟨rfl, hb8, hr8⟩
            have HB8 := Lib.hid (hb8.less (R' := fun _ => False) (fun _ h => h.elim))
            clear hb8 hr8 HB7
            go_wp2
            go_roundw
            case rel => exact ⟨k + 1, c + 1, Ta', Tb.crash mask, hlt, h80, by go_num, by go_num, by omega, by omega, HI2, HB8⟩
            case measure => simp [intOf]; omega
          · obtain ⟨e, Ta', Tb', e1, e2, HI', hcl⟩ := HI.out.miss hc d a HSN.out
            have HI2 := Lib.hid HI'
            have HSM := Lib.hid HI'.same
            obtain ⟨v1, v2⟩ := HI'.use hn32 (by omega) HM.out (by omega)
            have HV1 := Lib.hid v1; have HV2 := Lib.hid v2
            have HWA := Lib.hid (fun (W : World) (hB : BK2 w (fun k => k = Bp) W qa Ta qb Tb) => hB.op (fun R hb => st_writeE hb HU1.out (d : Int) (a : Int) (s := secN xn) (secN_len xn) e1))
            have HWB := Lib.hid (fun (W : World) (hB : BK2 w (fun k => k = Bp) W qa Ta' qb Tb) => hB.op2 (fun R hb => st_writeE hb HU2.out (d : Int) (a : Int) (s := secN xn) (secN_len xn) e2))
            have hcw : ((c : Int) + 1 == (n : Int)) = false := by simp; omega
            clear HI' e1 e2 HI v1 v2
            go_upto_region 19 with fail
            have hS : wq.drew.cell? ⟨Bp, 0, none⟩ = some (.int .i64 (d : Int)) ∧ wq.drew.cell? ⟨Bp, 1, none⟩ = some (.int .i64 (a : Int)) ∧ wq.drew.cell? ⟨b, off + k * 5 + 3, none⟩ = some (.int .i64 xn) := ⟨p0, p1, c3q⟩
            refine wp_region_calm ?_
            refine wp_region_E (fun W => W.cell? ⟨Bp, 0, none⟩ = some (.int .i64 (d : Int)) ∧ W.cell? ⟨Bp, 1, none⟩ = some (.int .i64 (a : Int)) ∧ W.cell? ⟨b, off + k * 5 + 3, none⟩ = some (.int .i64 xn)) 9 (by kernel_rfl) ?_
            refine wpAnyE_take (i := 0) (v := ?_) (listed' := #[true, false, false, false, false, false, false, false, false, false]) (by rfl) (by kernel_rfl) (by kernel_rfl) calm_put hS (by rfl) ?_ ?_
            rotate_left
            · intro W hW; clear hW; go_simp; try (with_reducible rfl)
            simp only [Act.put, List.getElem_toArray, List.getElem_cons_succ, List.getElem_cons_zero, List.setIfInBounds_toArray, List.set_cons_zero, List.set_cons_succ]
            refine wpAnyE_take (i := 1) (v := ?_) (listed' := #[true, true, false, false, false, false, false, false, false, false]) (by rfl) (by kernel_rfl) (by kernel_rfl) calm_put hS (by rfl) ?_ ?_
            rotate_left
            · intro W hW; obtain ⟨p0, p1, c3⟩ := hW; go_simp; try (with_reducible rfl)
            simp only [Act.put, List.getElem_toArray, List.getElem_cons_succ, List.getElem_cons_zero, List.setIfInBounds_toArray, List.set_cons_zero, List.set_cons_succ]
            refine wpAnyE_take (i := 2) (v := ?_) (listed' := #[true, true, true, false, false, false, false, false, false, false]) (by rfl) (by kernel_rfl) (by kernel_rfl) calm_put hS (by rfl) ?_ ?_
            rotate_left
            · intro W hW; clear hW; go_simp; try (with_reducible rfl)
            simp only [Act.put, List.getElem_toArray, List.getElem_cons_succ, List.getElem_cons_zero, List.setIfInBounds_toArray, List.set_cons_zero, List.set_cons_succ]
            refine wpAnyE_take (i := 3) (v := ?_) (listed' := #[true, true, true, true, false, false, false, false, false, false]) (by rfl) (by kernel_rfl) (by kernel_rfl) calm_put hS (by rfl) ?_ ?_
            rotate_left
            · intro W hW; clear hW; go_simp; try (with_reducible rfl)
            simp only [Act.put, List.getElem_toArray, List.getElem_cons_succ, List.getElem_cons_zero, List.setIfInBounds_toArray, List.set_cons_zero, List.set_cons_succ]
            refine wpAnyE_take (i := 4) (v := ?_) (listed' := #[true, true, true, true, true, false, false, false, false, false]) (by rfl) (by kernel_rfl) (by kernel_rfl) calm_put hS (by rfl) ?_ ?_
            rotate_left
            · intro W hW; clear hW; go_simp; try (with_reducible rfl)
            simp only [Act.put, List.getElem_toArray, List.getElem_cons_succ, List.getElem_cons_zero, List.setIfInBounds_toArray, List.set_cons_zero, List.set_cons_succ]
            refine wpAnyE_take (i := 5) (v := ?_) (listed' := #[true, true, true, true, true, true, false, false, false, false]) (by rfl) (by kernel_rfl) (by kernel_rfl) calm_put hS (by rfl) ?_ ?_
            rotate_left
            · intro W hW; clear hW; go_simp; try (with_reducible rfl)
            simp only [Act.put, List.getElem_toArray, List.getElem_cons_succ, List.getElem_cons_zero, List.setIfInBounds_toArray, List.set_cons_zero, List.set_cons_succ]
            refine wpAnyE_take (i := 6) (v := ?_) (listed' := #[true, true, true, true, true, true, true, false, false, false]) (by rfl) (by kernel_rfl) (by kernel_rfl) calm_put hS (by rfl) ?_ ?_
            rotate_left
            · intro W hW; obtain ⟨p0, p1, c3⟩ := hW; go_simp; try (with_reducible rfl)
            simp only [Act.put, List.getElem_toArray, List.getElem_cons_succ, List.getElem_cons_zero, List.setIfInBounds_toArray, List.set_cons_zero, List.set_cons_succ]
            refine wpAnyE_one (i := 7) (listed' := #[true, true, true, true, true, true, true, true, false, false]) (by rfl) (by kernel_rfl) (by kernel_rfl) (by rfl) (fun K hK => ?_)
            simp only [Act.put, List.getElem_toArray, List.getElem_cons_succ, List.getElem_cons_zero, List.setIfInBounds_toArray, List.set_cons_zero, List.set_cons_succ]
            go_wp2_with fail
            refine Calls.mono (law_sector xn _) ?_
            rintro e' w6 ⟨rfl, hks⟩
            have hS := (⟨hks.cell' hS.1, hks.cell' hS.2.1, hks.cell' hS.2.2⟩ : _ ∧ _ ∧ _)
            refine hK _ _ (fun _ => hS) ?_; clear hK K
            refine wpAnyE_one (i := 8) (listed' := #[true, true, true, true, true, true, true, true, true, false]) (by rfl) (by kernel_rfl) (by kernel_rfl) (by rfl) (fun K hK => ?_)
            simp only [Act.put, List.getElem_toArray, List.getElem_cons_succ, List.getElem_cons_zero, List.setIfInBounds_toArray, List.set_cons_zero, List.set_cons_succ]
            go_wp2_with fail
            refine Calls.mono (HWA.out _ (HB5.out.kept ((Kept.refl _).drew.trans hks))) ?_
            rintro e' w7 ⟨rfl, hb7, hr7⟩
            have HB7 := Lib.hid hb7
            have hS := (⟨(World.cell?_of_block (a := ⟨Bp, 0, none⟩) (hr7 Bp rfl)).trans hS.1, (World.cell?_of_block (a := ⟨Bp, 1, none⟩) (hr7 Bp rfl)).trans hS.2.1, hb7.keeps.cell' g3⟩ : _ ∧ _ ∧ _)
            refine hK _ _ (fun _ => hS) ?_; clear hK K
            refine wpAnyE_one (i := 9) (listed' := #[true, true, true, true, true, true, true, true, true, true]) (by rfl) (by kernel_rfl) (by kernel_rfl) (by rfl) (fun K hK => ?_)
            simp only [Act.put, List.getElem_toArray, List.getElem_cons_succ, List.getElem_cons_zero, List.setIfInBounds_toArray, List.set_cons_zero, List.set_cons_succ]
            go_wp2
            refine hK _ _ (fun _ => hS) ?_; clear hK K
            refine wpAnyE_done (by kernel_rfl) ?_ _
            refine calm_normal ?_

            clear p0 p1 c0q c3q HB5
            go_upto_region 24 with fail
            replace hS : w7.drew.cell? ⟨Bp, 0, none⟩ = some (.int .i64 (d : Int)) ∧ w7.drew.cell? ⟨Bp, 1, none⟩ = some (.int .i64 (a : Int)) ∧ w7.drew.cell? ⟨b, off + k * 5 + 3, none⟩ = some (.int .i64 xn) := hS
            refine wp_region_calm ?_
            refine wp_region_E (fun W => W.cell? ⟨Bp, 0, none⟩ = some (.int .i64 (d : Int)) ∧ W.cell? ⟨Bp, 1, none⟩ = some (.int .i64 (a : Int)) ∧ W.cell? ⟨b, off + k * 5 + 3, none⟩ = some (.int .i64 xn)) 9 (by kernel_rfl) ?_
            refine wpAnyE_take (i := 0) (v := ?_) (listed' := #[true, false, false, false, false, false, false, false, false, false]) (by rfl) (by kernel_rfl) (by kernel_rfl) calm_put hS (by rfl) ?_ ?_
            rotate_left
            · intro W hW; clear hW; go_simp; try (with_reducible rfl)
            simp only [Act.put, List.getElem_toArray, List.getElem_cons_succ, List.getElem_cons_zero, List.setIfInBounds_toArray, List.set_cons_zero, List.set_cons_succ]
            refine wpAnyE_take (i := 1) (v := ?_) (listed' := #[true, true, false, false, false, false, false, false, false, false]) (by rfl) (by kernel_rfl) (by kernel_rfl) calm_put hS (by rfl) ?_ ?_
            rotate_left
            · intro W hW; obtain ⟨p0, p1, c3⟩ := hW; go_simp; try (with_reducible rfl)
            simp only [Act.put, List.getElem_toArray, List.getElem_cons_succ, List.getElem_cons_zero, List.setIfInBounds_toArray, List.set_cons_zero, List.set_cons_succ]
            refine wpAnyE_take (i := 2) (v := ?_) (listed' := #[true, true, true, false, false, false, false, false, false, false]) (by rfl) (by kernel_rfl) (by kernel_rfl) calm_put hS (by rfl) ?_ ?_
            rotate_left
            · intro W hW; clear hW; go_simp; try (with_reducible rfl)
            simp only [Act.put, List.getElem_toArray, List.getElem_cons_succ, List.getElem_cons_zero, List.setIfInBounds_toArray, List.set_cons_zero, List.set_cons_succ]
            refine wpAnyE_take (i := 3) (v := ?_) (listed' := #[true, true, true, true, false, false, false, false, false, false]) (by rfl) (by kernel_rfl) (by kernel_rfl) calm_put hS (by rfl) ?_ ?_
            rotate_left
            · intro W hW; clear hW; go_simp; try (with_reducible rfl)
            simp only [Act.put, List.getElem_toArray, List.getElem_cons_succ, List.getElem_cons_zero, List.setIfInBounds_toArray, List.set_cons_zero, List.set_cons_succ]
            refine wpAnyE_take (i := 4) (v := ?_) (listed' := #[true, true, true, true, true, false, false, false, false, false]) (by rfl) (by kernel_rfl) (by kernel_rfl) calm_put hS (by rfl) ?_ ?_
            rotate_left
            · intro W hW; clear hW; go_simp; try (with_reducible rfl)
            simp only [Act.put, List.getElem_toArray, List.getElem_cons_succ, List.getElem_cons_zero, List.setIfInBounds_toArray, List.set_cons_zero, List.set_cons_succ]
            refine wpAnyE_take (i := 5) (v := ?_) (listed' := #[true, true, true, true, true, true, false, false, false, false]) (by rfl) (by kernel_rfl) (by kernel_rfl) calm_put hS (by rfl) ?_ ?_
            rotate_left
            · intro W hW; clear hW; go_simp; try (with_reducible rfl)
            simp only [Act.put, List.getElem_toArray, List.getElem_cons_succ, List.getElem_cons_zero, List.setIfInBounds_toArray, List.set_cons_zero, List.set_cons_succ]
            refine wpAnyE_take (i := 6) (v := ?_) (listed' := #[true, true, true, true, true, true, true, false, false, false]) (by rfl) (by kernel_rfl) (by kernel_rfl) calm_put hS (by rfl) ?_ ?_
            rotate_left
            · intro W hW; obtain ⟨p0, p1, c3⟩ := hW; go_simp; try (with_reducible rfl)
            simp only [Act.put, List.getElem_toArray, List.getElem_cons_succ, List.getElem_cons_zero, List.setIfInBounds_toArray, List.set_cons_zero, List.set_cons_succ]
            refine wpAnyE_one (i := 7) (listed' := #[true, true, true, true, true, true, true, true, false, false]) (by rfl) (by kernel_rfl) (by kernel_rfl) (by rfl) (fun K hK => ?_)
            simp only [Act.put, List.getElem_toArray, List.getElem_cons_succ, List.getElem_cons_zero, List.setIfInBounds_toArray, List.set_cons_zero, List.set_cons_succ]
            go_wp2_with fail
            refine Calls.mono (law_sector xn _) ?_
            rintro e' w8 ⟨rfl, hks⟩
            have hS := (⟨hks.cell' hS.1, hks.cell' hS.2.1, hks.cell' hS.2.2⟩ : _ ∧ _ ∧ _)
            refine hK _ _ (fun _ => hS) ?_; clear hK K
            refine wpAnyE_one (i := 8) (listed' := #[true, true, true, true, true, true, true, true, true, false]) (by rfl) (by kernel_rfl) (by kernel_rfl) (by rfl) (fun K hK => ?_)
            simp only [Act.put, List.getElem_toArray, List.getElem_cons_succ, List.getElem_cons_zero, List.setIfInBounds_toArray, List.set_cons_zero, List.set_cons_succ]
            go_wp2_with fail
            refine Calls.mono (HWB.out _ (HB7.out.kept ((Kept.refl _).drew.trans hks))) ?_
            rintro e' w9 ⟨rfl, hb9, hr9⟩
            have HB9 := Lib.hid (hb9.less (R' := fun _ => False) (fun _ h => h.elim))
            have hS := (⟨(World.cell?_of_block (a := ⟨Bp, 0, none⟩) (hr9 Bp rfl)).trans hS.1, (World.cell?_of_block (a := ⟨Bp, 1, none⟩) (hr9 Bp rfl)).trans hS.2.1, hb9.keeps.cell' g3⟩ : _ ∧ _ ∧ _)
            refine hK _ _ (fun _ => hS) ?_; clear hK K
            refine wpAnyE_one (i := 9) (listed' := #[true, true, true, true, true, true, true, true, true, true]) (by rfl) (by kernel_rfl) (by kernel_rfl) (by rfl) (fun K hK => ?_)
            simp only [Act.put, List.getElem_toArray, List.getElem_cons_succ, List.getElem_cons_zero, List.setIfInBounds_toArray, List.set_cons_zero, List.set_cons_succ]
            go_wp2
            refine hK _ _ (fun _ => hS) ?_; clear hK K
            refine wpAnyE_done (by kernel_rfl) ?_ _
            refine calm_normal ?_

            clear hS HB7
            have HUa := Lib.hid ((bk_Up HB9.out.fst).mono (R' := fun e' w' => e' = .returned (.bool (!Tb'.down)) ∧ w9 = w') fun e' w' ⟨h1, h2⟩ => ⟨by rw [h1, HSM.out.1], h2⟩)
            go_wp2_with fail
            refine Calls.mono HUa.out ?_
            rintro e' w10 ⟨rfl, rfl⟩
            go_wp2_with fail
            refine Calls.mono (bk_Up HB9.out.symm.fst) ?_
            rintro e' w10 ⟨rfl, rfl⟩
            generalize hdn : Tb'.down = dn at *
            clear hdn HUa
            go_wp2_with fail
            refine Calls.mono (st_loose HB9.out.fst HV1.out HSM.out.2) ?_
            rintro e' w10 ⟨rfl, _, hk8⟩
            have HB8 := Lib.hid (HB9.out.kept hk8)
            clear hk8 HB9
            go_wp2_with fail
            refine Calls.mono (st_loose HB8.out.symm.fst HV2.out rfl) ?_
            rintro e' w11 ⟨rfl, _, hk9⟩
            replace HB8 := Lib.hid (HB8.out.kept hk9)
            clear hk9
            go_wp2
            go_roundw
            case rel => exact ⟨k + 1, c + 1, Ta', Tb', hlt, h80, by go_num, by go_num, by omega, by omega, HI2, HB8⟩
            case measure => simp [intOf]; omega
      · have hkk : l.length ≤ k ∨ (k < l.length ∧ 80 ≤ k) := by omega
        clear hlt
        rcases hkk with hkk | ⟨hkk, h80⟩
        all_goals
          go_wp2
          go_meet
          case rel => exact ⟨c, Ta, Tb, HI, by omega, by omega, HB⟩
  case rest =>
    obtain ⟨c, Ta, Tb, HI, hc80, hclk, HB⟩ := hcut
    obtain ⟨u1, u2⟩ := HI.out.use hn32 (by omega) HM.out (by omega)
    have HU1 : Hid Ta.start.Use := Lib.hid ⟨u1.inv.start, u1.len, u1.clk, u1.wri⟩
    have HU2 : Hid Tb.start.Use := Lib.hid ⟨u2.inv.start, u2.len, u2.clk, u2.wri⟩
    have HRD := Lib.hid (fun d a => HI.out.read d a)
    clear u1 u2 HS HB4 HI4 HI
    go_wp2_with fail
    refine Calls.mono (HB.out.op (fun R hb => bk_Start hb)) ?_
    rintro e w5 ⟨rfl, hb5, hr5⟩
    have HB5 := Lib.hid hb5
    clear hb5 hr5 HB
    go_wp2_with fail
    refine Calls.mono (HB5.out.op2 (fun R hb => bk_Start hb)) ?_
    rintro e w6 ⟨rfl, hb6, hr6⟩
    have HB6 := Lib.hid hb6
    clear hb6 hr6 HB5
    generalize Ta.start = Sa at *
    generalize Tb.start = Sb at *
    go_wp2
    go_loopw [15] (fun i wr => ∃ k : Nat, k ≤ 24 ∧ i = .int .i64 k ∧ Hid (BK2 w (fun _ => False) wr qa Sa qb Sb)) (fun i _ => 24 - (intOf i).toNat)
    case atStart => exact ⟨0, Nat.zero_le _, rfl, HB6⟩
    case round =>
      obtain ⟨k, hk, rfl, HB⟩ := hrel
      by_cases hlt : k < 24
      · have hdq : ((k : Int) / 8) = ((k / 8 : Nat) : Int) := by omega
        obtain ⟨a, ha, hal⟩ := and_low (k : Int) 3 (by decide) (m := 7) (by decide)
        generalize k / 8 = d at *
        have hrd := HRD.out (d : Int) (a : Int)
        obtain ⟨xs, e, hx⟩ : ∃ xs e, Sb.read (d : Int) (a : Int) = (xs, e) := ⟨_, _, rfl⟩
        rw [hx] at hrd
        have hx64 : xs.length = 64 := by
          have h1 : xs = (Sb.read (d : Int) (a : Int)).1 := by rw [hx]
          rw [h1]
          unfold BankT.read
          split
          · rename_i hin
            obtain ⟨k', b', e1, e2, hk', hb', _⟩ := BankT.inE_has hin
            rw [e1, e2, Int.toNat_natCast, Int.toNat_natCast]
            have hk2 : d = k' := by omega
            exact ((HU2.out.inv.ok.d hk').new.at hb').1
          · exact zeroB_length
        have HX64 := Lib.hid hx64
        have HR1 := Lib.hid hrd; have HR2 := Lib.hid hx
        clear hrd hx hx64
        go_wp2_with (refine stop_at (o := ⟨some 16, _, _, _, _, _⟩) ?_)
        refine Stop.mk ?_
        refine wpList_new_row rfl rfl _ _ rfl rfl ty_plc _ zero_plc rfl [.int .i64 (d : Int), .int .i64 (a : Int)] rfl rfl (by intro u hu; simp at hu; rcases hu with rfl | rfl <;> rfl) rfl ?_
        intro w7 hz7 hs7 hk7
        have p0 : w7.cell? ⟨wr.heap.size, 0, none⟩ = some (.int .i64 (d : Int)) := cell_of_row _ _ 0 _ _ _ hz7.out
        have p1 : w7.cell? ⟨wr.heap.size, 1, none⟩ = some (.int .i64 (a : Int)) := cell_of_row _ _ 1 _ _ _ hz7.out
        have HB7 := Lib.hid (HB.out.kept hk7)
        generalize wr.heap.size = Bp at *
        clear hz7 hs7 hk7
        go_wp2_with fail
        refine Calls.mono (st_read HB7.out.fst HU1.out (d : Int) (a : Int) HR1.out) ?_
        rintro e' w8 ⟨rfl, hb8, hk8⟩
        have HB8 := Lib.hid (HB7.out.kept hk8)
        replace p0 := hk8.cell' p0
        replace p1 := hk8.cell' p1
        clear hb8 hk8 HB7
        go_wp2_with (refine stop_at (o := ⟨some 17, _, _, _, _, _⟩) ?_)
        refine Stop.mk ?_
        refine wpList_new_row rfl rfl _ _ rfl rfl ty_sec (u8s zeroB) zero_sec (by rw [u8s_length, zeroB_length]) (u8s xs) rfl (by rw [u8s_length, HX64.out]) (u8s_one _) rfl ?_
        intro w9 hz9 hs9 hk9
        have HX9 := hz9
        have HB9 := Lib.hid (HB8.out.kept hk9)
        replace p0 := hk9.cell' p0
        replace p1 := hk9.cell' p1
        clear hz9 hs9 hk9 HB8
        go_wp2_with fail
        refine Calls.mono (st_read HB9.out.symm.fst HU2.out (d : Int) (a : Int) HR2.out) ?_
        rintro e' w10 ⟨rfl, hb10, hk10⟩
        have HB10 := Lib.hid (HB9.out.kept hk10)
        have HX10 := Lib.hid (hk10.block HX9.out)
        clear hb10 hk10 HB9 p0 p1 HX9
        go_wp2_with (refine stop_at (o := ⟨some 19, _, _, _, _, _⟩) ?_)
        refine Stop.mk ?_
        refine wpList_new_row rfl rfl _ _ rfl rfl ty_sec (u8s zeroB) zero_sec (by rw [u8s_length, zeroB_length]) (u8s xs) rfl (by rw [u8s_length, HX64.out]) (u8s_one _) rfl ?_
        intro w11 hz11 hs11 hk11
        have HB11 := Lib.hid (HB10.out.kept hk11)
        have HX11 := Lib.hid (hk11.block HX10.out)
        have HY11 := hz11
        clear hz11 hs11 hk11 HB10 HX10
        go_wp2_with (refine stop_at (o := ⟨some 144, _, _, _, _, _⟩) ?_)
        refine Stop.mk ?_
        refine wpList_load_agg rfl _ rfl ty_sec w8.heap.size 0 rfl (u8s xs) (by simpa using Cells.of_block HX11.out) (by rw [u8s_length, HX64.out]) ?_
        go_wp2_with (refine stop_at (o := ⟨some 145, _, _, _, _, _⟩) ?_)
        refine Stop.mk ?_
        refine wpList_load_agg rfl _ rfl ty_sec w10.heap.size 0 rfl (u8s xs) (by simpa using Cells.of_block HY11.out) (by rw [u8s_length, HX64.out]) ?_
        go_wp2_with (refine stop_at (o := ⟨some 146, _, _, _, _, _⟩) ?_)
        refine Stop.mk ?_
        refine wpList_neq_sec rfl _ _ rfl xs xs rfl rfl HX64.out HX64.out ?_
        rw [show (xs == xs) = true by simp]
        clear HX11 HY11
        go_wp2
        go_roundw
        case rel => exact ⟨k + 1, hlt, by go_num, HB11⟩
        case measure => simp [intOf]; omega
      · have HK := Lib.hid HB.out.keeps
        go_wp2
        go_ret
        exact ⟨rfl, HK.out⟩
end
end Go.Proofs.Ytfnjgcmghfnjhaa
