/- StateApart: the walk. -/
import Derived.Test.YtiijfocdjcjlaaaGreatApa
import Derived.Test.YtiijfocdjcjlaaaGreatPsA
import Derived.Deep.QuietTactic
import Derived.BigQuiet
namespace Go.Proofs.YtiijfocdjcjlaaaGreat
open Go.RowKit Go.ChangeMaps Go.MapKept
set_option linter.unusedVariables false
set_option linter.unusedSimpArgs false
set_option maxRecDepth 100000
set_option maxHeartbeats 1000000
theorem ApartS.fact {t : St} (h : ApartS t) {i k j n : Nat} (hi : i < t.gs.length) (hk : k < (t.gs[i]).ext.length) (hj : j < t.gs.length) (hn : n < (t.gs[j]).ext.length) {xd xa yd ya : Int} (ex : (t.gs[i]).ext[k] = (xd, xa)) (ey : (t.gs[j]).ext[n] = (yd, ya)) :
    (((i : Int) == (j : Int)) = true → ((k : Int) == (n : Int)) = false → (xd != yd) = true) ∧ (((i : Int) == (j : Int)) = false → (xd != yd) = false → decide (xa < wrap64 (ya + 8)) = true → decide (ya < wrap64 (xa + 8)) = false) := by
  constructor
  · intro h1 h2
    have e1 : i = j := by have := eq_of_beq h1; omega
    subst e1
    have e2 : k ≠ n := by intro e; subst e; simp at h2
    have := h.one i hi k hk n hn e2
    rw [ex, ey] at this
    simpa using this
  · intro h1 h2 h3
    have e1 : i ≠ j := by intro e; subst e; simp at h1
    have e2 : xd = yd := by simpa using h2
    have := h.two i hi k hk j hj n hn e1 (by rw [ex, ey]; exact e2)
    rw [ex, ey] at this
    simp only [decide_eq_true_eq] at h3
    simp only [decide_eq_false_iff_not]
    exact fun h4 => this ⟨h3, h4⟩
theorem ApartS.fact1 {t : St} (h : ApartS t) {i k : Nat} (hi : i < t.gs.length) (hk : k < (t.gs[i]).ext.length) {xd xa : Int} (ex : (t.gs[i]).ext[k] = (xd, xa)) : decide (xa < 114) = false ∧ decide (4096 < wrap64 (xa + 8)) = false := by
  have := h.at_ i hi k hk
  rw [ex] at this
  simp only [decide_eq_false_iff_not]
  simp only at this
  exact ⟨by omega, by omega⟩
/-- the group's row at k, and its extents -/
theorem StM.row {W : World} {s : St} {sm sp sd : Value} {og : Option Addr} {m cg : Nat} {raw : List Gw} (h : StM W s sm (.slice og m cg) sp sd raw) {k : Nat} (hk : k < raw.length) :
    ∃ bg offg oe ce, ∃ (h2 : k < s.gs.length), og = some ⟨bg, offg, none⟩ ∧ W.cell? ⟨bg, offg + k * 3 + 2, none⟩ = some (.slice oe (s.gs[k]).ext.length ce) ∧ RSl pairV 2 W (.slice oe (s.gs[k]).ext.length ce) (s.gs[k]).ext ∧ (s.gs[k]).ext.length ≤ 4096 := by
  obtain ⟨bg, offg, e, hbg, hcg⟩ := h.gs.at hk
  have h2 : k < s.gs.length := by rw [← h.rel.len]; exact hk
  have hrl := h.rel.at_ k hk h2
  obtain ⟨oe, ce, hve, _⟩ := hrl.ext.form
  refine ⟨bg, offg, oe, ce, h2, e, ?_, ?_, hrl.few⟩
  · rw [← hve]; exact hcg 2 (by simp [grw])
  · rw [← hve]; exact hrl.ext
theorem law_apart (s : St) (sm sg sp sd : Value) (raw : List Gw) (w : World) (h : StI w s sm sg sp sd raw) :
    Calls Tryz.prog 3 #[.agg (stC s sm sg sp sd).toArray] w fun e w' => e = .returned (.bool true) ∧ Kept w w' := by
  have HH := Lib.hid h
  have HL := Lib.hid (stC_len h.plug sm sg sp sd)
  clear h
  go_enter Tryz.func3, Tryz.ntmps3
  go_wp2_with (refine stop_at (o := ⟨some 1, _, _, _, _, _⟩) ?_)
  refine Stop.mk ?_
  refine wpList_box_rowS rfl _ _ rfl (stC s sm sg sp sd) rfl ?_
  intro w1 hz1 hs1 hk1
  obtain ⟨X, hX⟩ : ∃ X, X = w.heap.size := ⟨_, rfl⟩
  rw [← hX] at hz1 ⊢
  have HX := Lib.hid (show w.heap.size = X from hX.symm)
  have HSH := Lib.hid (law_shown w1)
  have HZ1 := Lib.hid hz1.out
  have HK1 := Lib.hid hk1
  clear hz1 hs1 hk1 hX
  go_wp2_with fail
  refine Calls.mono HSH.out ?_
  rintro e w2 ⟨rfl, hk2⟩
  have HZ2 := Lib.hid (hk2.block HZ1.out)
  have HK2 := Lib.hid (HK1.out.trans hk2)
  clear hk2 HZ1 HK1 HSH
  go_wp2_with (refine stop_at (o := ⟨some 13, _, _, _, _, _⟩) ?_)
  refine Stop.mk ?_
  refine wpList_load_agg rfl _ rfl agT_state X 0 rfl _ (Cells.of_block HZ2.out) HL.out ?_
  have HCU := Lib.hid (law_cut s sm sg sp sd raw w2 (HH.out.kept HK2.out))
  go_wp2_with fail
  refine Calls.mono HCU.out ?_
  rintro e w3 ⟨sm3, sg3, sp3, sd3, raw3, rfl, hst, hk3⟩
  have HSTA := Lib.hid hst
  have HST := Lib.hid (hst w3 (But.refl _ _))
  have HZ3 := Lib.hid (hk3.block HZ2.out)
  have HK3 := Lib.hid (HK2.out.trans hk3)
  have hsz2 := HK2.out.size
  have HX2 := Lib.hid (show X < w2.heap.size from (Array.getElem?_eq_some_iff.1 HZ2.out).1)
  clear hst hk3 HZ2 HK2 HCU hsz2
  obtain ⟨t, ht⟩ : ∃ t, t = cutS s := ⟨_, rfl⟩
  rw [← ht] at HSTA HST ⊢
  clear ht
  have HL3 := Lib.hid (stC_len HST.out.plug sm3 sg3 sp3 sd3)
  have HO3 := Lib.hid (st_one HST.out)
  go_wp2_with (refine stop_at (o := ⟨none, .store _ _ _, _, _, _, _⟩) ?_)
  refine Stop.mk ?_
  refine wpList_store_agg rfl _ _ rfl agT_state X 0 rfl (stC t sm3 sg3 sp3 sd3) rfl HL3.out HO3.out _ _ HZ3.out (by rw [HL.out]; decide) ?_
  intro w4 hw4
  replace hw4 := hw4.all (by rw [HL3.out, HL.out])
  have hb4 : But (fun i => i = X) w3 w4 := But.wrote hw4 rfl
  have HZ4 := Lib.hid hw4.blk
  have HK4 := Lib.hid (But.to_kept HK3.out hb4 (fun i hi => by have := HX.out; omega))
  have HST4 := Lib.hid (HSTA.out w4 (hb4.mono (fun i hi => by have := HX2.out; omega)))
  clear hw4 hb4 HST HSTA HZ3 HK3 HX2
  go_wp2_with (refine stop_at (o := ⟨some 15, _, _, _, _, _⟩) ?_)
  refine Stop.mk ?_
  refine wpList_load_agg rfl _ rfl agT_state X 0 rfl _ (Cells.of_block HZ4.out) HL3.out ?_
  have HRI := Lib.hid (st_Right t sm3 sg3 sp3 sd3 raw3 w4 HST4.out)
  go_wp2_with fail
  refine Calls.mono HRI.out ?_
  rintro e w5 ⟨rfl, hk5⟩
  have HZ5 := Lib.hid (hk5.block HZ4.out)
  have HK5 := Lib.hid (HK4.out.trans hk5)
  have HST5 := Lib.hid (HST4.out.kept hk5)
  clear hk5 HZ4 HK4 HST4 HRI
  cases hri : rightS t with
  | false =>
    go_wp2
    go_ret
    exact ⟨rfl, HK5.out⟩
  | true =>
    have HRT := Lib.hid hri
    clear hri
    have HAP := Lib.hid (apart_of t HRT.out)
    have HLR := Lib.hid HST5.out.rel.len
    have hgl : raw3.length ≤ 4096 := by rw [HLR.out]; exact HST5.out.lgs
    have hml := HST5.out.lmp
    obtain ⟨om, cm, rfl, _⟩ := HST5.out.ms.form
    obtain ⟨og, cg, rfl, _⟩ := HST5.out.gs.form
    obtain ⟨op, cp, rfl, _⟩ := HST5.out.mp.form
    obtain ⟨od, cd, rfl, _⟩ := HST5.out.dirty.form
    have HX2 := Lib.hid (stv_cells (Cells.of_block HZ5.out)).2.2.1
    go_wp2
    go_loopw [4] (fun iv wr => ∃ i : Nat, i ≤ raw3.length ∧ iv = .int .i64 (i : Int) ∧ Hid (Kept w5 wr)) (fun iv _ => raw3.length - (intOf iv).toNat)
    case atStart => exact ⟨0, Nat.zero_le _, rfl, Lib.hid (Kept.refl _)⟩
    case round =>
      obtain ⟨i, hi, rfl, HKI⟩ := hrel
      have x2 := HKI.out.cell' HX2.out
      by_cases hli : i < raw3.length
      · obtain ⟨bg, offg, oe, ce, hi2, rfl, hgi, hri, hfi⟩ := HST5.out.row hli
        obtain ⟨E, hE⟩ : ∃ E, E = (t.gs[i]'hi2).ext := ⟨_, rfl⟩
        rw [← hE] at hgi hri hfi
        have HE := Lib.hid hE
        have HGI := Lib.hid hgi
        have HRI2 := Lib.hid hri
        have g2 := HKI.out.cell' hgi
        clear hE hgi hri
        go_wp2
        clear g2 x2
        go_loopw [5] (fun kv wr => ∃ k : Nat, k ≤ E.length ∧ kv = .int .i64 (k : Int) ∧ Hid (Kept w5 wr)) (fun kv _ => E.length - (intOf kv).toNat)
        case atStart => exact ⟨0, Nat.zero_le _, rfl, HKI⟩
        case round =>
          obtain ⟨k, hk, rfl, HKK⟩ := hrel
          have x2 := HKK.out.cell' HX2.out
          have g2 := HKK.out.cell' HGI.out
          by_cases hlk : k < E.length
          · obtain ⟨be, offe, rfl, hbe, hce⟩ := (HRI2.out.kept HKK.out).at hlk
            obtain ⟨xd, xa, hx⟩ : ∃ xd xa, E[k] = (xd, xa) := ⟨_, _, rfl⟩
            rw [hx] at hce
            have e0 := hce 0 (by rw [pairV_len]; decide)
            have e1 := hce 1 (by rw [pairV_len]; decide)
            simp only [pairV, List.getElem_cons_zero, List.getElem_cons_succ, Nat.add_zero] at e0 e1
            have HXE : Hid (∃ hk2 : k < (t.gs[i]'hi2).ext.length, (t.gs[i]'hi2).ext[k]'hk2 = (xd, xa)) := Lib.hid (by rw [← HE.out]; exact ⟨hlk, hx⟩)
            clear hce hx hbe
            go_wp2_with (refine stop_at (o := ⟨some 6, .alloc _, _, _, _, _⟩) ?_)
            refine Stop.mk ?_
            refine wpList_alloc_abs rfl _ rfl _ zero_ext ?_
            intro w6 hz6 hs6 hs6' hk6
            go_wp2_with (refine stop_at (o := ⟨none, .store _ _ _, _, _, _, _⟩) ?_)
            refine Stop.mk ?_
            refine wpList_store_agg (o := ⟨none, .store _ _ _, _, _, _, _⟩) rfl _ _ rfl agT_ext wr.heap.size 0 rfl (pairV (xd, xa)) rfl rfl (pair_one _) _ _ hz6.out (by simp) ?_
            intro w7 hw7
            replace hw7 := hw7.all rfl
            have hk7 : Kept wr w7 := hw7.kept hk6 (Nat.le_refl _)
            have hcn := hw7.cells
            have n0 := hcn 0 (by rw [pairV_len]; decide)
            have n1 := hcn 1 (by rw [pairV_len]; decide)
            simp only [Nat.add_zero, Nat.zero_add, pairV, List.getElem_cons_zero, List.getElem_cons_succ] at n0 n1
            have HK7 := Lib.hid (HKK.out.trans hk7)
            have HN0 := Lib.hid n0; have HN1 := Lib.hid n1
            have hf1 : decide (xa < 114) = false ∧ decide (4096 < wrap64 (xa + 8)) = false := by obtain ⟨hk2, hx2⟩ := HXE.out; exact HAP.out.fact1 hi2 hk2 hx2
            obtain ⟨f1, f2⟩ := hf1
            clear hz6 hs6 hs6' hk6 hw7 hk7 hcn e0 e1 x2 g2
            generalize wr.heap.size = XB at *
            go_wp2
            clear n0 n1 f1 f2
            go_loopw [7] (fun jv wr => ∃ j : Nat, j ≤ raw3.length ∧ jv = .int .i64 (j : Int) ∧ Hid (Kept w7 wr)) (fun jv _ => raw3.length - (intOf jv).toNat)
            case atStart => exact ⟨0, Nat.zero_le _, rfl, Lib.hid (Kept.refl _)⟩
            case round =>
              obtain ⟨j, hj, rfl, HKJ⟩ := hrel
              have x2 := (HK7.out.trans HKJ.out).cell' HX2.out
              by_cases hlj : j < raw3.length
              · obtain ⟨bg', offg', of, cf, hj2, he, hgj, hrj, hfj⟩ := HST5.out.row hlj
                cases he
                obtain ⟨F, hF⟩ : ∃ F, F = (t.gs[j]'hj2).ext := ⟨_, rfl⟩
                rw [← hF] at hgj hrj hfj
                have HF := Lib.hid hF
                have HGJ := Lib.hid (HK7.out.cell' hgj)
                have HRJ := Lib.hid (hrj.kept HK7.out)
                have g2 := HKJ.out.cell' HGJ.out
                clear hF hgj hrj
                go_wp2
                clear g2 x2
                go_loopw [8] (fun nv wr => ∃ n : Nat, n ≤ F.length ∧ nv = .int .i64 (n : Int) ∧ Hid (Kept w7 wr)) (fun nv _ => F.length - (intOf nv).toNat)
                case atStart => exact ⟨0, Nat.zero_le _, rfl, HKJ⟩
                case round =>
                  obtain ⟨n, hn, rfl, HKN⟩ := hrel
                  have x2 := (HK7.out.trans HKN.out).cell' HX2.out
                  have g2 := HKN.out.cell' HGJ.out
                  by_cases hln : n < F.length
                  · obtain ⟨bf, offf, rfl, hbf, hcf⟩ := (HRJ.out.kept HKN.out).at hln
                    obtain ⟨yd, ya, hy⟩ : ∃ yd ya, F[n] = (yd, ya) := ⟨_, _, rfl⟩
                    rw [hy] at hcf
                    have e0 := hcf 0 (by rw [pairV_len]; decide)
                    have e1 := hcf 1 (by rw [pairV_len]; decide)
                    simp only [pairV, List.getElem_cons_zero, List.getElem_cons_succ, Nat.add_zero] at e0 e1
                    have HYF : Hid (∃ hn2 : n < (t.gs[j]'hj2).ext.length, (t.gs[j]'hj2).ext[n]'hn2 = (yd, ya)) := Lib.hid (by rw [← HF.out]; exact ⟨hln, hy⟩)
                    clear hcf hy hbf
                    go_wp2_with (refine stop_at (o := ⟨some 9, .alloc _, _, _, _, _⟩) ?_)
                    refine Stop.mk ?_
                    refine wpList_alloc_abs rfl _ rfl _ zero_ext ?_
                    intro w8 hz8 hs8 hs8' hk8
                    go_wp2_with (refine stop_at (o := ⟨none, .store _ _ _, _, _, _, _⟩) ?_)
                    refine Stop.mk ?_
                    refine wpList_store_agg (o := ⟨none, .store _ _ _, _, _, _, _⟩) rfl _ _ rfl agT_ext wr.heap.size 0 rfl (pairV (yd, ya)) rfl rfl (pair_one _) _ _ hz8.out (by simp) ?_
                    intro w9 hw9
                    replace hw9 := hw9.all rfl
                    have hk9 : Kept wr w9 := hw9.kept hk8 (Nat.le_refl _)
                    have hcn := hw9.cells
                    have y0 := hcn 0 (by rw [pairV_len]; decide)
                    have y1 := hcn 1 (by rw [pairV_len]; decide)
                    simp only [Nat.add_zero, Nat.zero_add, pairV, List.getElem_cons_zero, List.getElem_cons_succ] at y0 y1
                    have HK9 := Lib.hid (HKN.out.trans hk9)
                    have n0 := HK9.out.cell' HN0.out
                    have n1 := HK9.out.cell' HN1.out
                    have hff : (((i : Int) == (j : Int)) = true → ((k : Int) == (n : Int)) = false → (xd != yd) = true) ∧ (((i : Int) == (j : Int)) = false → (xd != yd) = false → decide (xa < wrap64 (ya + 8)) = true → decide (ya < wrap64 (xa + 8)) = false) := by
                      obtain ⟨hk2, hx2⟩ := HXE.out
                      obtain ⟨hn2, hy2⟩ := HYF.out
                      exact HAP.out.fact hi2 hk2 hj2 hn2 hx2 hy2
                    have HFF := Lib.hid hff
                    clear hz8 hs8 hs8' hk8 hw9 hk9 hcn e0 e1 x2 g2 hff
                    generalize wr.heap.size = YB at *
                    cases hij : ((i : Int) == (j : Int)) with
                    | true =>
                      cases hkn : ((k : Int) == (n : Int)) with
                      | true =>
                        go_wp2
                        go_roundw
                        case rel => exact ⟨n + 1, by omega, by go_num, HK9⟩
                        case measure => simp [intOf]; omega
                      | false =>
                        have hdd := HFF.out.1 hij hkn
                        go_wp2
                        go_roundw
                        case rel => exact ⟨n + 1, by omega, by go_num, HK9⟩
                        case measure => simp [intOf]; omega
                    | false =>
                      cases hdd : (xd != yd) with
                      | true =>
                        go_wp2
                        go_roundw
                        case rel => exact ⟨n + 1, by omega, by go_num, HK9⟩
                        case measure => simp [intOf]; omega
                      | false =>
                        cases ha : decide (xa < wrap64 (ya + 8)) with
                        | true =>
                          have hb := HFF.out.2 hij hdd ha
                          go_wp2
                          go_roundw
                          case rel => exact ⟨n + 1, by omega, by go_num, HK9⟩
                          case measure => simp [intOf]; omega
                        | false =>
                          go_wp2
                          go_roundw
                          case rel => exact ⟨n + 1, by omega, by go_num, HK9⟩
                          case measure => simp [intOf]; omega
                  · go_wp2
                    go_roundw
                    case rel => exact ⟨j + 1, by omega, by go_num, HKN⟩
                    case measure => simp [intOf]; omega
              · go_wp2
                go_roundw
                case rel => exact ⟨k + 1, by omega, by go_num, Lib.hid (HK7.out.trans HKJ.out)⟩
                case measure => simp [intOf]; omega
          · go_wp2
            go_roundw
            case rel => exact ⟨i + 1, by omega, by go_num, HKK⟩
            case measure => simp [intOf]; omega
      · have HX3 := Lib.hid (stv_cells (Cells.of_block HZ5.out)).2.2.2.1
        have HX0 := Lib.hid (stv_cells (Cells.of_block HZ5.out)).1
        go_wp2
        clear x2
        go_loopw [10] (fun av wr => ∃ a : Nat, a ≤ t.mp.length ∧ av = .int .i64 (a : Int) ∧ Hid (Kept w5 wr)) (fun av _ => t.mp.length - (intOf av).toNat)
        case atStart => exact ⟨0, Nat.zero_le _, rfl, HKI⟩
        case round =>
          obtain ⟨a, ha, rfl, HKA⟩ := hrel
          have x3 := HKA.out.cell' HX3.out
          by_cases hla : a < t.mp.length
          · go_wp2
            clear x3
            go_loopw [11] (fun bv wr => ∃ b : Nat, b ≤ a ∧ bv = .int .i64 (b : Int) ∧ Hid (Kept w5 wr)) (fun bv _ => a - (intOf bv).toNat)
            case atStart => exact ⟨0, Nat.zero_le _, rfl, HKA⟩
            case round =>
              obtain ⟨b, hb, rfl, HKB⟩ := hrel
              by_cases hlb : b < a
              · obtain ⟨bp, offp, rfl, hbp, hca⟩ := (HST5.out.mp.kept HKB.out).at hla
                obtain ⟨bp2, offp2, he, hbp2, hcb⟩ := (HST5.out.mp.kept HKB.out).at (show b < t.mp.length by omega)
                cases he
                have hlb2 : b < t.mp.length := by omega
                have x3 := HKB.out.cell' HX3.out
                obtain ⟨p, hp⟩ : ∃ p, p = t.mp[a]'hla := ⟨_, rfl⟩
                obtain ⟨q, hq⟩ : ∃ q, q = t.mp[b]'(by omega) := ⟨_, rfl⟩
                have hon : (p == q) = true → (p.1 != 0) = false := by
                  intro h
                  have h := eq_of_beq h
                  rw [hp, hq] at h
                  have := HAP.out.once a hla b hlb h
                  rw [hp, this]; rfl
                rw [← hp] at hca
                rw [← hq] at hcb
                have p0 := hca 0 (by rw [trip_len]; decide)
                have p1 := hca 1 (by rw [trip_len]; decide)
                have p2 := hca 2 (by rw [trip_len]; decide)
                have q0 := hcb 0 (by rw [trip_len]; decide)
                have q1 := hcb 1 (by rw [trip_len]; decide)
                have q2 := hcb 2 (by rw [trip_len]; decide)
                simp only [Nat.add_zero, trip, List.getElem_cons_zero, List.getElem_cons_succ] at p0 p1 p2 q0 q1 q2
                clear hca hcb hp hq hbp hbp2
                cases hpq : (p == q) with
                | true =>
                  have hne := hon hpq
                  clear hon
                  go_upto_region 30 with fail
                  refine wp_still_all (by kernel_rfl) (by kernel_rfl) fun ws hks hhs => ?_
                  replace x3 := hks.cell' x3
                  replace p0 := hks.cell' p0
                  replace p1 := hks.cell' p1
                  replace p2 := hks.cell' p2
                  replace q0 := hks.cell' q0
                  replace q1 := hks.cell' q1
                  replace q2 := hks.cell' q2
                  have HKW := Lib.hid (HKB.out.trans hks)
                  clear hks hhs
                  iterate 10 still_step
                  refine SB.out (SB.val (v := .bool (p == q)) (by rfl) (exec_eq_whr _ _ rfl p q rfl rfl) ?_)
                  rw [hpq]
                  refine ⟨?_⟩
                  clear hpq
                  iterate 9 still_step
                  refine wpStill_nil ?_
                  go_wp2
                  go_roundw
                  case rel => exact ⟨b + 1, by omega, by go_num, HKW⟩
                  case measure => simp [intOf]; omega
                | false =>
                  clear hon
                  go_upto_region 30 with fail
                  refine wp_still_all (by kernel_rfl) (by kernel_rfl) fun ws hks hhs => ?_
                  replace x3 := hks.cell' x3
                  replace p0 := hks.cell' p0
                  replace p1 := hks.cell' p1
                  replace p2 := hks.cell' p2
                  replace q0 := hks.cell' q0
                  replace q1 := hks.cell' q1
                  replace q2 := hks.cell' q2
                  have HKW := Lib.hid (HKB.out.trans hks)
                  clear hks hhs
                  iterate 10 still_step
                  refine SB.out (SB.val (v := .bool (p == q)) (by rfl) (exec_eq_whr _ _ rfl p q rfl rfl) ?_)
                  rw [hpq]
                  clear hpq
                  simp only [Act.put, List.getElem_toArray, List.getElem_cons_succ, List.getElem_cons_zero, List.setIfInBounds_toArray, List.set_cons_zero, List.set_cons_succ]
                  refine SB.val (v := .bool false) (by rfl) ?_ ?_
                  · go_simp; try (with_reducible rfl)
                  simp only [Act.put, List.getElem_toArray, List.getElem_cons_succ, List.getElem_cons_zero, List.setIfInBounds_toArray, List.set_cons_zero, List.set_cons_succ]
                  iterate 7
                    refine SB.skip (by rfl) ?_
                    simp only [Act.put, List.getElem_toArray, List.getElem_cons_succ, List.getElem_cons_zero, List.setIfInBounds_toArray, List.set_cons_zero, List.set_cons_succ]
                  refine SB.val (v := .bool false) (by rfl) ?_ ?_
                  · go_simp; try (with_reducible rfl)
                  simp only [Act.put, List.getElem_toArray, List.getElem_cons_succ, List.getElem_cons_zero, List.setIfInBounds_toArray, List.set_cons_zero, List.set_cons_succ]
                  refine ⟨wpStill_nil ?_⟩
                  go_wp2
                  go_roundw
                  case rel => exact ⟨b + 1, by omega, by go_num, HKW⟩
                  case measure => simp [intOf]; omega
              · go_wp2
                go_roundw
                case rel => exact ⟨a + 1, by omega, by go_num, HKB⟩
                case measure => simp [intOf]; omega
          · have hbl : ((t.mp.length : Int) == t.blocks) = true := by rw [HAP.out.len]; simp
            have x0 := HKA.out.cell' HX0.out
            go_wp2
            go_ret
            exact ⟨rfl, HK5.out.trans HKA.out⟩
end Go.Proofs.YtiijfocdjcjlaaaGreat
