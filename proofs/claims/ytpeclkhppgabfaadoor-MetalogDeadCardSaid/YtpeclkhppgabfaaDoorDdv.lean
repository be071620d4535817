/- MetalogDead's walk. -/
import Derived.Test.YtpeclkhppgabfaaDoorDdp
import Derived.Test.YtpeclkhppgabfaaDoorPbB
import Derived.Test.YtpeclkhppgabfaaDoorIrw
namespace Go.Proofs.YtpeclkhppgabfaaDoor
open Go.RowKit
set_option linter.unusedVariables false
set_option linter.unusedSimpArgs false
theorem parts4 {n : Nat} (h : n ≤ 200) : 1 ≤ partsN n ∧ partsN n ≤ 4 := by unfold partsN; split <;> omega
section
set_option maxHeartbeats 4000000
set_option maxRecDepth 100000
theorem law_dead (v : Value) (L : List (List Int)) (a1 a2 : Int) (w : World) (hs : RSrc w v L) : Calls Tryd.prog 10 #[v, .int .i64 a1, .int .i64 a2] w fun e w' => e = .returned (.bool true) ∧ Kept w w' := by
  have HS := Lib.hid hs
  obtain ⟨oa, cap0, rfl, _, _, _⟩ := hs
  obtain ⟨ga, hga, hgal⟩ := and_low a1 3 (by decide) (m := 7) (by decide)
  obtain ⟨gc, hgc, hgcl⟩ := and_low a2 3 (by decide) (m := 7) (by decide)
  clear hgal hgcl
  go_enter Tryd.func10, Tryd.ntmps10
  go_wp2_with fail
  refine Calls.mono (law_shown09 _) ?_
  rintro e w1 ⟨rfl, hk1⟩
  have HK1 := Lib.hid hk1
  clear hk1
  go_wp2_with fail
  refine Calls.mono (bank09 3 (by decide) w w1 (fun k => k ∈ ([] : List Nat)) HK1.out (fun k h => by cases h)) ?_
  rintro e w2 ⟨q, rfl, hb2, _⟩
  have HB2 := Lib.hid hb2
  clear hb2 HK1
  go_wp2_with (refine stop_at (o := ⟨some 30, _, _, _, _, _⟩) ?_)
  refine Stop.mk ?_
  refine wpList_lit_ints rfl 3 (by decide) _ rfl [0, 1, 2] (by kernel_rfl) ?_
  intro w3 hz3 hs3 hk3
  have HC3 := Lib.hid (by simpa using Cells.of_block hz3.out : Cells w3 w2.heap.size 0 (ints [0, 1, 2]))
  have HB3 := Lib.hid (HB2.out.pushR hk3 w2.heap.size (Nat.le_refl _) hs3)
  generalize w2.heap.size = B at *
  clear hz3 hk3 HB2
  go_wp2_with fail
  refine Calls.mono (meta_New q B 3 [0, 1, 2] 2 w3 (by decide) (by decide) (by decide) HC3.out) ?_
  rintro e w4 ⟨p, lg, cap, rfl, hl4, hlg, hlp, hps, hk4⟩
  have HB4 : Hid (BK w (fun k => k ∈ [p, lg, B]) w4 q (addZ 200 3)) := Lib.hid (HB3.out.pushRs hk4 [p, lg] (by intro k hk; simp at hk; rcases hk with rfl | rfl <;> omega))
  have HL4 := Lib.hid hl4
  have HP := Lib.hid (And.intro (Nat.le_trans HB3.out.keeps.size (Nat.le_trans hlg (Nat.le_of_lt hlp))) (Nat.ne_of_lt hlp))
  have HBP : Hid (B ≠ p) := Lib.hid (by omega)
  have HC4 := Lib.hid (HC3.out.kept hk4)
  clear hl4 hlg hlp hps hk4 hs3 HB3 HC3
  have HQ4 := Lib.hid (LogQ.start (n := 3) (by decide) [0, 1, 2] 2)
  obtain ⟨wa, rfl⟩ : ∃ wa, wa = w4 := ⟨_, rfl⟩
  go_upto_block 0 with fail
  go_cut [11] (fun nv wc => ∃ (k : Nat) (R : List (List Int)) (T : BankT) (dd : Nat → Bool) (N : Nat → Nat → List Int) (t pn : Nat), nv = .int .i64 (k : Int) ∧ pn ≤ 32 ∧ k ≤ 8 ∧ t ≤ 1200 ∧ Hid (dd 2 = false) ∧ Hid (R.length = k ∧ posN R = pn) ∧ Hid (LogQ T 3 dd N t [0, 1, 2] 2 R) ∧ Hid (BK w (fun k => k ∈ [p, lg, B]) wc q T) ∧ Hid (LogD wc p q lg cap [0, 1, 2] ⟨2, k, pn, false⟩) ∧ Hid (Cells wc B 0 (ints [0, 1, 2])))
  case first =>
    go_wp2
    go_loopw [11, 12] (fun nv i wr => ∃ (k : Nat) (R : List (List Int)) (T : BankT) (dd : Nat → Bool) (N : Nat → Nat → List Int) (t pn : Nat), k ≤ L.length ∧ k ≤ 8 ∧ i = .int .i64 k ∧ nv = .int .i64 k ∧ pn ≤ 4 * k ∧ t ≤ 150 * k ∧ Hid (dd 2 = false) ∧ Hid (R.length = k ∧ posN R = pn) ∧ Hid (LogQ T 3 dd N t [0, 1, 2] 2 R) ∧ Hid (BK w (fun k => k ∈ [p, lg, B]) wr q T) ∧ Hid (LogD wr p q lg cap [0, 1, 2] ⟨2, k, pn, false⟩) ∧ Hid (Cells wr B 0 (ints [0, 1, 2]))) (fun _ i _ => L.length - (intOf i).toNat)
    case atStart => exact ⟨0, [], _, fun _ => false, _, 0, 0, Nat.zero_le _, by decide, rfl, rfl, by decide, by decide, Lib.hid rfl, Lib.hid ⟨rfl, rfl⟩, HQ4, HB4, HL4, HC4⟩
    case round =>
      clear HQ4 HB4 HL4 HC4
      obtain ⟨k, R, T, dd, N, t, pn, hk, hk8, rfl, rfl, hpn, ht, HD, HN, HQ, HB, HL, HC⟩ := hrel
      by_cases hlt : k < L.length ∧ k < 8
      · obtain ⟨hlt, h8⟩ := hlt
        obtain ⟨b, off, ax, ck, rfl, g1, hsrc⟩ := HS.out.at k hlt
        obtain ⟨x, hx⟩ : ∃ x, x = L[k] := ⟨_, rfl⟩
        rw [← hx] at g1 hsrc
        obtain ⟨nk, hnk⟩ : ∃ nk, nk = x.length := ⟨_, rfl⟩
        rw [← hnk] at g1 hsrc
        obtain ⟨kk, hkk⟩ : ∃ kk, kk = min nk 200 := ⟨_, rfl⟩
        obtain ⟨hn0, hkc, hh, hhl⟩ := hsrc.head kk (by omega)
        generalize x.take kk = xk at *
        have hma : min (nk : Int) 200 = (kk : Int) := by omega
        have hk200 : kk ≤ 200 := by omega
        obtain ⟨pt, hpt⟩ : ∃ pt, partsN kk = pt := ⟨_, rfl⟩
        have hp4 := parts4 hk200
        rw [hpt] at hp4
        have HG := Lib.hid g1
        have HH := Lib.hid hh
        have HHL := Lib.hid hhl
        have HPT := Lib.hid hpt
        clear hn0 hx hnk hsrc hkk hh hhl hpt g1
        by_cases hka : k = ga
        · by_cases hkc2 : k = gc
          · skip
            have ta : ((k : Int) == (ga : Int)) = true := by simp; omega
            have tc : ((k : Int) == (gc : Int)) = true := by simp; omega
            clear hka hkc2
            obtain ⟨T1, e1, he1, hq1⟩ := HQ.out.fails 0
            have HQ1 := Lib.hid hq1
            have HD1 : Hid ((fun c => (dd) c || decide (c = 0)) 2 = false) := Lib.hid (by have := HD.out; simpa using this)
            have hc := bk_Fail HB.out (HQ.out.q.use (by decide) (by omega)) ((0 : Nat) : Int)
            rw [he1] at hc
            have HCA := Lib.hid hc
            clear hc he1 hq1
            go_wp2_with fail
            refine Calls.mono HCA.out ?_
            rintro e u1 ⟨rfl, hb, hs⟩
            have HB1 : Hid (BK w (fun k => k ∈ [p, lg, B]) u1 q T1) := Lib.hid hb
            have HL1 := Lib.hid (HL.out.same hs (by simp) (by simp))
            have HC1 := Lib.hid (hs.cells (B := B) (by simp) HC.out)
            clear hb hs HCA HB HL HC HQ HD
            obtain ⟨T2, e2, he2, hq2⟩ := HQ1.out.fails 1
            have HQ2 := Lib.hid hq2
            have HD2 : Hid ((fun c => (fun c => (dd) c || decide (c = 0)) c || decide (c = 1)) 2 = false) := Lib.hid (by have := HD1.out; simpa using this)
            have hc := bk_Fail HB1.out (HQ1.out.q.use (by decide) (by omega)) ((1 : Nat) : Int)
            rw [he2] at hc
            have HCA := Lib.hid hc
            clear hc he2 hq2
            go_wp2_with fail
            refine Calls.mono HCA.out ?_
            rintro e u2 ⟨rfl, hb, hs⟩
            have HB2 : Hid (BK w (fun k => k ∈ [p, lg, B]) u2 q T2) := Lib.hid hb
            have HL2 := Lib.hid (HL1.out.same hs (by simp) (by simp))
            have HC2 := Lib.hid (hs.cells (B := B) (by simp) HC1.out)
            clear hb hs HCA HB1 HL1 HC1 HQ1 HD1
            have hstep := HQ2.out.step (ls := [0, 1, 2]) (by intro d hd; simp at hd; omega) (fun d hd => hd) ⟨2, by simp, HD2.out⟩ (by decide) (b := xk) (by rw [HHL.out]; omega) HH.out.2 HN.out (pt := pt) (by rw [HHL.out]; exact HPT.out) (L := [0, 1, 2]) rfl
            obtain ⟨T5, N5, e5, hq5, hn5, _⟩ := hstep.1 (by omega)
            have HU := Lib.hid (HQ2.out.q.useN (by decide) 100 (by omega))
            have HKD := Lib.hid ((Kept.refl u2).drew)
            have hc := meta_Append (HB2.out.kept HKD.out).1 (HL2.out.kept HKD.out) (by simp) (by simp) HP.out.1 HP.out.2 (.slice ax kk ck) xk (by rw [HHL.out]; have := HH.out.1.kept (HB2.out.kept HKD.out).1.keeps; rw [HHL.out] at this; exact this) (by rw [HHL.out]; omega) HH.out.2 (by decide) (HU.out.less (by rw [HHL.out, HPT.out]; show 3 * pt ≤ 100; omega)) ⟨by show (0 : Int) ≤ 2; decide, by show (2 : Int) < 4294967296; decide⟩ (by show k < 1000; omega) (by show pn ≤ 48; omega)
            rw [e5] at hc
            have HCA := Lib.hid hc
            have HQ5 := Lib.hid hq5
            have HN5 := Lib.hid hn5
            have hgd := (HB2.out.kept HKD.out).1.keeps.cell' HG.out
            clear hc e5 hq5 hn5 hstep
            go_upto_region 17 with fail
            have hS := hgd
            refine wp_region_calm ?_
            refine wp_region_E (fun (W : World) => W.cell? ⟨b, off + k, none⟩ = some (Value.slice ax nk ck)) 100 (by kernel_rfl) ?_
            refine wpAnyE_take (i := 0) (v := ?_) (listed' := #[true, false, false, false, false, false, false, false, false, false, false, false, false, false]) (by rfl) (by kernel_rfl) (by kernel_rfl) calm_put hS (by rfl) ?_ ?_
            rotate_left
            · intro W hW; clear hW; go_simp; try (with_reducible rfl)
            simp only [Act.put, List.getElem_toArray, List.getElem_cons_succ, List.getElem_cons_zero, List.setIfInBounds_toArray, List.set_cons_zero, List.set_cons_succ]
            refine wpAnyE_take (i := 1) (v := ?_) (listed' := #[true, true, false, false, false, false, false, false, false, false, false, false, false, false]) (by rfl) (by kernel_rfl) (by kernel_rfl) calm_put hS (by rfl) ?_ ?_
            rotate_left
            · intro W hW; clear hW; go_simp; try (with_reducible rfl)
            simp only [Act.put, List.getElem_toArray, List.getElem_cons_succ, List.getElem_cons_zero, List.setIfInBounds_toArray, List.set_cons_zero, List.set_cons_succ]
            refine wpAnyE_take (i := 2) (v := ?_) (listed' := #[true, true, true, false, false, false, false, false, false, false, false, false, false, false]) (by rfl) (by kernel_rfl) (by kernel_rfl) calm_put hS (by rfl) ?_ ?_
            rotate_left
            · intro W hW; clear hW; go_simp; try (with_reducible rfl)
            simp only [Act.put, List.getElem_toArray, List.getElem_cons_succ, List.getElem_cons_zero, List.setIfInBounds_toArray, List.set_cons_zero, List.set_cons_succ]
            refine wpAnyE_take (i := 3) (v := ?_) (listed' := #[true, true, true, true, false, false, false, false, false, false, false, false, false, false]) (by rfl) (by kernel_rfl) (by kernel_rfl) calm_put hS (by rfl) ?_ ?_
            rotate_left
            · intro W hW; clear hW; go_simp; try (with_reducible rfl)
            simp only [Act.put, List.getElem_toArray, List.getElem_cons_succ, List.getElem_cons_zero, List.setIfInBounds_toArray, List.set_cons_zero, List.set_cons_succ]
            refine wpAnyE_take (i := 4) (v := ?_) (listed' := #[true, true, true, true, true, false, false, false, false, false, false, false, false, false]) (by rfl) (by kernel_rfl) (by kernel_rfl) calm_put hS (by rfl) ?_ ?_
            rotate_left
            · intro W hW; have hc0 := hW; clear hW; go_simp; try (with_reducible rfl)
            simp only [Act.put, List.getElem_toArray, List.getElem_cons_succ, List.getElem_cons_zero, List.setIfInBounds_toArray, List.set_cons_zero, List.set_cons_succ]
            refine wpAnyE_take (i := 5) (v := ?_) (listed' := #[true, true, true, true, true, true, false, false, false, false, false, false, false, false]) (by rfl) (by kernel_rfl) (by kernel_rfl) calm_put hS (by rfl) ?_ ?_
            rotate_left
            · intro W hW; clear hW; go_simp; try (with_reducible rfl)
            simp only [Act.put, List.getElem_toArray, List.getElem_cons_succ, List.getElem_cons_zero, List.setIfInBounds_toArray, List.set_cons_zero, List.set_cons_succ]
            refine wpAnyE_take (i := 6) (v := ?_) (listed' := #[true, true, true, true, true, true, true, false, false, false, false, false, false, false]) (by rfl) (by kernel_rfl) (by kernel_rfl) calm_put hS (by rfl) ?_ ?_
            rotate_left
            · intro W hW; clear hW; go_simp; try (with_reducible rfl)
            simp only [Act.put, List.getElem_toArray, List.getElem_cons_succ, List.getElem_cons_zero, List.setIfInBounds_toArray, List.set_cons_zero, List.set_cons_succ]
            refine wpAnyE_take (i := 7) (v := ?_) (listed' := #[true, true, true, true, true, true, true, true, false, false, false, false, false, false]) (by rfl) (by kernel_rfl) (by kernel_rfl) calm_put hS (by rfl) ?_ ?_
            rotate_left
            · intro W hW; clear hW; go_simp; try (with_reducible rfl)
            simp only [Act.put, List.getElem_toArray, List.getElem_cons_succ, List.getElem_cons_zero, List.setIfInBounds_toArray, List.set_cons_zero, List.set_cons_succ]
            refine wpAnyE_take (i := 8) (v := ?_) (listed' := #[true, true, true, true, true, true, true, true, true, false, false, false, false, false]) (by rfl) (by kernel_rfl) (by kernel_rfl) calm_put hS (by rfl) ?_ ?_
            rotate_left
            · intro W hW; have hc0 := hW; clear hW; go_simp; try (with_reducible rfl)
            simp only [Act.put, List.getElem_toArray, List.getElem_cons_succ, List.getElem_cons_zero, List.setIfInBounds_toArray, List.set_cons_zero, List.set_cons_succ]
            refine wpAnyE_take (i := 9) (v := ?_) (listed' := #[true, true, true, true, true, true, true, true, true, true, false, false, false, false]) (by rfl) (by kernel_rfl) (by kernel_rfl) calm_put hS (by rfl) ?_ ?_
            rotate_left
            · intro W hW; clear hW; go_simp; try (with_reducible rfl)
            simp only [Act.put, List.getElem_toArray, List.getElem_cons_succ, List.getElem_cons_zero, List.setIfInBounds_toArray, List.set_cons_zero, List.set_cons_succ]
            refine wpAnyE_take (i := 10) (v := .int .i64 (kk : Int)) (listed' := #[true, true, true, true, true, true, true, true, true, true, true, false, false, false]) (by rfl) (by kernel_rfl) (by kernel_rfl) calm_put hS (by rfl) ?_ ?_
            · intro W hW; clear hW; go_simp; try (with_reducible rfl)
            simp only [Act.put, List.getElem_toArray, List.getElem_cons_succ, List.getElem_cons_zero, List.setIfInBounds_toArray, List.set_cons_zero, List.set_cons_succ]
            refine wpAnyE_take (i := 11) (v := .slice ax kk ck) (listed' := #[true, true, true, true, true, true, true, true, true, true, true, true, false, false]) (by rfl) (by kernel_rfl) (by kernel_rfl) calm_put hS (by rfl) ?_ ?_
            · intro W hW; exact exec_slice_to _ _ rfl ax nk ck rfl kk rfl hkc
            simp only [Act.put, List.getElem_toArray, List.getElem_cons_succ, List.getElem_cons_zero, List.setIfInBounds_toArray, List.set_cons_zero, List.set_cons_succ]
            refine wpAnyE_one (i := 12) (listed' := #[true, true, true, true, true, true, true, true, true, true, true, true, true, false]) (by rfl) (by kernel_rfl) (by kernel_rfl) (by rfl) (fun K hK => ?_)
            simp only [Act.put, List.getElem_toArray, List.getElem_cons_succ, List.getElem_cons_zero, List.setIfInBounds_toArray, List.set_cons_zero, List.set_cons_succ]
            go_wp2_with fail
            refine Calls.mono HCA.out ?_
            rintro e w7 ⟨rfl, hb7, hl7, hs7⟩
            have HB7 : Hid (BK w (fun k => k ∈ [p, lg, B]) w7 q T5) := Lib.hid hb7
            have HL7 : Hid (LogD w7 p q lg cap [0, 1, 2] ⟨2, k + 1, pn + pt, false⟩) := Lib.hid hl7
            have HC7 := Lib.hid (hs7.cells (B := B) ⟨by simp, HBP.out⟩ (HC2.out.kept HKD.out))
            have hS := HB7.out.keeps.cell' HG.out
            clear hb7 hl7 hs7 HCA
            refine hK _ _ (fun _ => hS) ?_; clear hK K
            refine wpAnyE_take (i := 13) (v := ?_) (listed' := #[true, true, true, true, true, true, true, true, true, true, true, true, true, true]) (by rfl) (by kernel_rfl) (by kernel_rfl) calm_put hS (by rfl) ?_ ?_
            rotate_left
            · intro W hW; clear hW; go_simp; try (with_reducible rfl)
            simp only [Act.put, List.getElem_toArray, List.getElem_cons_succ, List.getElem_cons_zero, List.setIfInBounds_toArray, List.set_cons_zero, List.set_cons_succ]
            refine wpAnyE_done (by kernel_rfl) ?_ _
            refine calm_normal ?_
            clear hS hgd HB2 HL2 HC2 HKD HU HG
            go_wp2
            go_roundw
            case rel => exact ⟨k + 1, _, T5, _, N5, t + 147, pn + pt, hlt, h8, by go_num, by go_num, by omega, by omega, HD2, HN5, HQ5, HB7, HL7, HC7⟩
            case measure => simp [intOf]; omega
          · skip
            have ta : ((k : Int) == (ga : Int)) = true := by simp; omega
            have tc : ((k : Int) == (gc : Int)) = false := by simp; omega
            clear hka hkc2
            obtain ⟨T1, e1, he1, hq1⟩ := HQ.out.fails 0
            have HQ1 := Lib.hid hq1
            have HD1 : Hid ((fun c => (dd) c || decide (c = 0)) 2 = false) := Lib.hid (by have := HD.out; simpa using this)
            have hc := bk_Fail HB.out (HQ.out.q.use (by decide) (by omega)) ((0 : Nat) : Int)
            rw [he1] at hc
            have HCA := Lib.hid hc
            clear hc he1 hq1
            go_wp2_with fail
            refine Calls.mono HCA.out ?_
            rintro e u1 ⟨rfl, hb, hs⟩
            have HB1 : Hid (BK w (fun k => k ∈ [p, lg, B]) u1 q T1) := Lib.hid hb
            have HL1 := Lib.hid (HL.out.same hs (by simp) (by simp))
            have HC1 := Lib.hid (hs.cells (B := B) (by simp) HC.out)
            clear hb hs HCA HB HL HC HQ HD
            have hstep := HQ1.out.step (ls := [0, 1, 2]) (by intro d hd; simp at hd; omega) (fun d hd => hd) ⟨2, by simp, HD1.out⟩ (by decide) (b := xk) (by rw [HHL.out]; omega) HH.out.2 HN.out (pt := pt) (by rw [HHL.out]; exact HPT.out) (L := [0, 1, 2]) rfl
            obtain ⟨T5, N5, e5, hq5, hn5, _⟩ := hstep.1 (by omega)
            have HU := Lib.hid (HQ1.out.q.useN (by decide) 100 (by omega))
            have HKD := Lib.hid ((Kept.refl u1).drew)
            have hc := meta_Append (HB1.out.kept HKD.out).1 (HL1.out.kept HKD.out) (by simp) (by simp) HP.out.1 HP.out.2 (.slice ax kk ck) xk (by rw [HHL.out]; have := HH.out.1.kept (HB1.out.kept HKD.out).1.keeps; rw [HHL.out] at this; exact this) (by rw [HHL.out]; omega) HH.out.2 (by decide) (HU.out.less (by rw [HHL.out, HPT.out]; show 3 * pt ≤ 100; omega)) ⟨by show (0 : Int) ≤ 2; decide, by show (2 : Int) < 4294967296; decide⟩ (by show k < 1000; omega) (by show pn ≤ 48; omega)
            rw [e5] at hc
            have HCA := Lib.hid hc
            have HQ5 := Lib.hid hq5
            have HN5 := Lib.hid hn5
            have hgd := (HB1.out.kept HKD.out).1.keeps.cell' HG.out
            clear hc e5 hq5 hn5 hstep
            go_upto_region 17 with fail
            have hS := hgd
            refine wp_region_calm ?_
            refine wp_region_E (fun (W : World) => W.cell? ⟨b, off + k, none⟩ = some (Value.slice ax nk ck)) 100 (by kernel_rfl) ?_
            refine wpAnyE_take (i := 0) (v := ?_) (listed' := #[true, false, false, false, false, false, false, false, false, false, false, false, false, false]) (by rfl) (by kernel_rfl) (by kernel_rfl) calm_put hS (by rfl) ?_ ?_
            rotate_left
            · intro W hW; clear hW; go_simp; try (with_reducible rfl)
            simp only [Act.put, List.getElem_toArray, List.getElem_cons_succ, List.getElem_cons_zero, List.setIfInBounds_toArray, List.set_cons_zero, List.set_cons_succ]
            refine wpAnyE_take (i := 1) (v := ?_) (listed' := #[true, true, false, false, false, false, false, false, false, false, false, false, false, false]) (by rfl) (by kernel_rfl) (by kernel_rfl) calm_put hS (by rfl) ?_ ?_
            rotate_left
            · intro W hW; clear hW; go_simp; try (with_reducible rfl)
            simp only [Act.put, List.getElem_toArray, List.getElem_cons_succ, List.getElem_cons_zero, List.setIfInBounds_toArray, List.set_cons_zero, List.set_cons_succ]
            refine wpAnyE_take (i := 2) (v := ?_) (listed' := #[true, true, true, false, false, false, false, false, false, false, false, false, false, false]) (by rfl) (by kernel_rfl) (by kernel_rfl) calm_put hS (by rfl) ?_ ?_
            rotate_left
            · intro W hW; clear hW; go_simp; try (with_reducible rfl)
            simp only [Act.put, List.getElem_toArray, List.getElem_cons_succ, List.getElem_cons_zero, List.setIfInBounds_toArray, List.set_cons_zero, List.set_cons_succ]
            refine wpAnyE_take (i := 3) (v := ?_) (listed' := #[true, true, true, true, false, false, false, false, false, false, false, false, false, false]) (by rfl) (by kernel_rfl) (by kernel_rfl) calm_put hS (by rfl) ?_ ?_
            rotate_left
            · intro W hW; clear hW; go_simp; try (with_reducible rfl)
            simp only [Act.put, List.getElem_toArray, List.getElem_cons_succ, List.getElem_cons_zero, List.setIfInBounds_toArray, List.set_cons_zero, List.set_cons_succ]
            refine wpAnyE_take (i := 4) (v := ?_) (listed' := #[true, true, true, true, true, false, false, false, false, false, false, false, false, false]) (by rfl) (by kernel_rfl) (by kernel_rfl) calm_put hS (by rfl) ?_ ?_
            rotate_left
            · intro W hW; have hc0 := hW; clear hW; go_simp; try (with_reducible rfl)
            simp only [Act.put, List.getElem_toArray, List.getElem_cons_succ, List.getElem_cons_zero, List.setIfInBounds_toArray, List.set_cons_zero, List.set_cons_succ]
            refine wpAnyE_take (i := 5) (v := ?_) (listed' := #[true, true, true, true, true, true, false, false, false, false, false, false, false, false]) (by rfl) (by kernel_rfl) (by kernel_rfl) calm_put hS (by rfl) ?_ ?_
            rotate_left
            · intro W hW; clear hW; go_simp; try (with_reducible rfl)
            simp only [Act.put, List.getElem_toArray, List.getElem_cons_succ, List.getElem_cons_zero, List.setIfInBounds_toArray, List.set_cons_zero, List.set_cons_succ]
            refine wpAnyE_take (i := 6) (v := ?_) (listed' := #[true, true, true, true, true, true, true, false, false, false, false, false, false, false]) (by rfl) (by kernel_rfl) (by kernel_rfl) calm_put hS (by rfl) ?_ ?_
            rotate_left
            · intro W hW; clear hW; go_simp; try (with_reducible rfl)
            simp only [Act.put, List.getElem_toArray, List.getElem_cons_succ, List.getElem_cons_zero, List.setIfInBounds_toArray, List.set_cons_zero, List.set_cons_succ]
            refine wpAnyE_take (i := 7) (v := ?_) (listed' := #[true, true, true, true, true, true, true, true, false, false, false, false, false, false]) (by rfl) (by kernel_rfl) (by kernel_rfl) calm_put hS (by rfl) ?_ ?_
            rotate_left
            · intro W hW; clear hW; go_simp; try (with_reducible rfl)
            simp only [Act.put, List.getElem_toArray, List.getElem_cons_succ, List.getElem_cons_zero, List.setIfInBounds_toArray, List.set_cons_zero, List.set_cons_succ]
            refine wpAnyE_take (i := 8) (v := ?_) (listed' := #[true, true, true, true, true, true, true, true, true, false, false, false, false, false]) (by rfl) (by kernel_rfl) (by kernel_rfl) calm_put hS (by rfl) ?_ ?_
            rotate_left
            · intro W hW; have hc0 := hW; clear hW; go_simp; try (with_reducible rfl)
            simp only [Act.put, List.getElem_toArray, List.getElem_cons_succ, List.getElem_cons_zero, List.setIfInBounds_toArray, List.set_cons_zero, List.set_cons_succ]
            refine wpAnyE_take (i := 9) (v := ?_) (listed' := #[true, true, true, true, true, true, true, true, true, true, false, false, false, false]) (by rfl) (by kernel_rfl) (by kernel_rfl) calm_put hS (by rfl) ?_ ?_
            rotate_left
            · intro W hW; clear hW; go_simp; try (with_reducible rfl)
            simp only [Act.put, List.getElem_toArray, List.getElem_cons_succ, List.getElem_cons_zero, List.setIfInBounds_toArray, List.set_cons_zero, List.set_cons_succ]
            refine wpAnyE_take (i := 10) (v := .int .i64 (kk : Int)) (listed' := #[true, true, true, true, true, true, true, true, true, true, true, false, false, false]) (by rfl) (by kernel_rfl) (by kernel_rfl) calm_put hS (by rfl) ?_ ?_
            · intro W hW; clear hW; go_simp; try (with_reducible rfl)
            simp only [Act.put, List.getElem_toArray, List.getElem_cons_succ, List.getElem_cons_zero, List.setIfInBounds_toArray, List.set_cons_zero, List.set_cons_succ]
            refine wpAnyE_take (i := 11) (v := .slice ax kk ck) (listed' := #[true, true, true, true, true, true, true, true, true, true, true, true, false, false]) (by rfl) (by kernel_rfl) (by kernel_rfl) calm_put hS (by rfl) ?_ ?_
            · intro W hW; exact exec_slice_to _ _ rfl ax nk ck rfl kk rfl hkc
            simp only [Act.put, List.getElem_toArray, List.getElem_cons_succ, List.getElem_cons_zero, List.setIfInBounds_toArray, List.set_cons_zero, List.set_cons_succ]
            refine wpAnyE_one (i := 12) (listed' := #[true, true, true, true, true, true, true, true, true, true, true, true, true, false]) (by rfl) (by kernel_rfl) (by kernel_rfl) (by rfl) (fun K hK => ?_)
            simp only [Act.put, List.getElem_toArray, List.getElem_cons_succ, List.getElem_cons_zero, List.setIfInBounds_toArray, List.set_cons_zero, List.set_cons_succ]
            go_wp2_with fail
            refine Calls.mono HCA.out ?_
            rintro e w7 ⟨rfl, hb7, hl7, hs7⟩
            have HB7 : Hid (BK w (fun k => k ∈ [p, lg, B]) w7 q T5) := Lib.hid hb7
            have HL7 : Hid (LogD w7 p q lg cap [0, 1, 2] ⟨2, k + 1, pn + pt, false⟩) := Lib.hid hl7
            have HC7 := Lib.hid (hs7.cells (B := B) ⟨by simp, HBP.out⟩ (HC1.out.kept HKD.out))
            have hS := HB7.out.keeps.cell' HG.out
            clear hb7 hl7 hs7 HCA
            refine hK _ _ (fun _ => hS) ?_; clear hK K
            refine wpAnyE_take (i := 13) (v := ?_) (listed' := #[true, true, true, true, true, true, true, true, true, true, true, true, true, true]) (by rfl) (by kernel_rfl) (by kernel_rfl) calm_put hS (by rfl) ?_ ?_
            rotate_left
            · intro W hW; clear hW; go_simp; try (with_reducible rfl)
            simp only [Act.put, List.getElem_toArray, List.getElem_cons_succ, List.getElem_cons_zero, List.setIfInBounds_toArray, List.set_cons_zero, List.set_cons_succ]
            refine wpAnyE_done (by kernel_rfl) ?_ _
            refine calm_normal ?_
            clear hS hgd HB1 HL1 HC1 HKD HU HG
            go_wp2
            go_roundw
            case rel => exact ⟨k + 1, _, T5, _, N5, t + 147, pn + pt, hlt, h8, by go_num, by go_num, by omega, by omega, HD1, HN5, HQ5, HB7, HL7, HC7⟩
            case measure => simp [intOf]; omega
        · by_cases hkc2 : k = gc
          · skip
            have ta : ((k : Int) == (ga : Int)) = false := by simp; omega
            have tc : ((k : Int) == (gc : Int)) = true := by simp; omega
            clear hka hkc2
            obtain ⟨T1, e1, he1, hq1⟩ := HQ.out.fails 1
            have HQ1 := Lib.hid hq1
            have HD1 : Hid ((fun c => (dd) c || decide (c = 1)) 2 = false) := Lib.hid (by have := HD.out; simpa using this)
            have hc := bk_Fail HB.out (HQ.out.q.use (by decide) (by omega)) ((1 : Nat) : Int)
            rw [he1] at hc
            have HCA := Lib.hid hc
            clear hc he1 hq1
            go_wp2_with fail
            refine Calls.mono HCA.out ?_
            rintro e u1 ⟨rfl, hb, hs⟩
            have HB1 : Hid (BK w (fun k => k ∈ [p, lg, B]) u1 q T1) := Lib.hid hb
            have HL1 := Lib.hid (HL.out.same hs (by simp) (by simp))
            have HC1 := Lib.hid (hs.cells (B := B) (by simp) HC.out)
            clear hb hs HCA HB HL HC HQ HD
            have hstep := HQ1.out.step (ls := [0, 1, 2]) (by intro d hd; simp at hd; omega) (fun d hd => hd) ⟨2, by simp, HD1.out⟩ (by decide) (b := xk) (by rw [HHL.out]; omega) HH.out.2 HN.out (pt := pt) (by rw [HHL.out]; exact HPT.out) (L := [0, 1, 2]) rfl
            obtain ⟨T5, N5, e5, hq5, hn5, _⟩ := hstep.1 (by omega)
            have HU := Lib.hid (HQ1.out.q.useN (by decide) 100 (by omega))
            have HKD := Lib.hid ((Kept.refl u1).drew)
            have hc := meta_Append (HB1.out.kept HKD.out).1 (HL1.out.kept HKD.out) (by simp) (by simp) HP.out.1 HP.out.2 (.slice ax kk ck) xk (by rw [HHL.out]; have := HH.out.1.kept (HB1.out.kept HKD.out).1.keeps; rw [HHL.out] at this; exact this) (by rw [HHL.out]; omega) HH.out.2 (by decide) (HU.out.less (by rw [HHL.out, HPT.out]; show 3 * pt ≤ 100; omega)) ⟨by show (0 : Int) ≤ 2; decide, by show (2 : Int) < 4294967296; decide⟩ (by show k < 1000; omega) (by show pn ≤ 48; omega)
            rw [e5] at hc
            have HCA := Lib.hid hc
            have HQ5 := Lib.hid hq5
            have HN5 := Lib.hid hn5
            have hgd := (HB1.out.kept HKD.out).1.keeps.cell' HG.out
            clear hc e5 hq5 hn5 hstep
            go_upto_region 17 with fail
            have hS := hgd
            refine wp_region_calm ?_
            refine wp_region_E (fun (W : World) => W.cell? ⟨b, off + k, none⟩ = some (Value.slice ax nk ck)) 100 (by kernel_rfl) ?_
            refine wpAnyE_take (i := 0) (v := ?_) (listed' := #[true, false, false, false, false, false, false, false, false, false, false, false, false, false]) (by rfl) (by kernel_rfl) (by kernel_rfl) calm_put hS (by rfl) ?_ ?_
            rotate_left
            · intro W hW; clear hW; go_simp; try (with_reducible rfl)
            simp only [Act.put, List.getElem_toArray, List.getElem_cons_succ, List.getElem_cons_zero, List.setIfInBounds_toArray, List.set_cons_zero, List.set_cons_succ]
            refine wpAnyE_take (i := 1) (v := ?_) (listed' := #[true, true, false, false, false, false, false, false, false, false, false, false, false, false]) (by rfl) (by kernel_rfl) (by kernel_rfl) calm_put hS (by rfl) ?_ ?_
            rotate_left
            · intro W hW; clear hW; go_simp; try (with_reducible rfl)
            simp only [Act.put, List.getElem_toArray, List.getElem_cons_succ, List.getElem_cons_zero, List.setIfInBounds_toArray, List.set_cons_zero, List.set_cons_succ]
            refine wpAnyE_take (i := 2) (v := ?_) (listed' := #[true, true, true, false, false, false, false, false, false, false, false, false, false, false]) (by rfl) (by kernel_rfl) (by kernel_rfl) calm_put hS (by rfl) ?_ ?_
            rotate_left
            · intro W hW; clear hW; go_simp; try (with_reducible rfl)
            simp only [Act.put, List.getElem_toArray, List.getElem_cons_succ, List.getElem_cons_zero, List.setIfInBounds_toArray, List.set_cons_zero, List.set_cons_succ]
            refine wpAnyE_take (i := 3) (v := ?_) (listed' := #[true, true, true, true, false, false, false, false, false, false, false, false, false, false]) (by rfl) (by kernel_rfl) (by kernel_rfl) calm_put hS (by rfl) ?_ ?_
            rotate_left
            · intro W hW; clear hW; go_simp; try (with_reducible rfl)
            simp only [Act.put, List.getElem_toArray, List.getElem_cons_succ, List.getElem_cons_zero, List.setIfInBounds_toArray, List.set_cons_zero, List.set_cons_succ]
            refine wpAnyE_take (i := 4) (v := ?_) (listed' := #[true, true, true, true, true, false, false, false, false, false, false, false, false, false]) (by rfl) (by kernel_rfl) (by kernel_rfl) calm_put hS (by rfl) ?_ ?_
            rotate_left
            · intro W hW; have hc0 := hW; clear hW; go_simp; try (with_reducible rfl)
            simp only [Act.put, List.getElem_toArray, List.getElem_cons_succ, List.getElem_cons_zero, List.setIfInBounds_toArray, List.set_cons_zero, List.set_cons_succ]
            refine wpAnyE_take (i := 5) (v := ?_) (listed' := #[true, true, true, true, true, true, false, false, false, false, false, false, false, false]) (by rfl) (by kernel_rfl) (by kernel_rfl) calm_put hS (by rfl) ?_ ?_
            rotate_left
            · intro W hW; clear hW; go_simp; try (with_reducible rfl)
            simp only [Act.put, List.getElem_toArray, List.getElem_cons_succ, List.getElem_cons_zero, List.setIfInBounds_toArray, List.set_cons_zero, List.set_cons_succ]
            refine wpAnyE_take (i := 6) (v := ?_) (listed' := #[true, true, true, true, true, true, true, false, false, false, false, false, false, false]) (by rfl) (by kernel_rfl) (by kernel_rfl) calm_put hS (by rfl) ?_ ?_
            rotate_left
            · intro W hW; clear hW; go_simp; try (with_reducible rfl)
            simp only [Act.put, List.getElem_toArray, List.getElem_cons_succ, List.getElem_cons_zero, List.setIfInBounds_toArray, List.set_cons_zero, List.set_cons_succ]
            refine wpAnyE_take (i := 7) (v := ?_) (listed' := #[true, true, true, true, true, true, true, true, false, false, false, false, false, false]) (by rfl) (by kernel_rfl) (by kernel_rfl) calm_put hS (by rfl) ?_ ?_
            rotate_left
            · intro W hW; clear hW; go_simp; try (with_reducible rfl)
            simp only [Act.put, List.getElem_toArray, List.getElem_cons_succ, List.getElem_cons_zero, List.setIfInBounds_toArray, List.set_cons_zero, List.set_cons_succ]
            refine wpAnyE_take (i := 8) (v := ?_) (listed' := #[true, true, true, true, true, true, true, true, true, false, false, false, false, false]) (by rfl) (by kernel_rfl) (by kernel_rfl) calm_put hS (by rfl) ?_ ?_
            rotate_left
            · intro W hW; have hc0 := hW; clear hW; go_simp; try (with_reducible rfl)
            simp only [Act.put, List.getElem_toArray, List.getElem_cons_succ, List.getElem_cons_zero, List.setIfInBounds_toArray, List.set_cons_zero, List.set_cons_succ]
            refine wpAnyE_take (i := 9) (v := ?_) (listed' := #[true, true, true, true, true, true, true, true, true, true, false, false, false, false]) (by rfl) (by kernel_rfl) (by kernel_rfl) calm_put hS (by rfl) ?_ ?_
            rotate_left
            · intro W hW; clear hW; go_simp; try (with_reducible rfl)
            simp only [Act.put, List.getElem_toArray, List.getElem_cons_succ, List.getElem_cons_zero, List.setIfInBounds_toArray, List.set_cons_zero, List.set_cons_succ]
            refine wpAnyE_take (i := 10) (v := .int .i64 (kk : Int)) (listed' := #[true, true, true, true, true, true, true, true, true, true, true, false, false, false]) (by rfl) (by kernel_rfl) (by kernel_rfl) calm_put hS (by rfl) ?_ ?_
            · intro W hW; clear hW; go_simp; try (with_reducible rfl)
            simp only [Act.put, List.getElem_toArray, List.getElem_cons_succ, List.getElem_cons_zero, List.setIfInBounds_toArray, List.set_cons_zero, List.set_cons_succ]
            refine wpAnyE_take (i := 11) (v := .slice ax kk ck) (listed' := #[true, true, true, true, true, true, true, true, true, true, true, true, false, false]) (by rfl) (by kernel_rfl) (by kernel_rfl) calm_put hS (by rfl) ?_ ?_
            · intro W hW; exact exec_slice_to _ _ rfl ax nk ck rfl kk rfl hkc
            simp only [Act.put, List.getElem_toArray, List.getElem_cons_succ, List.getElem_cons_zero, List.setIfInBounds_toArray, List.set_cons_zero, List.set_cons_succ]
            refine wpAnyE_one (i := 12) (listed' := #[true, true, true, true, true, true, true, true, true, true, true, true, true, false]) (by rfl) (by kernel_rfl) (by kernel_rfl) (by rfl) (fun K hK => ?_)
            simp only [Act.put, List.getElem_toArray, List.getElem_cons_succ, List.getElem_cons_zero, List.setIfInBounds_toArray, List.set_cons_zero, List.set_cons_succ]
            go_wp2_with fail
            refine Calls.mono HCA.out ?_
            rintro e w7 ⟨rfl, hb7, hl7, hs7⟩
            have HB7 : Hid (BK w (fun k => k ∈ [p, lg, B]) w7 q T5) := Lib.hid hb7
            have HL7 : Hid (LogD w7 p q lg cap [0, 1, 2] ⟨2, k + 1, pn + pt, false⟩) := Lib.hid hl7
            have HC7 := Lib.hid (hs7.cells (B := B) ⟨by simp, HBP.out⟩ (HC1.out.kept HKD.out))
            have hS := HB7.out.keeps.cell' HG.out
            clear hb7 hl7 hs7 HCA
            refine hK _ _ (fun _ => hS) ?_; clear hK K
            refine wpAnyE_take (i := 13) (v := ?_) (listed' := #[true, true, true, true, true, true, true, true, true, true, true, true, true, true]) (by rfl) (by kernel_rfl) (by kernel_rfl) calm_put hS (by rfl) ?_ ?_
            rotate_left
            · intro W hW; clear hW; go_simp; try (with_reducible rfl)
            simp only [Act.put, List.getElem_toArray, List.getElem_cons_succ, List.getElem_cons_zero, List.setIfInBounds_toArray, List.set_cons_zero, List.set_cons_succ]
            refine wpAnyE_done (by kernel_rfl) ?_ _
            refine calm_normal ?_
            clear hS hgd HB1 HL1 HC1 HKD HU HG
            go_wp2
            go_roundw
            case rel => exact ⟨k + 1, _, T5, _, N5, t + 147, pn + pt, hlt, h8, by go_num, by go_num, by omega, by omega, HD1, HN5, HQ5, HB7, HL7, HC7⟩
            case measure => simp [intOf]; omega
          · skip
            have ta : ((k : Int) == (ga : Int)) = false := by simp; omega
            have tc : ((k : Int) == (gc : Int)) = false := by simp; omega
            clear hka hkc2
            have hstep := HQ.out.step (ls := [0, 1, 2]) (by intro d hd; simp at hd; omega) (fun d hd => hd) ⟨2, by simp, HD.out⟩ (by decide) (b := xk) (by rw [HHL.out]; omega) HH.out.2 HN.out (pt := pt) (by rw [HHL.out]; exact HPT.out) (L := [0, 1, 2]) rfl
            obtain ⟨T5, N5, e5, hq5, hn5, _⟩ := hstep.1 (by omega)
            have HU := Lib.hid (HQ.out.q.useN (by decide) 100 (by omega))
            have HKD := Lib.hid ((Kept.refl wr).drew)
            have hc := meta_Append (HB.out.kept HKD.out).1 (HL.out.kept HKD.out) (by simp) (by simp) HP.out.1 HP.out.2 (.slice ax kk ck) xk (by rw [HHL.out]; have := HH.out.1.kept (HB.out.kept HKD.out).1.keeps; rw [HHL.out] at this; exact this) (by rw [HHL.out]; omega) HH.out.2 (by decide) (HU.out.less (by rw [HHL.out, HPT.out]; show 3 * pt ≤ 100; omega)) ⟨by show (0 : Int) ≤ 2; decide, by show (2 : Int) < 4294967296; decide⟩ (by show k < 1000; omega) (by show pn ≤ 48; omega)
            rw [e5] at hc
            have HCA := Lib.hid hc
            have HQ5 := Lib.hid hq5
            have HN5 := Lib.hid hn5
            have hgd := (HB.out.kept HKD.out).1.keeps.cell' HG.out
            clear hc e5 hq5 hn5 hstep
            go_upto_region 17 with fail
            have hS := hgd
            refine wp_region_calm ?_
            refine wp_region_E (fun (W : World) => W.cell? ⟨b, off + k, none⟩ = some (Value.slice ax nk ck)) 100 (by kernel_rfl) ?_
            refine wpAnyE_take (i := 0) (v := ?_) (listed' := #[true, false, false, false, false, false, false, false, false, false, false, false, false, false]) (by rfl) (by kernel_rfl) (by kernel_rfl) calm_put hS (by rfl) ?_ ?_
            rotate_left
            · intro W hW; clear hW; go_simp; try (with_reducible rfl)
            simp only [Act.put, List.getElem_toArray, List.getElem_cons_succ, List.getElem_cons_zero, List.setIfInBounds_toArray, List.set_cons_zero, List.set_cons_succ]
            refine wpAnyE_take (i := 1) (v := ?_) (listed' := #[true, true, false, false, false, false, false, false, false, false, false, false, false, false]) (by rfl) (by kernel_rfl) (by kernel_rfl) calm_put hS (by rfl) ?_ ?_
            rotate_left
            · intro W hW; clear hW; go_simp; try (with_reducible rfl)
            simp only [Act.put, List.getElem_toArray, List.getElem_cons_succ, List.getElem_cons_zero, List.setIfInBounds_toArray, List.set_cons_zero, List.set_cons_succ]
            refine wpAnyE_take (i := 2) (v := ?_) (listed' := #[true, true, true, false, false, false, false, false, false, false, false, false, false, false]) (by rfl) (by kernel_rfl) (by kernel_rfl) calm_put hS (by rfl) ?_ ?_
            rotate_left
            · intro W hW; clear hW; go_simp; try (with_reducible rfl)
            simp only [Act.put, List.getElem_toArray, List.getElem_cons_succ, List.getElem_cons_zero, List.setIfInBounds_toArray, List.set_cons_zero, List.set_cons_succ]
            refine wpAnyE_take (i := 3) (v := ?_) (listed' := #[true, true, true, true, false, false, false, false, false, false, false, false, false, false]) (by rfl) (by kernel_rfl) (by kernel_rfl) calm_put hS (by rfl) ?_ ?_
            rotate_left
            · intro W hW; clear hW; go_simp; try (with_reducible rfl)
            simp only [Act.put, List.getElem_toArray, List.getElem_cons_succ, List.getElem_cons_zero, List.setIfInBounds_toArray, List.set_cons_zero, List.set_cons_succ]
            refine wpAnyE_take (i := 4) (v := ?_) (listed' := #[true, true, true, true, true, false, false, false, false, false, false, false, false, false]) (by rfl) (by kernel_rfl) (by kernel_rfl) calm_put hS (by rfl) ?_ ?_
            rotate_left
            · intro W hW; have hc0 := hW; clear hW; go_simp; try (with_reducible rfl)
            simp only [Act.put, List.getElem_toArray, List.getElem_cons_succ, List.getElem_cons_zero, List.setIfInBounds_toArray, List.set_cons_zero, List.set_cons_succ]
            refine wpAnyE_take (i := 5) (v := ?_) (listed' := #[true, true, true, true, true, true, false, false, false, false, false, false, false, false]) (by rfl) (by kernel_rfl) (by kernel_rfl) calm_put hS (by rfl) ?_ ?_
            rotate_left
            · intro W hW; clear hW; go_simp; try (with_reducible rfl)
            simp only [Act.put, List.getElem_toArray, List.getElem_cons_succ, List.getElem_cons_zero, List.setIfInBounds_toArray, List.set_cons_zero, List.set_cons_succ]
            refine wpAnyE_take (i := 6) (v := ?_) (listed' := #[true, true, true, true, true, true, true, false, false, false, false, false, false, false]) (by rfl) (by kernel_rfl) (by kernel_rfl) calm_put hS (by rfl) ?_ ?_
            rotate_left
            · intro W hW; clear hW; go_simp; try (with_reducible rfl)
            simp only [Act.put, List.getElem_toArray, List.getElem_cons_succ, List.getElem_cons_zero, List.setIfInBounds_toArray, List.set_cons_zero, List.set_cons_succ]
            refine wpAnyE_take (i := 7) (v := ?_) (listed' := #[true, true, true, true, true, true, true, true, false, false, false, false, false, false]) (by rfl) (by kernel_rfl) (by kernel_rfl) calm_put hS (by rfl) ?_ ?_
            rotate_left
            · intro W hW; clear hW; go_simp; try (with_reducible rfl)
            simp only [Act.put, List.getElem_toArray, List.getElem_cons_succ, List.getElem_cons_zero, List.setIfInBounds_toArray, List.set_cons_zero, List.set_cons_succ]
            refine wpAnyE_take (i := 8) (v := ?_) (listed' := #[true, true, true, true, true, true, true, true, true, false, false, false, false, false]) (by rfl) (by kernel_rfl) (by kernel_rfl) calm_put hS (by rfl) ?_ ?_
            rotate_left
            · intro W hW; have hc0 := hW; clear hW; go_simp; try (with_reducible rfl)
            simp only [Act.put, List.getElem_toArray, List.getElem_cons_succ, List.getElem_cons_zero, List.setIfInBounds_toArray, List.set_cons_zero, List.set_cons_succ]
            refine wpAnyE_take (i := 9) (v := ?_) (listed' := #[true, true, true, true, true, true, true, true, true, true, false, false, false, false]) (by rfl) (by kernel_rfl) (by kernel_rfl) calm_put hS (by rfl) ?_ ?_
            rotate_left
            · intro W hW; clear hW; go_simp; try (with_reducible rfl)
            simp only [Act.put, List.getElem_toArray, List.getElem_cons_succ, List.getElem_cons_zero, List.setIfInBounds_toArray, List.set_cons_zero, List.set_cons_succ]
            refine wpAnyE_take (i := 10) (v := .int .i64 (kk : Int)) (listed' := #[true, true, true, true, true, true, true, true, true, true, true, false, false, false]) (by rfl) (by kernel_rfl) (by kernel_rfl) calm_put hS (by rfl) ?_ ?_
            · intro W hW; clear hW; go_simp; try (with_reducible rfl)
            simp only [Act.put, List.getElem_toArray, List.getElem_cons_succ, List.getElem_cons_zero, List.setIfInBounds_toArray, List.set_cons_zero, List.set_cons_succ]
            refine wpAnyE_take (i := 11) (v := .slice ax kk ck) (listed' := #[true, true, true, true, true, true, true, true, true, true, true, true, false, false]) (by rfl) (by kernel_rfl) (by kernel_rfl) calm_put hS (by rfl) ?_ ?_
            · intro W hW; exact exec_slice_to _ _ rfl ax nk ck rfl kk rfl hkc
            simp only [Act.put, List.getElem_toArray, List.getElem_cons_succ, List.getElem_cons_zero, List.setIfInBounds_toArray, List.set_cons_zero, List.set_cons_succ]
            refine wpAnyE_one (i := 12) (listed' := #[true, true, true, true, true, true, true, true, true, true, true, true, true, false]) (by rfl) (by kernel_rfl) (by kernel_rfl) (by rfl) (fun K hK => ?_)
            simp only [Act.put, List.getElem_toArray, List.getElem_cons_succ, List.getElem_cons_zero, List.setIfInBounds_toArray, List.set_cons_zero, List.set_cons_succ]
            go_wp2_with fail
            refine Calls.mono HCA.out ?_
            rintro e w7 ⟨rfl, hb7, hl7, hs7⟩
            have HB7 : Hid (BK w (fun k => k ∈ [p, lg, B]) w7 q T5) := Lib.hid hb7
            have HL7 : Hid (LogD w7 p q lg cap [0, 1, 2] ⟨2, k + 1, pn + pt, false⟩) := Lib.hid hl7
            have HC7 := Lib.hid (hs7.cells (B := B) ⟨by simp, HBP.out⟩ (HC.out.kept HKD.out))
            have hS := HB7.out.keeps.cell' HG.out
            clear hb7 hl7 hs7 HCA
            refine hK _ _ (fun _ => hS) ?_; clear hK K
            refine wpAnyE_take (i := 13) (v := ?_) (listed' := #[true, true, true, true, true, true, true, true, true, true, true, true, true, true]) (by rfl) (by kernel_rfl) (by kernel_rfl) calm_put hS (by rfl) ?_ ?_
            rotate_left
            · intro W hW; clear hW; go_simp; try (with_reducible rfl)
            simp only [Act.put, List.getElem_toArray, List.getElem_cons_succ, List.getElem_cons_zero, List.setIfInBounds_toArray, List.set_cons_zero, List.set_cons_succ]
            refine wpAnyE_done (by kernel_rfl) ?_ _
            refine calm_normal ?_
            clear hS hgd HB HL HC HKD HU HG
            go_wp2
            go_roundw
            case rel => exact ⟨k + 1, _, T5, _, N5, t + 147, pn + pt, hlt, h8, by go_num, by go_num, by omega, by omega, HD, HN5, HQ5, HB7, HL7, HC7⟩
            case measure => simp [intOf]; omega
      · have hkk : L.length ≤ k ∨ (k < L.length ∧ 8 ≤ k) := by omega
        clear hlt
        rcases hkk with hkk | ⟨hkk, h8⟩
        all_goals
          go_wp2
          go_meet
          case rel => exact ⟨k, R, T, dd, N, t, pn, rfl, by omega, hk8, by omega, HD, HN, HQ, HB, HL, HC⟩
  case rest =>
    clear HQ4 HB4 HL4 HC4 HS
    obtain ⟨k, R, T, dd, N, t, pn, rfl, hpn, hk8, ht, HD, HN, HQ, HB, HL, HC⟩ := hcut
    have hsc := HQ.out.scan (ls := [0, 1, 2]) (by intro d hd; simp at hd; omega) (fun d hd => (List.mem_filter.1 hd).1) (fun h => by
      have : (2 : Nat) ∈ ([0, 1, 2] : List Nat).filter fun d => !dd d := List.mem_filter.2 ⟨by simp, by rw [HD.out]; rfl⟩
      rw [h] at this; cases this) (by decide)
    have e0 : natI [0, 1, 2] = [0, 1, 2] := rfl
    rw [e0] at hsc
    have hc := meta_Scan HB.out (HQ.out.q.use (by decide) (by omega)) B 3 [0, 1, 2] HC.out (HB.out.ltR (by simp)) (by decide) 2
    rw [hsc] at hc
    have HCA := Lib.hid hc
    clear hc hsc e0
    go_wp2_with fail
    refine Calls.mono HCA.out ?_
    rintro e w7 ⟨v1, rfl, hr7, hk7⟩
    have HB7 := Lib.hid (HB.out.kept hk7).1
    have HL7 := Lib.hid (HL.out.kept hk7)
    have HC7 := Lib.hid (HC.out.kept hk7)
    obtain ⟨ao, c2, rfl⟩ := hr7.slice
    clear hr7 hk7 HCA HC HB HL
    obtain ⟨h1, h2⟩ := HN.out
    rw [h1, h2]
    clear h1 h2
    go_wp2
    go_loopw [16] (fun i wr => ∃ (j : Nat) (T : BankT) (dd : Nat → Bool), j ≤ 3 ∧ i = .int .i64 j ∧ Hid (∀ c, c < j → dd c = true) ∧ Hid (LogQ T 3 dd N t [0, 1, 2] 2 R) ∧ Hid (BK w (fun k => k ∈ [p, lg, B]) wr q T) ∧ Hid (LogD wr p q lg cap [0, 1, 2] ⟨2, k, pn, false⟩) ∧ Hid (Cells wr B 0 (ints [0, 1, 2]))) (fun i _ => 3 - (intOf i).toNat)
    case atStart => exact ⟨0, T, dd, by decide, rfl, Lib.hid (fun c h => by cases h), HQ, HB7, HL7, HC7⟩
    case round =>
      clear HQ HB7 HL7 HC7 HD
      obtain ⟨j, T, dd, hj, rfl, HD, HQ, HB, HL, HC⟩ := hrel
      by_cases hlt : j < 3
      · obtain ⟨T1, e1, he1, hq1⟩ := HQ.out.fails j
        have HQ1 := Lib.hid hq1
        have HD1 : Hid (∀ c, c < j + 1 → (fun c => dd c || decide (c = j)) c = true) := Lib.hid (fun c hc => by
          by_cases e : c = j
          · simp [e]
          · have := HD.out c (by omega); simp [this])
        have hc := bk_Fail HB.out (HQ.out.q.use (by decide) (by omega)) (j : Int)
        rw [he1] at hc
        have HCA := Lib.hid hc
        clear hc he1 hq1
        go_wp2_with fail
        refine Calls.mono HCA.out ?_
        rintro e u1 ⟨rfl, hb, hs⟩
        have HB1 : Hid (BK w (fun k => k ∈ [p, lg, B]) u1 q T1) := Lib.hid hb
        have HL1 := Lib.hid (HL.out.same hs (by simp) (by simp))
        have HC1 := Lib.hid (hs.cells (B := B) (by simp) HC.out)
        clear hb hs HCA HB HL HC HQ HD
        go_wp2
        go_roundw
        case rel => exact ⟨j + 1, T1, _, hlt, by go_num, HD1, HQ1, HB1, HL1, HC1⟩
        case measure => simp [intOf]; omega
      · have hj3 : j = 3 := by omega
        have HALL : Hid (∀ d ∈ [0, 1, 2], dd d = true) := Lib.hid (fun d hd => HD.out d (by simp at hd; omega))
        have hge : 3 ≤ j := by omega
        clear hj3 HD
        obtain ⟨T1, N1, e1, hq1⟩ := HQ.out.q.app_dead (ls := [0, 1, 2]) (by decide) (by intro d hd; simp at hd; omega) HALL.out (b := [120]) (by intro y hy; simp at hy; subst hy; exact ⟨by decide, by decide⟩) (gen := 2) (num := k) (pos := pn) (by decide) (by show pn + 1 ≤ 48; omega)
        have e0 : natI [0, 1, 2] = [0, 1, 2] := rfl
        rw [e0] at e1
        have HE1 := Lib.hid e1
        have HQ1 := Lib.hid hq1
        have hb120 : ∀ y ∈ ([120] : List Int), IsByte y := by intro y hy; simp at hy; subst hy; exact ⟨by decide, by decide⟩
        have H120 := Lib.hid hb120
        clear e1 hq1 e0 hb120
        go_wp2_with (refine stop_at (o := ⟨some 97, _, _, _, _, _⟩) ?_)
        refine Stop.mk ?_
        refine wpList_str_bytes rfl rfl 1 (by decide) _ rfl _ rfl [120] (by kernel_rfl) rfl ?_
        intro w8 hz8 hs8 hk8
        have HX8 := hz8
        have HB8 := Lib.hid (HB.out.kept hk8).1
        have HL8 := Lib.hid (HL.out.kept hk8)
        have HC8 := Lib.hid (HC.out.kept hk8)
        generalize wr.heap.size = X8 at *
        clear hz8 hs8 hk8 HB HL HC
        have hc := meta_Append HB8.out HL8.out (by simp) (by simp) HP.out.1 HP.out.2 (.slice (some ⟨X8, 0, none⟩) 1 1) [120] (Src.of_cells (n := 1) (c := 1) HX8.out rfl (by decide)) (by decide) H120.out (by decide) (HQ.out.q.useN (by decide) _ (by show t + 3 * 1 < 1000000000; omega)) ⟨by show (0 : Int) ≤ 2; decide, by show (2 : Int) < 4294967296; decide⟩ (by show k < 1000; omega) (by show pn ≤ 48; omega)
        rw [HE1.out] at hc
        have HCA := Lib.hid hc
        clear hc HE1
        go_wp2_with fail
        refine Calls.mono HCA.out ?_
        rintro e w9 ⟨rfl, hb9, hl9, hs9⟩
        have HB9 : Hid (BK w (fun k => k ∈ [p, lg, B]) w9 q T1) := Lib.hid hb9
        have HL9 : Hid (LogD w9 p q lg cap [0, 1, 2] ⟨2, k, pn, true⟩) := Lib.hid hl9
        have HC9 := Lib.hid (hs9.cells (B := B) ⟨by simp, HBP.out⟩ HC8.out)
        clear hb9 hl9 hs9 HCA HB8 HL8 HC8 HX8
        go_wp2_with (refine stop_at (o := ⟨some 101, _, _, _, _, _⟩) ?_)
        refine Stop.mk ?_
        refine wpList_str_bytes rfl rfl 1 (by decide) _ rfl _ rfl [120] (by kernel_rfl) rfl ?_
        intro w10 hz10 hs10 hk10
        have HX10 := hz10
        have HB10 := Lib.hid (HB9.out.kept hk10).1
        have HL10 := Lib.hid (HL9.out.kept hk10)
        have HC10 := Lib.hid (HC9.out.kept hk10)
        generalize w9.heap.size = X10 at *
        clear hz10 hs10 hk10 HB9 HL9 HC9
        have hc := meta_Append HB10.out HL10.out (by simp) (by simp) HP.out.1 HP.out.2 (.slice (some ⟨X10, 0, none⟩) 1 1) [120] (Src.of_cells (n := 1) (c := 1) HX10.out rfl (by decide)) (by decide) H120.out (by decide) (HQ1.out.useN (by decide) _ (by show t + 3 * (1 + 1) + 3 * 1 < 1000000000; omega)) ⟨by show (0 : Int) ≤ 2; decide, by show (2 : Int) < 4294967296; decide⟩ (by show k < 1000; omega) (by show pn ≤ 48; omega)
        rw [LogT.app_off] at hc
        have HCA := Lib.hid hc
        clear hc
        go_wp2_with fail
        refine Calls.mono HCA.out ?_
        rintro e w11 ⟨rfl, hb11, hl11, hs11⟩
        have HB11 : Hid (BK w (fun k => k ∈ [p, lg, B]) w11 q T1) := Lib.hid hb11
        have HC11 := Lib.hid (hs11.cells (B := B) ⟨by simp, HBP.out⟩ HC10.out)
        clear hb11 hl11 hs11 HCA HB10 HL10 HC10 HX10
        have hsd := HQ1.out.scan_dead (ls := [0, 1, 2]) (gen := 2) (by decide) (by intro d hd; simp at hd; omega) HALL.out
        have e0 : natI [0, 1, 2] = [0, 1, 2] := rfl
        rw [e0] at hsd
        have hc := meta_Scan HB11.out (HQ1.out.use (by decide) (by show t + 3 * (1 + 1) < 1000000000; omega)) B 3 [0, 1, 2] HC11.out (HB11.out.ltR (by simp)) (by decide) 2
        rw [hsd] at hc
        have HCA := Lib.hid hc
        clear hc hsd e0
        go_wp2_with fail
        refine Calls.mono HCA.out ?_
        rintro e w12 ⟨v2, rfl, _, hk12⟩
        have HK12 := Lib.hid (HB11.out.kept hk12).1.keeps
        clear hk12 HCA HB11 HC11
        go_wp2
        go_ret
        exact ⟨rfl, HK12.out⟩
end
end Go.Proofs.YtpeclkhppgabfaaDoor
