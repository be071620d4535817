/- MetalogOlder's walk. -/
import Derived.Test.YtpeclkhppgabfaaDoorOlp
import Derived.Test.YtpeclkhppgabfaaDoorPbB
import Derived.Test.YtpeclkhppgabfaaDoorIrw
namespace Go.Proofs.YtpeclkhppgabfaaDoor
open Go.RowKit
set_option linter.unusedVariables false
set_option linter.unusedSimpArgs false
theorem partsO {n : Nat} (h : n ≤ 200) : 1 ≤ partsN n ∧ partsN n ≤ 4 := by unfold partsN; split <;> omega
section
set_option maxHeartbeats 8000000
set_option maxRecDepth 100000
theorem law_older (va : Value) (LA : List (List Int)) (vc : Value) (LC : List (List Int)) (a2 : Int) (w : World) (hsa : RSrc w va LA) (hsc : RSrc w vc LC) : Calls Tryd.prog 8 #[va, vc, .int .i64 a2] w fun e w' => e = .returned (.bool true) ∧ Kept w w' := by
  have HSA := Lib.hid hsa
  have HSC := Lib.hid hsc
  obtain ⟨oa, capa, rfl, _, _, _⟩ := hsa
  obtain ⟨oc, capc, rfl, _, _, _⟩ := hsc
  obtain ⟨g, hg, hgl⟩ := and_low a2 24 (by decide) (m := 16777215) (by decide)
  have hgl' : g < 16777216 := hgl
  clear hgl
  go_enter Tryd.func8, Tryd.ntmps8
  go_wp2_with fail
  refine Calls.mono (law_shown09 _) ?_
  rintro e w1 ⟨rfl, hk1⟩
  have HK1 := Lib.hid hk1
  clear hk1
  go_wp2_with fail
  refine Calls.mono (bank09 2 (by decide) w w1 (fun k => k ∈ ([] : List Nat)) HK1.out (fun k h => by cases h)) ?_
  rintro e w2 ⟨q, rfl, hb2, _⟩
  have HB2 := Lib.hid hb2
  clear hb2 HK1
  go_wp2_with (refine stop_at (o := ⟨some 34, _, _, _, _, _⟩) ?_)
  refine Stop.mk ?_
  try simp only [hg]
  refine wpList_lit_ints rfl 2 (by decide) _ rfl [0, 1] (by kernel_rfl) ?_
  intro w3 hz3 hs3 hk3
  have HC3 := Lib.hid (by simpa using Cells.of_block hz3.out : Cells w3 w2.heap.size 0 (ints [0, 1]))
  have HB3 := Lib.hid (HB2.out.pushR hk3 w2.heap.size (Nat.le_refl _) hs3)
  generalize w2.heap.size = B at *
  clear hz3 hk3 HB2
  go_wp2_with fail
  refine Calls.mono (meta_New q B 2 [0, 1] (g : Int) w3 (by decide) (by decide) (by decide) HC3.out) ?_
  rintro e w4 ⟨p1, l1, c1, rfl, hl4, hlg, hlp, hps, hk4⟩
  have HB4 : Hid (BK w (fun k => k ∈ [p1, l1, B]) w4 q (addZ 200 2)) := Lib.hid (HB3.out.pushRs hk4 [p1, l1] (by intro k hk; simp at hk; rcases hk with rfl | rfl <;> omega))
  have HL4 := Lib.hid hl4
  have HP1 := Lib.hid (Nat.le_trans HB3.out.keeps.size (Nat.le_trans hlg (Nat.le_of_lt hlp)))
  have HC4 := Lib.hid (HC3.out.kept hk4)
  have HLT := Lib.hid (show B < p1 ∧ l1 < p1 ∧ p1 < w4.heap.size from ⟨by omega, hlp, hps⟩)
  clear hl4 hlg hlp hps hk4 hs3 HB3 HC3
  go_wp2_with fail
  refine Calls.mono (meta_New q B 2 [0, 1] ((g : Int) + 1) w4 (by decide) (by decide) (by decide) HC4.out) ?_
  rintro e w5 ⟨p2, l2, c2, rfl, hl5, hlg, hlp, hps, hk5⟩
  have HB5 : Hid (BK w (fun k => k ∈ [p2, l2, p1, l1, B]) w5 q (addZ 200 2)) := Lib.hid (HB4.out.pushRs hk5 [p2, l2] (by intro k hk; simp at hk; rcases hk with rfl | rfl <;> omega))
  have HL5 := Lib.hid (HL4.out.kept hk5)
  have HM5 := Lib.hid hl5
  have HP2 := Lib.hid (Nat.le_trans HB4.out.keeps.size (Nat.le_trans hlg (Nat.le_of_lt hlp)))
  have HC5 := Lib.hid (HC4.out.kept hk5)
  have HNE : Hid (l1 ≠ p1 ∧ B ≠ p1 ∧ p2 ≠ p1 ∧ l2 ≠ p1 ∧ l2 ≠ p2 ∧ B ≠ p2 ∧ p1 ≠ p2 ∧ l1 ≠ p2) := Lib.hid (by have := HLT.out; omega)
  clear hl5 hlg hlp hps hk5 HB4 HC4 HL4 HLT
  have hg0 : Hid (0 ≤ (g : Int) ∧ (g : Int) < 4294967296) := Lib.hid ⟨by omega, by omega⟩
  have hg1 : Hid (0 ≤ (g : Int) + 1 ∧ (g : Int) + 1 < 4294967296) := Lib.hid ⟨by omega, by omega⟩
  have HQ5 := Lib.hid (LogQ.start (n := 2) (by decide) [0, 1] (g : Int))
  have HF5 := Lib.hid (FromJ.zero [0, 1] (fun x => x = (g : Int)))
  obtain ⟨wa, rfl⟩ : ∃ wa, wa = w5 := ⟨_, rfl⟩
  go_upto_block 0 with fail
  go_cut [] (fun wc => ∃ (R : List (List Int)) (T : BankT) (N : Nat → Nat → List Int) (t : Nat), t ≤ 800 ∧ Hid (LogQ T 2 (fun _ => false) N t [0, 1] (g : Int) R) ∧ Hid (FromJ N [0, 1] (fun x => x = (g : Int))) ∧ Hid (BK w (fun k => k ∈ [p2, l2, p1, l1, B]) wc q T) ∧ Hid (LogD wc p2 q l2 c2 [0, 1] ⟨(g : Int) + 1, 0, 0, false⟩) ∧ Hid (Cells wc B 0 (ints [0, 1])))
  case first =>
    go_wp2
    go_loopw [12] (fun i wr => ∃ (k : Nat) (R : List (List Int)) (T : BankT) (N : Nat → Nat → List Int) (t pn : Nat), k ≤ LA.length ∧ k ≤ 8 ∧ i = .int .i64 k ∧ pn ≤ 4 * k ∧ t ≤ 100 * k ∧ Hid (R.length = k ∧ posN R = pn) ∧ Hid (LogQ T 2 (fun _ => false) N t [0, 1] (g : Int) R) ∧ Hid (FromJ N [0, 1] (fun x => x = (g : Int))) ∧ Hid (BK w (fun k => k ∈ [p2, l2, p1, l1, B]) wr q T) ∧ Hid (LogD wr p1 q l1 c1 [0, 1] ⟨(g : Int), k, pn, false⟩) ∧ Hid (LogD wr p2 q l2 c2 [0, 1] ⟨(g : Int) + 1, 0, 0, false⟩) ∧ Hid (Cells wr B 0 (ints [0, 1]))) (fun i _ => LA.length - (intOf i).toNat)
    case atStart => exact ⟨0, [], _, _, 0, 0, Nat.zero_le _, by decide, rfl, by decide, by decide, Lib.hid ⟨rfl, rfl⟩, HQ5, HF5, HB5, HL5, HM5, HC5⟩
    case round =>
      clear HQ5 HF5 HB5 HL5 HM5 HC5
      obtain ⟨k, R, T, N, t, pn, hk, hk8, rfl, hpn, ht, HN, HQ, HF, HB, HL, HM, HC⟩ := hrel
      by_cases hlt : k < LA.length ∧ k < 8
      · obtain ⟨hlt, h8⟩ := hlt
        obtain ⟨b, off, ax, ck, rfl, g1, hsrc⟩ := HSA.out.at k hlt
        obtain ⟨x, hx⟩ : ∃ x, x = LA[k] := ⟨_, rfl⟩
        rw [← hx] at g1 hsrc
        obtain ⟨nk, hnk⟩ : ∃ nk, nk = x.length := ⟨_, rfl⟩
        rw [← hnk] at g1 hsrc
        obtain ⟨kk, hkk⟩ : ∃ kk, kk = min nk 200 := ⟨_, rfl⟩
        obtain ⟨hn0, hkc, hh, hhl⟩ := hsrc.head kk (by omega)
        generalize x.take kk = xk at *
        have hma : min (nk : Int) 200 = (kk : Int) := by omega
        have hk200 : kk ≤ 200 := by omega
        obtain ⟨pt, hpt⟩ : ∃ pt, partsN kk = pt := ⟨_, rfl⟩
        have hp4 := partsO hk200
        rw [hpt] at hp4
        have HG := Lib.hid g1
        have HH := Lib.hid hh
        have HHL := Lib.hid hhl
        have HPT := Lib.hid hpt
        clear hn0 hx hnk hsrc hkk hh hhl hpt g1
        obtain ⟨T5, N5, e5, hq5, hn5, hf5⟩ := HQ.out.stepF HF.out (ls := [0, 1]) (by intro d hd; simp at hd; omega) (fun d hd => hd) ⟨0, by simp, rfl⟩ hg0.out (b := xk) (by rw [HHL.out]; omega) HH.out.2 HN.out (pt := pt) (by rw [HHL.out]; exact HPT.out) (L := [0, 1]) rfl (by omega)
        have HU := Lib.hid (HQ.out.q.useN (by decide) 100 (by omega))
        have HKD := Lib.hid ((Kept.refl wr).drew)
        have hc := meta_Append (HB.out.kept HKD.out).1 (HL.out.kept HKD.out) (by simp) (by simp) HP1.out HNE.out.1 (.slice ax kk ck) xk (by rw [HHL.out]; have := HH.out.1.kept (HB.out.kept HKD.out).1.keeps; rw [HHL.out] at this; exact this) (by rw [HHL.out]; omega) HH.out.2 (by decide) (HU.out.less (by rw [HHL.out, HPT.out]; show 2 * pt ≤ 100; omega)) hg0.out (by show k < 1000; omega) (by show pn ≤ 48; omega)
        rw [e5] at hc
        have HCA := Lib.hid hc
        have HQ6 := Lib.hid hq5
        have HN6 := Lib.hid hn5
        have HF6 := Lib.hid hf5
        have hgd := (HB.out.kept HKD.out).1.keeps.cell' HG.out
        clear hc e5 hq5 hn5 hf5
        go_upto_region 14 with fail

        have hS := hgd
        refine wp_region_calm ?_
        refine wp_region_E (fun (W : World) => W.cell? ⟨b, off + k, none⟩ = some (Value.slice ax nk ck)) 100 (by kernel_rfl) ?_
        refine wpAnyE_take (i := 0) (v := ?_) (listed' := #[true, false, false, false, false, false, false, false, false, false, false, false, false]) (by rfl) (by kernel_rfl) (by kernel_rfl) calm_put hS (by rfl) ?_ ?_
        rotate_left
        · intro W hW; clear hW; go_simp; try (with_reducible rfl)
        simp only [Act.put, List.getElem_toArray, List.getElem_cons_succ, List.getElem_cons_zero, List.setIfInBounds_toArray, List.set_cons_zero, List.set_cons_succ]
        refine wpAnyE_take (i := 1) (v := ?_) (listed' := #[true, true, false, false, false, false, false, false, false, false, false, false, false]) (by rfl) (by kernel_rfl) (by kernel_rfl) calm_put hS (by rfl) ?_ ?_
        rotate_left
        · intro W hW; clear hW; go_simp; try (with_reducible rfl)
        simp only [Act.put, List.getElem_toArray, List.getElem_cons_succ, List.getElem_cons_zero, List.setIfInBounds_toArray, List.set_cons_zero, List.set_cons_succ]
        refine wpAnyE_take (i := 2) (v := ?_) (listed' := #[true, true, true, false, false, false, false, false, false, false, false, false, false]) (by rfl) (by kernel_rfl) (by kernel_rfl) calm_put hS (by rfl) ?_ ?_
        rotate_left
        · intro W hW; clear hW; go_simp; try (with_reducible rfl)
        simp only [Act.put, List.getElem_toArray, List.getElem_cons_succ, List.getElem_cons_zero, List.setIfInBounds_toArray, List.set_cons_zero, List.set_cons_succ]
        refine wpAnyE_take (i := 3) (v := ?_) (listed' := #[true, true, true, true, false, false, false, false, false, false, false, false, false]) (by rfl) (by kernel_rfl) (by kernel_rfl) calm_put hS (by rfl) ?_ ?_
        rotate_left
        · intro W hW; clear hW; go_simp; try (with_reducible rfl)
        simp only [Act.put, List.getElem_toArray, List.getElem_cons_succ, List.getElem_cons_zero, List.setIfInBounds_toArray, List.set_cons_zero, List.set_cons_succ]
        refine wpAnyE_take (i := 4) (v := ?_) (listed' := #[true, true, true, true, true, false, false, false, false, false, false, false, false]) (by rfl) (by kernel_rfl) (by kernel_rfl) calm_put hS (by rfl) ?_ ?_
        rotate_left
        · intro W hW; have hc0 := hW; clear hW; go_simp; try (with_reducible rfl)
        simp only [Act.put, List.getElem_toArray, List.getElem_cons_succ, List.getElem_cons_zero, List.setIfInBounds_toArray, List.set_cons_zero, List.set_cons_succ]
        refine wpAnyE_take (i := 5) (v := ?_) (listed' := #[true, true, true, true, true, true, false, false, false, false, false, false, false]) (by rfl) (by kernel_rfl) (by kernel_rfl) calm_put hS (by rfl) ?_ ?_
        rotate_left
        · intro W hW; clear hW; go_simp; try (with_reducible rfl)
        simp only [Act.put, List.getElem_toArray, List.getElem_cons_succ, List.getElem_cons_zero, List.setIfInBounds_toArray, List.set_cons_zero, List.set_cons_succ]
        refine wpAnyE_take (i := 6) (v := ?_) (listed' := #[true, true, true, true, true, true, true, false, false, false, false, false, false]) (by rfl) (by kernel_rfl) (by kernel_rfl) calm_put hS (by rfl) ?_ ?_
        rotate_left
        · intro W hW; clear hW; go_simp; try (with_reducible rfl)
        simp only [Act.put, List.getElem_toArray, List.getElem_cons_succ, List.getElem_cons_zero, List.setIfInBounds_toArray, List.set_cons_zero, List.set_cons_succ]
        refine wpAnyE_take (i := 7) (v := ?_) (listed' := #[true, true, true, true, true, true, true, true, false, false, false, false, false]) (by rfl) (by kernel_rfl) (by kernel_rfl) calm_put hS (by rfl) ?_ ?_
        rotate_left
        · intro W hW; clear hW; go_simp; try (with_reducible rfl)
        simp only [Act.put, List.getElem_toArray, List.getElem_cons_succ, List.getElem_cons_zero, List.setIfInBounds_toArray, List.set_cons_zero, List.set_cons_succ]
        refine wpAnyE_take (i := 8) (v := ?_) (listed' := #[true, true, true, true, true, true, true, true, true, false, false, false, false]) (by rfl) (by kernel_rfl) (by kernel_rfl) calm_put hS (by rfl) ?_ ?_
        rotate_left
        · intro W hW; have hc0 := hW; clear hW; go_simp; try (with_reducible rfl)
        simp only [Act.put, List.getElem_toArray, List.getElem_cons_succ, List.getElem_cons_zero, List.setIfInBounds_toArray, List.set_cons_zero, List.set_cons_succ]
        refine wpAnyE_take (i := 9) (v := ?_) (listed' := #[true, true, true, true, true, true, true, true, true, true, false, false, false]) (by rfl) (by kernel_rfl) (by kernel_rfl) calm_put hS (by rfl) ?_ ?_
        rotate_left
        · intro W hW; clear hW; go_simp; try (with_reducible rfl)
        simp only [Act.put, List.getElem_toArray, List.getElem_cons_succ, List.getElem_cons_zero, List.setIfInBounds_toArray, List.set_cons_zero, List.set_cons_succ]
        refine wpAnyE_take (i := 10) (v := .int .i64 (kk : Int)) (listed' := #[true, true, true, true, true, true, true, true, true, true, true, false, false]) (by rfl) (by kernel_rfl) (by kernel_rfl) calm_put hS (by rfl) ?_ ?_
        · intro W hW; clear hW; go_simp; try (with_reducible rfl)
        simp only [Act.put, List.getElem_toArray, List.getElem_cons_succ, List.getElem_cons_zero, List.setIfInBounds_toArray, List.set_cons_zero, List.set_cons_succ]
        refine wpAnyE_take (i := 11) (v := .slice ax kk ck) (listed' := #[true, true, true, true, true, true, true, true, true, true, true, true, false]) (by rfl) (by kernel_rfl) (by kernel_rfl) calm_put hS (by rfl) ?_ ?_
        · intro W hW; exact exec_slice_to _ _ rfl ax nk ck rfl kk rfl hkc
        simp only [Act.put, List.getElem_toArray, List.getElem_cons_succ, List.getElem_cons_zero, List.setIfInBounds_toArray, List.set_cons_zero, List.set_cons_succ]
        refine wpAnyE_one (i := 12) (listed' := #[true, true, true, true, true, true, true, true, true, true, true, true, true]) (by rfl) (by kernel_rfl) (by kernel_rfl) (by rfl) (fun K hK => ?_)
        simp only [Act.put, List.getElem_toArray, List.getElem_cons_succ, List.getElem_cons_zero, List.setIfInBounds_toArray, List.set_cons_zero, List.set_cons_succ]
        go_wp2_with fail
        refine Calls.mono HCA.out ?_
        rintro e w7 ⟨rfl, hb7, hl7, hs7⟩
        have HB7 : Hid (BK w (fun k => k ∈ [p2, l2, p1, l1, B]) w7 q T5) := Lib.hid hb7
        have HL7 : Hid (LogD w7 p1 q l1 c1 [0, 1] ⟨(g : Int), k + 1, pn + pt, false⟩) := Lib.hid hl7
        have HM7 := Lib.hid ((HM.out.kept HKD.out).same hs7 ⟨by simp, HNE.out.2.2.1⟩ ⟨by simp, HNE.out.2.2.2.1⟩)
        have HC7 := Lib.hid (hs7.cells (B := B) ⟨by simp, HNE.out.2.1⟩ (HC.out.kept HKD.out))
        have hS := HB7.out.keeps.cell' HG.out
        clear hb7 hl7 hs7 HCA
        refine hK _ _ (fun _ => hS) ?_; clear hK K
        refine wpAnyE_done (by kernel_rfl) ?_ _
        refine calm_normal ?_
        clear hS hgd HB HL HM HC HKD HU HG
        go_wp2
        go_roundw
        case rel => exact ⟨k + 1, _, T5, N5, t + 98, pn + pt, hlt, h8, by go_num, by omega, by omega, HN6, HQ6, HF6, HB7, HL7, HM7, HC7⟩
        case measure => simp [intOf]; omega
      · have hkk : LA.length ≤ k ∨ (k < LA.length ∧ 8 ≤ k) := by omega
        clear hlt
        rcases hkk with hkk | ⟨hkk, h8⟩
        all_goals
          go_wp2
          go_meet
          case rel => exact ⟨R, T, N, t, by omega, HQ, HF, HB, HM, HC⟩
  case rest =>
    clear HQ5 HF5 HB5 HL5 HM5 HC5 HSA
    obtain ⟨R1, T, N, t, ht, HQ, HF, HB, HM, HC⟩ := hcut
    have HOK := Lib.hid HQ.out.ok
    have HQ2 : Hid (LogQ T 2 (fun _ => false) N t [0, 1] ((g : Int) + 1) []) := Lib.hid ⟨HQ.out.q, RecsOk.nil, HF.out.only (by omega), AllJ.nil _ _ _⟩
    have HO2 := Lib.hid (Old2.start HQ.out.only HQ.out.all)
    have hsc := HQ2.out.scan (ls := [0, 1]) (by intro d hd; simp at hd; omega) (fun d hd => (List.mem_filter.1 hd).1) (by simp) hg1.out
    have e0 : natI [0, 1] = [0, 1] := rfl
    rw [e0] at hsc
    have hc := meta_Scan HB.out (HQ.out.q.use (by decide) (by omega)) B 2 [0, 1] HC.out (HB.out.ltR (by simp)) (by decide) ((g : Int) + 1)
    rw [hsc] at hc
    have HCA := Lib.hid hc
    clear hc hsc e0 HF HQ
    go_wp2_with fail
    refine Calls.mono HCA.out ?_
    rintro e w7 ⟨v1, rfl, hr7, hk7⟩
    have HB7 := Lib.hid (HB.out.kept hk7).1
    have HM7 := Lib.hid (HM.out.kept hk7)
    have HC7 := Lib.hid (HC.out.kept hk7)
    obtain ⟨ao, cx, rfl⟩ := hr7.slice
    have el : ([] : List (List Int)).length = 0 := rfl
    rw [el]
    clear hr7 hk7 HCA HC HB HM el
    obtain ⟨wa, rfl⟩ : ∃ wa, wa = w7 := ⟨_, rfl⟩
    go_upto_block 2 with fail
    go_cut [16] (fun nv wc => ∃ (k : Nat) (R : List (List Int)) (T : BankT) (N : Nat → Nat → List Int) (t : Nat), nv = .int .i64 (k : Int) ∧ k ≤ 8 ∧ t ≤ 1600 ∧ Hid (R.length = k) ∧ Hid (LogQ T 2 (fun _ => false) N t [0, 1] ((g : Int) + 1) R) ∧ Hid (Old2 N [0, 1] (g : Int) R1 k) ∧ Hid (BK w (fun k => k ∈ [p2, l2, p1, l1, B]) wc q T) ∧ Hid (Cells wc B 0 (ints [0, 1])))
    case first =>
      go_wp2
      go_loopw [16, 17] (fun nv i wr => ∃ (k : Nat) (R : List (List Int)) (T : BankT) (N : Nat → Nat → List Int) (t pn : Nat), k ≤ LC.length ∧ k ≤ 8 ∧ i = .int .i64 k ∧ nv = .int .i64 k ∧ pn ≤ 4 * k ∧ t ≤ 800 + 100 * k ∧ Hid (R.length = k ∧ posN R = pn) ∧ Hid (LogQ T 2 (fun _ => false) N t [0, 1] ((g : Int) + 1) R) ∧ Hid (Old2 N [0, 1] (g : Int) R1 k) ∧ Hid (BK w (fun k => k ∈ [p2, l2, p1, l1, B]) wr q T) ∧ Hid (LogD wr p2 q l2 c2 [0, 1] ⟨(g : Int) + 1, k, pn, false⟩) ∧ Hid (Cells wr B 0 (ints [0, 1]))) (fun _ i _ => LC.length - (intOf i).toNat)
      case atStart => exact ⟨0, [], T, N, t, 0, Nat.zero_le _, by decide, rfl, rfl, by decide, by omega, Lib.hid ⟨rfl, rfl⟩, HQ2, HO2, HB7, HM7, HC7⟩
      case round =>
        clear HQ2 HO2 HB7 HM7 HC7
        obtain ⟨k, R, T, N, t, pn, hk, hk8, rfl, rfl, hpn, ht, HN, HQ, HO, HB, HM, HC⟩ := hrel
        by_cases hlt : k < LC.length ∧ k < 8
        · obtain ⟨hlt, h8⟩ := hlt
          obtain ⟨b, off, ax, ck, rfl, g1, hsrc⟩ := HSC.out.at k hlt
          obtain ⟨x, hx⟩ : ∃ x, x = LC[k] := ⟨_, rfl⟩
          rw [← hx] at g1 hsrc
          obtain ⟨nk, hnk⟩ : ∃ nk, nk = x.length := ⟨_, rfl⟩
          rw [← hnk] at g1 hsrc
          obtain ⟨kk, hkk⟩ : ∃ kk, kk = min nk 200 := ⟨_, rfl⟩
          obtain ⟨hn0, hkc, hh, hhl⟩ := hsrc.head kk (by omega)
          generalize x.take kk = xk at *
          have hma : min (nk : Int) 200 = (kk : Int) := by omega
          have hk200 : kk ≤ 200 := by omega
          obtain ⟨pt, hpt⟩ : ∃ pt, partsN kk = pt := ⟨_, rfl⟩
          have hp4 := partsO hk200
          rw [hpt] at hp4
          have HG := Lib.hid g1
          have HH := Lib.hid hh
          have HHL := Lib.hid hhl
          have HPT := Lib.hid hpt
          clear hn0 hx hnk hsrc hkk hh hhl hpt g1
          obtain ⟨T5, N5, e5, hq5, hn5, hf5⟩ := HQ.out.stepO HO.out (by omega) (ls := [0, 1]) (by intro d hd; simp at hd; omega) (fun d hd => hd) ⟨0, by simp, rfl⟩ hg1.out (b := xk) (by rw [HHL.out]; omega) HH.out.2 HN.out (pt := pt) (by rw [HHL.out]; exact HPT.out) (L := [0, 1]) rfl (by omega)
          have HU := Lib.hid (HQ.out.q.useN (by decide) 100 (by omega))
          have HKD := Lib.hid ((Kept.refl wr).drew)
          have hc := meta_Append (HB.out.kept HKD.out).1 (HM.out.kept HKD.out) (by simp) (by simp) HP2.out HNE.out.2.2.2.2.1 (.slice ax kk ck) xk (by rw [HHL.out]; have := HH.out.1.kept (HB.out.kept HKD.out).1.keeps; rw [HHL.out] at this; exact this) (by rw [HHL.out]; omega) HH.out.2 (by decide) (HU.out.less (by rw [HHL.out, HPT.out]; show 2 * pt ≤ 100; omega)) hg1.out (by show k < 1000; omega) (by show pn ≤ 48; omega)
          rw [e5] at hc
          have HCA := Lib.hid hc
          have HQ6 := Lib.hid hq5
          have HN6 := Lib.hid hn5
          have HF6 := Lib.hid hf5
          have hgd := (HB.out.kept HKD.out).1.keeps.cell' HG.out
          clear hc e5 hq5 hn5 hf5
          go_upto_region 20 with fail
          have hS := hgd
          refine wp_region_calm ?_
          refine wp_region_E (fun (W : World) => W.cell? ⟨b, off + k, none⟩ = some (Value.slice ax nk ck)) 100 (by kernel_rfl) ?_
          refine wpAnyE_take (i := 0) (v := ?_) (listed' := #[true, false, false, false, false, false, false, false, false, false, false, false, false, false]) (by rfl) (by kernel_rfl) (by kernel_rfl) calm_put hS (by rfl) ?_ ?_
          rotate_left
          · intro W hW; clear hW; go_simp; try (with_reducible rfl)
          simp only [Act.put, List.getElem_toArray, List.getElem_cons_succ, List.getElem_cons_zero, List.setIfInBounds_toArray, List.set_cons_zero, List.set_cons_succ]
          refine wpAnyE_take (i := 1) (v := ?_) (listed' := #[true, true, false, false, false, false, false, false, false, false, false, false, false, false]) (by rfl) (by kernel_rfl) (by kernel_rfl) calm_put hS (by rfl) ?_ ?_
          rotate_left
          · intro W hW; clear hW; go_simp; try (with_reducible rfl)
          simp only [Act.put, List.getElem_toArray, List.getElem_cons_succ, List.getElem_cons_zero, List.setIfInBounds_toArray, List.set_cons_zero, List.set_cons_succ]
          refine wpAnyE_take (i := 2) (v := ?_) (listed' := #[true, true, true, false, false, false, false, false, false, false, false, false, false, false]) (by rfl) (by kernel_rfl) (by kernel_rfl) calm_put hS (by rfl) ?_ ?_
          rotate_left
          · intro W hW; clear hW; go_simp; try (with_reducible rfl)
          simp only [Act.put, List.getElem_toArray, List.getElem_cons_succ, List.getElem_cons_zero, List.setIfInBounds_toArray, List.set_cons_zero, List.set_cons_succ]
          refine wpAnyE_take (i := 3) (v := ?_) (listed' := #[true, true, true, true, false, false, false, false, false, false, false, false, false, false]) (by rfl) (by kernel_rfl) (by kernel_rfl) calm_put hS (by rfl) ?_ ?_
          rotate_left
          · intro W hW; clear hW; go_simp; try (with_reducible rfl)
          simp only [Act.put, List.getElem_toArray, List.getElem_cons_succ, List.getElem_cons_zero, List.setIfInBounds_toArray, List.set_cons_zero, List.set_cons_succ]
          refine wpAnyE_take (i := 4) (v := ?_) (listed' := #[true, true, true, true, true, false, false, false, false, false, false, false, false, false]) (by rfl) (by kernel_rfl) (by kernel_rfl) calm_put hS (by rfl) ?_ ?_
          rotate_left
          · intro W hW; have hc0 := hW; clear hW; go_simp; try (with_reducible rfl)
          simp only [Act.put, List.getElem_toArray, List.getElem_cons_succ, List.getElem_cons_zero, List.setIfInBounds_toArray, List.set_cons_zero, List.set_cons_succ]
          refine wpAnyE_take (i := 5) (v := ?_) (listed' := #[true, true, true, true, true, true, false, false, false, false, false, false, false, false]) (by rfl) (by kernel_rfl) (by kernel_rfl) calm_put hS (by rfl) ?_ ?_
          rotate_left
          · intro W hW; clear hW; go_simp; try (with_reducible rfl)
          simp only [Act.put, List.getElem_toArray, List.getElem_cons_succ, List.getElem_cons_zero, List.setIfInBounds_toArray, List.set_cons_zero, List.set_cons_succ]
          refine wpAnyE_take (i := 6) (v := ?_) (listed' := #[true, true, true, true, true, true, true, false, false, false, false, false, false, false]) (by rfl) (by kernel_rfl) (by kernel_rfl) calm_put hS (by rfl) ?_ ?_
          rotate_left
          · intro W hW; clear hW; go_simp; try (with_reducible rfl)
          simp only [Act.put, List.getElem_toArray, List.getElem_cons_succ, List.getElem_cons_zero, List.setIfInBounds_toArray, List.set_cons_zero, List.set_cons_succ]
          refine wpAnyE_take (i := 7) (v := ?_) (listed' := #[true, true, true, true, true, true, true, true, false, false, false, false, false, false]) (by rfl) (by kernel_rfl) (by kernel_rfl) calm_put hS (by rfl) ?_ ?_
          rotate_left
          · intro W hW; clear hW; go_simp; try (with_reducible rfl)
          simp only [Act.put, List.getElem_toArray, List.getElem_cons_succ, List.getElem_cons_zero, List.setIfInBounds_toArray, List.set_cons_zero, List.set_cons_succ]
          refine wpAnyE_take (i := 8) (v := ?_) (listed' := #[true, true, true, true, true, true, true, true, true, false, false, false, false, false]) (by rfl) (by kernel_rfl) (by kernel_rfl) calm_put hS (by rfl) ?_ ?_
          rotate_left
          · intro W hW; have hc0 := hW; clear hW; go_simp; try (with_reducible rfl)
          simp only [Act.put, List.getElem_toArray, List.getElem_cons_succ, List.getElem_cons_zero, List.setIfInBounds_toArray, List.set_cons_zero, List.set_cons_succ]
          refine wpAnyE_take (i := 9) (v := ?_) (listed' := #[true, true, true, true, true, true, true, true, true, true, false, false, false, false]) (by rfl) (by kernel_rfl) (by kernel_rfl) calm_put hS (by rfl) ?_ ?_
          rotate_left
          · intro W hW; clear hW; go_simp; try (with_reducible rfl)
          simp only [Act.put, List.getElem_toArray, List.getElem_cons_succ, List.getElem_cons_zero, List.setIfInBounds_toArray, List.set_cons_zero, List.set_cons_succ]
          refine wpAnyE_take (i := 10) (v := .int .i64 (kk : Int)) (listed' := #[true, true, true, true, true, true, true, true, true, true, true, false, false, false]) (by rfl) (by kernel_rfl) (by kernel_rfl) calm_put hS (by rfl) ?_ ?_
          · intro W hW; clear hW; go_simp; try (with_reducible rfl)
          simp only [Act.put, List.getElem_toArray, List.getElem_cons_succ, List.getElem_cons_zero, List.setIfInBounds_toArray, List.set_cons_zero, List.set_cons_succ]
          refine wpAnyE_take (i := 11) (v := .slice ax kk ck) (listed' := #[true, true, true, true, true, true, true, true, true, true, true, true, false, false]) (by rfl) (by kernel_rfl) (by kernel_rfl) calm_put hS (by rfl) ?_ ?_
          · intro W hW; exact exec_slice_to _ _ rfl ax nk ck rfl kk rfl hkc
          simp only [Act.put, List.getElem_toArray, List.getElem_cons_succ, List.getElem_cons_zero, List.setIfInBounds_toArray, List.set_cons_zero, List.set_cons_succ]
          refine wpAnyE_one (i := 12) (listed' := #[true, true, true, true, true, true, true, true, true, true, true, true, true, false]) (by rfl) (by kernel_rfl) (by kernel_rfl) (by rfl) (fun K hK => ?_)
          simp only [Act.put, List.getElem_toArray, List.getElem_cons_succ, List.getElem_cons_zero, List.setIfInBounds_toArray, List.set_cons_zero, List.set_cons_succ]
          go_wp2_with fail
          refine Calls.mono HCA.out ?_
          rintro e w8 ⟨rfl, hb7, hl7, hs7⟩
          have HB8 : Hid (BK w (fun k => k ∈ [p2, l2, p1, l1, B]) w8 q T5) := Lib.hid hb7
          have HM8 : Hid (LogD w8 p2 q l2 c2 [0, 1] ⟨(g : Int) + 1, k + 1, pn + pt, false⟩) := Lib.hid hl7
          have HC8 := Lib.hid (hs7.cells (B := B) ⟨by simp, HNE.out.2.2.2.2.2.1⟩ (HC.out.kept HKD.out))
          have hS := HB8.out.keeps.cell' HG.out
          clear hb7 hl7 hs7 HCA
          refine hK _ _ (fun _ => hS) ?_; clear hK K
          refine wpAnyE_take (i := 13) (v := ?_) (listed' := #[true, true, true, true, true, true, true, true, true, true, true, true, true, true]) (by rfl) (by kernel_rfl) (by kernel_rfl) calm_put hS (by rfl) ?_ ?_
          rotate_left
          · intro W hW; clear hW; go_simp; try (with_reducible rfl)
          simp only [Act.put, List.getElem_toArray, List.getElem_cons_succ, List.getElem_cons_zero, List.setIfInBounds_toArray, List.set_cons_zero, List.set_cons_succ]
          refine wpAnyE_done (by kernel_rfl) ?_ _
          refine calm_normal ?_
          clear hS hgd HB HM HC HKD HU HG
          go_wp2
          go_roundw
          case rel => exact ⟨k + 1, _, T5, N5, t + 98, pn + pt, hlt, h8, by go_num, by go_num, by omega, by omega, HN6, HQ6, HF6, HB8, HM8, HC8⟩
          case measure => simp [intOf]; omega
        · have hkk : LC.length ≤ k ∨ (k < LC.length ∧ 8 ≤ k) := by omega
          clear hlt
          rcases hkk with hkk | ⟨hkk, h8⟩
          all_goals
            go_wp2
            go_meet
            case rel => exact ⟨k, R, T, N, t, rfl, hk8, by omega, Lib.hid HN.out.1, HQ, HO, HB, HC⟩
    case rest =>
      clear HQ2 HO2 HB7 HM7 HC7 HSC ht
      obtain ⟨k, R, T, N, t, rfl, hk8, ht, HN, HQ, HO, HB, HC⟩ := hcut
      have hsc := HQ.out.scan (ls := [0, 1]) (by intro d hd; simp at hd; omega) (fun d hd => (List.mem_filter.1 hd).1) (by simp) hg1.out
      have e0 : natI [0, 1] = [0, 1] := rfl
      rw [e0] at hsc
      have hc := meta_Scan HB.out (HQ.out.q.use (by decide) (by omega)) B 2 [0, 1] HC.out (HB.out.ltR (by simp)) (by decide) ((g : Int) + 1)
      rw [hsc] at hc
      have HCA := Lib.hid hc
      clear hc hsc
      go_wp2_with fail
      refine Calls.mono HCA.out ?_
      rintro e w8 ⟨v2, rfl, hr8, hk8'⟩
      have HB8 := Lib.hid (HB.out.kept hk8').1
      have HC8 := Lib.hid (HC.out.kept hk8')
      obtain ⟨ao2, cx2, rfl⟩ := hr8.slice
      rw [HN.out]
      clear hr8 hk8' HCA HC HB
      obtain ⟨S, pos, hso, hsk⟩ := HO.out.scan HQ.out.q (ls := [0, 1]) (by intro d hd; simp at hd; omega) (al := [0, 1]) rfl (by simp) hg0.out HOK.out
      rw [e0] at hso
      have HSK := Lib.hid hsk
      have hc := meta_Scan HB8.out (HQ.out.q.use (by decide) (by omega)) B 2 [0, 1] HC8.out (HB8.out.ltR (by simp)) (by decide) (g : Int)
      rw [hso] at hc
      have HCA := Lib.hid hc
      clear hc hso hsk e0
      go_wp2_with fail
      refine Calls.mono HCA.out ?_
      rintro e w9 ⟨v3, rfl, hr9, hk9⟩
      have HK9 := Lib.hid (HB8.out.kept hk9).1.keeps
      obtain ⟨ao3, cx3, rfl⟩ := hr9.slice
      clear hr9 hk9 HCA HC8 HB8
      by_cases hk0 : k = 0
      · have hkz : ((k : Int) == 0) = true := by simp [hk0]
        clear hk0
        go_wp2
        go_ret
        exact ⟨rfl, HK9.out⟩
      · have hkz : ((k : Int) == 0) = false := by simp [hk0]
        have hS0 : S.length = 0 := by rw [HSK.out (by omega)]; rfl
        rw [hS0]
        clear hk0 hS0
        go_wp2
        go_ret
        exact ⟨rfl, HK9.out⟩
end
end Go.Proofs.YtpeclkhppgabfaaDoor
