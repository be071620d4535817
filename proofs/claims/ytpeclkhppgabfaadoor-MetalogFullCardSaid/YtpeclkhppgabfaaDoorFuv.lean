/- MetalogFull's walk. -/
import Derived.Test.YtpeclkhppgabfaaDoorFup
import Derived.Test.YtpeclkhppgabfaaDoorPbB
import Derived.Test.YtpeclkhppgabfaaDoorMkb
import Derived.Test.YtpeclkhppgabfaaDoorIsr
namespace Go.Proofs.YtpeclkhppgabfaaDoor
open Go.RowKit
set_option linter.unusedVariables false
set_option linter.unusedSimpArgs false
theorem zeros_byte (n : Nat) : ∀ x ∈ List.replicate n (0 : Int), IsByte x := by
  intro x hx
  rw [List.eq_of_mem_replicate hx]
  exact ⟨by decide, by decide⟩
section
set_option maxHeartbeats 4000000
set_option maxRecDepth 100000
theorem law_full (v : Value) (l : List Int) (w : World) (hs : ISrc w v l) : Calls Tryd.prog 7 #[v] w fun e w' => e = .returned (.bool true) ∧ Kept w w' := by
  have HS := Lib.hid hs
  obtain ⟨oa, cap0, rfl, _, _, _⟩ := hs
  go_enter Tryd.func7, Tryd.ntmps7
  go_wp2_with fail
  refine Calls.mono (law_shown09 _) ?_
  rintro e w1 ⟨rfl, hk1⟩
  have HK1 := Lib.hid hk1
  clear hk1
  go_wp2_with fail
  refine Calls.mono (bank09 1 (by decide) w w1 (fun k => k ∈ ([] : List Nat)) HK1.out (fun k h => by cases h)) ?_
  rintro e w2 ⟨q, rfl, hb2, _⟩
  have HB2 := Lib.hid hb2
  clear hb2 HK1
  go_wp2_with (refine stop_at (o := ⟨some 24, _, _, _, _, _⟩) ?_)
  refine Stop.mk ?_
  refine wpList_lit_ints rfl 1 (by decide) _ rfl [0] (by kernel_rfl) ?_
  intro w3 hz3 hs3 hk3
  have HC3 := Lib.hid (by simpa using Cells.of_block hz3.out : Cells w3 w2.heap.size 0 (ints [0]))
  have HB3 := Lib.hid (HB2.out.kept hk3).1
  generalize w2.heap.size = B at *
  clear hz3 hs3 hk3 HB2
  go_wp2_with fail
  refine Calls.mono (meta_New q B 1 [0] 1 w3 (by decide) (by decide) (by decide) HC3.out) ?_
  rintro e w4 ⟨p, lg, cap, rfl, hl4, hlg, hlp, hps, hk4⟩
  have HB4 := Lib.hid (HB3.out.pushRs hk4 [p, lg] (by intro k hk; simp at hk; rcases hk with rfl | rfl <;> omega))
  have HL4 := Lib.hid hl4
  have HP := Lib.hid (And.intro (Nat.le_trans HB3.out.keeps.size (Nat.le_trans hlg (Nat.le_of_lt hlp))) (Nat.ne_of_lt hlp))
  clear hl4 hlg hlp hps hk4 HB3 HC3
  have HQ4 := Lib.hid (LogQ.start (n := 1) (by decide) [0] 1)
  obtain ⟨wa, rfl⟩ : ∃ wa, wa = w4 := ⟨_, rfl⟩
  go_upto_block 0 with fail
  go_cut [6, 7] (fun rm nv wc => ∃ (R : List (List Int)) (T : BankT) (N : Nat → Nat → List Int) (t nn pn r : Nat), rm = .int .i64 (r : Int) ∧ nv = .int .i64 (nn : Int) ∧ r + pn = 48 ∧ t ≤ 3000 ∧ Hid (R.length = nn ∧ posN R = pn) ∧ Hid (LogQ T 1 (fun _ => false) N t [0] 1 R) ∧ Hid (BK w (fun k => k ∈ [p, lg]) wc q T))
  case first =>
    go_wp2
    go_loopw [6, 7, 8] (fun rm nv i wr => ∃ (k : Nat) (R : List (List Int)) (T : BankT) (N : Nat → Nat → List Int) (t nn pn r : Nat), k ≤ l.length ∧ k ≤ 60 ∧ i = .int .i64 k ∧ rm = .int .i64 (r : Int) ∧ nv = .int .i64 (nn : Int) ∧ r + pn = 48 ∧ t ≤ 49 * k ∧ Hid (R.length = nn ∧ posN R = pn) ∧ Hid (LogQ T 1 (fun _ => false) N t [0] 1 R) ∧ Hid (BK w (fun k => k ∈ [p, lg]) wr q T) ∧ Hid (LogD wr p q lg cap [0] ⟨1, nn, pn, false⟩)) (fun _ _ i _ => l.length - (intOf i).toNat)
    case atStart => exact ⟨0, [], _, _, 0, 0, 0, 48, Nat.zero_le _, by decide, rfl, rfl, rfl, rfl, by decide, Lib.hid ⟨rfl, rfl⟩, HQ4, HB4, HL4⟩
    case round =>
      clear HQ4 HB4 HL4
      obtain ⟨k, R, T, N, t, nn, pn, r, hk, hk60, rfl, rfl, rfl, hrp, ht, HN, HQ, HB, HL⟩ := hrel
      by_cases hlt : k < l.length ∧ k < 60
      · obtain ⟨hlt, h60⟩ := hlt
        obtain ⟨b, off, rfl, g1⟩ := HS.out.at k hlt
        have c1 := HB.out.keeps.cell' g1
        obtain ⟨s, hs5, hsl⟩ := and_low l[k] 9 (by decide) (m := 511) (by decide)
        have hsl' : s < 512 := hsl
        generalize l[k] = xk at *
        clear g1 hsl
        obtain ⟨pt, hpt⟩ : ∃ pt, partsN s = pt := ⟨_, rfl⟩
        have hp1 := partsN_pos (show s ≤ 2120 by omega)
        rw [hpt] at hp1
        have hp1' : 1 ≤ pt := hp1.1
        have hp2' : pt ≤ 40 := hp1.2.1
        clear hp1
        have hstep := HQ.out.step (ls := [0]) (by intro d hd; simp at hd; omega) (fun d hd => hd) ⟨0, by simp, rfl⟩ (by decide) (b := List.replicate s 0) (by rw [List.length_replicate]; omega) (zeros_byte s) HN.out (pt := pt) (by rw [List.length_replicate]; exact hpt) (L := [0]) rfl
        have HST := Lib.hid hstep
        have HLE := Lib.hid (HQ.out.le HN.out)
        have HU := Lib.hid (HQ.out.q.useN (by decide) 100 (by omega))
        have HPT := Lib.hid hpt
        have hnn : nn ≤ 48 := HLE.out.1
        clear hstep hpt
        go_wp2_with fail
        have hc := record_Parts s (by omega) wr
        rw [HPT.out] at hc
        refine Calls.mono hc ?_
        rintro e w5 ⟨rfl, rfl⟩
        clear hc
        go_wp2_with (refine stop_at (o := ⟨some 47, _, _, _, _, _⟩) ?_)
        refine Stop.mk ?_
        refine wpList_make_row rfl _ _ rfl s (by omega) rfl rfl ?_
        intro w6 hz6 hs6 hk6
        have HX6 := Lib.hid (Src.of_cells (n := s) (c := s) (size := 1) (by simpa using Cells.of_block hz6.out : Cells w6 wr.heap.size 0 (u8s (List.replicate s 0))) (by rw [u8s_length, List.length_replicate]; omega) (Nat.le_refl _))
        have HB6 := Lib.hid (HB.out.kept hk6).1
        have HL6 := Lib.hid (HL.out.kept hk6)
        generalize wr.heap.size = X at *
        clear hz6 hs6 hk6 HB HL
        have hc := meta_Append HB6.out HL6.out (by simp) (by simp) HP.out.1 HP.out.2 (.slice (some ⟨X, 0, none⟩) s s) (List.replicate s 0) (by rw [List.length_replicate]; exact HX6.out) (by rw [List.length_replicate]; omega) (zeros_byte s) (by decide) (HU.out.less (by rw [List.length_replicate, HPT.out]; show 1 * pt ≤ 100; omega)) ⟨by show (0 : Int) ≤ 1; decide, by show (1 : Int) < 4294967296; decide⟩ (by have := HLE.out; show nn < 1000; omega) HLE.out.2
        by_cases hfit : pn + pt ≤ 48
        · obtain ⟨T', N', e, hq', hn', _⟩ := HST.out.1 hfit
          rw [e] at hc
          have HCA := Lib.hid hc
          have HQ' := Lib.hid hq'
          have HN' := Lib.hid hn'
          clear hc e hq' hn' HST
          go_wp2_with fail
          refine Calls.mono HCA.out ?_
          rintro e w7 ⟨rfl, hb7, hl7, _⟩
          have HB7 : Hid (BK w (fun k => k ∈ [p, lg]) w7 q T') := Lib.hid hb7
          have HL7 : Hid (LogD w7 p q lg cap [0] ⟨1, nn + 1, pn + pt, false⟩) := Lib.hid hl7
          clear hb7 hl7 HCA HB6 HL6 HX6
          obtain ⟨r', hr'⟩ : ∃ r', r' = r - pt := ⟨_, rfl⟩
          have hle : (pt : Int) ≤ (r : Int) := by omega
          have hsub : (r : Int) - (pt : Int) = (r' : Int) := by omega
          have hr2 : r' + (pn + pt) = 48 := by omega
          clear hr'
          have hc := meta_Room HL7.out (by show pn + pt ≤ 48; omega)
          have hrr : (48 : Int) - ((⟨1, nn + 1, pn + pt, false⟩ : LogT).pos : Int) = (r' : Int) := by show (48 : Int) - ((pn + pt : Nat) : Int) = (r' : Int); omega
          rw [hrr] at hc
          have HRM := Lib.hid hc
          have HNX := Lib.hid (meta_Next HL7.out)
          clear hc hrr
          go_wp2_with fail
          refine Calls.mono HRM.out ?_
          rintro e w8 ⟨rfl, rfl⟩
          go_wp2_with fail
          refine Calls.mono HNX.out ?_
          rintro e w9 ⟨rfl, rfl⟩
          go_wp2
          go_roundw
          case rel => exact ⟨k + 1, _, T', N', t + 49, nn + 1, pn + pt, r', hlt, h60, by go_num, rfl, by go_num, hr2, by omega, HN', HQ', HB7, HL7⟩
          case measure => simp [intOf]; omega
        · rw [HST.out.2 (by omega)] at hc
          have HCA := Lib.hid hc
          clear hc HST
          go_wp2_with fail
          refine Calls.mono HCA.out ?_
          rintro e w7 ⟨rfl, hb7, hl7, _⟩
          have HB7 : Hid (BK w (fun k => k ∈ [p, lg]) w7 q T) := Lib.hid hb7
          have HL7 : Hid (LogD w7 p q lg cap [0] ⟨1, nn, pn, false⟩) := Lib.hid hl7
          clear hb7 hl7 HCA HB6 HL6 HX6
          have hle : ¬ (pt : Int) ≤ (r : Int) := by omega
          have hc := meta_Room HL7.out (by show pn ≤ 48; omega)
          have hrr : (48 : Int) - ((⟨1, nn, pn, false⟩ : LogT).pos : Int) = (r : Int) := by show (48 : Int) - ((pn : Nat) : Int) = (r : Int); omega
          rw [hrr] at hc
          have HRM := Lib.hid hc
          have HNX := Lib.hid (meta_Next HL7.out)
          clear hc hrr
          go_wp2_with fail
          refine Calls.mono HRM.out ?_
          rintro e w8 ⟨rfl, rfl⟩
          go_wp2_with fail
          refine Calls.mono HNX.out ?_
          rintro e w9 ⟨rfl, rfl⟩
          go_wp2
          go_roundw
          case rel => exact ⟨k + 1, R, T, N, t, nn, pn, r, hlt, h60, by go_num, rfl, rfl, hrp, by omega, HN, HQ, HB7, HL7⟩
          case measure => simp [intOf]; omega
      · have hkk : l.length ≤ k ∨ (k < l.length ∧ 60 ≤ k) := by omega
        clear hlt
        rcases hkk with hkk | ⟨hkk, h60⟩
        all_goals
          go_wp2
          go_meet
          case rel => exact ⟨R, T, N, t, nn, pn, r, rfl, rfl, hrp, by omega, HN, HQ, HB⟩
  case rest =>
    clear HQ4 HB4 HL4 HS
    obtain ⟨R, T, N, t, nn, pn, r, rfl, rfl, hrp, ht, HN, HQ, HB⟩ := hcut
    have hsc := HQ.out.scan (ls := [0]) (by intro d hd; simp at hd; omega) (fun d hd => by simpa using hd) (by simp) (by decide)
    have e0 : natI [0] = [0] := rfl
    rw [e0] at hsc
    have HSC := Lib.hid hsc
    have HU := Lib.hid (HQ.out.q.use (by decide) (by omega))
    clear hsc e0
    go_wp2_with (refine stop_at (o := ⟨some 82, _, _, _, _, _⟩) ?_)
    refine Stop.mk ?_
    refine wpList_lit_ints rfl 1 (by decide) _ rfl [0] (by kernel_rfl) ?_
    intro w6 hz6 hs6 hk6
    have HC6 := Lib.hid (by simpa using Cells.of_block hz6.out : Cells w6 wc.heap.size 0 (ints [0]))
    have HB6 := Lib.hid (HB.out.kept hk6).1
    have HSZ := Lib.hid hs6
    generalize wc.heap.size = B6 at *
    clear hz6 hs6 hk6 HB
    have hc := meta_Scan HB6.out HU.out B6 1 [0] HC6.out HSZ.out (by decide) 1
    rw [HSC.out] at hc
    have HC := Lib.hid hc
    clear hc
    go_wp2_with fail
    refine Calls.mono HC.out ?_
    rintro e w7 ⟨v1, rfl, hr7, hk7⟩
    have HK7 := Lib.hid (HB6.out.kept hk7).1.keeps
    obtain ⟨ao, c2, rfl⟩ := hr7.slice
    clear hr7 hk7 HC HC6 HB6 HSZ HSC HQ HU
    obtain ⟨h1, h2⟩ := HN.out
    rw [h1, h2]
    clear h1 h2 HN
    have h48 : (48 : Int) - (r : Int) = (pn : Int) := by omega
    go_wp2
    go_ret
    exact ⟨rfl, HK7.out⟩
end
end Go.Proofs.YtpeclkhppgabfaaDoor
