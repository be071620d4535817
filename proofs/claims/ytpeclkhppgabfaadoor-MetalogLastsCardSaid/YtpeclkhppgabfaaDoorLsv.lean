/- MetalogLasts' walk. -/
import Derived.Test.YtpeclkhppgabfaaDoorLsp
import Derived.Test.YtpeclkhppgabfaaDoorAnx
import Derived.Test.YtpeclkhppgabfaaDoorPbB
namespace Go.Proofs.YtpeclkhppgabfaaDoor
open Go.RowKit
set_option linter.unusedVariables false
set_option linter.unusedSimpArgs false
section
set_option maxHeartbeats 8000000
set_option maxRecDepth 100000
theorem law_lasts9 (v : Value) (L : List (List Int)) (a1 m a3 : Int) (w : World) (hs : RSrc w v L) (hm : 0 ≤ m ∧ m < 18446744073709551616) : Calls Tryd.prog 12 #[v, .int .i64 a1, .int .u64 m, .int .i64 a3] w fun e w' => e = .returned (.bool true) ∧ Kept w w' := by
  have HS := Lib.hid hs
  have HM := Lib.hid hm
  clear hm
  obtain ⟨oa, cap0, rfl, _, _, _⟩ := hs
  obtain ⟨ga, hga, hgal⟩ := and_low a1 7 (by decide) (m := 127) (by decide)
  have hgl : ga < 128 := hgal
  clear hgal
  obtain ⟨gd, hgd, hgdl⟩ := and_low a3 2 (by decide) (m := 3) (by decide)
  clear hgdl
  go_enter Tryd.func12, Tryd.ntmps12
  go_wp2_with fail
  refine Calls.mono (law_shown09 _) ?_
  rintro e w1 ⟨rfl, hk1⟩
  have HK1 := Lib.hid hk1
  clear hk1
  go_wp2_with fail
  refine Calls.mono (bank09 3 (by decide) w w1 (fun k => k ∈ ([] : List Nat)) HK1.out (fun k h => by cases h)) ?_
  rintro e w2 ⟨q, rfl, hb2, _⟩
  have HB2 := Lib.hid hb2
  clear hb2 HK1
  go_wp2_with (refine stop_at (o := ⟨some 31, _, _, _, _, _⟩) ?_)
  refine Stop.mk ?_
  refine wpList_lit_ints rfl 3 (by decide) _ rfl [0, 1, 2] (by kernel_rfl) ?_
  intro w3 hz3 hs3 hk3
  have HC3 := Lib.hid (by simpa using Cells.of_block hz3.out : Cells w3 w2.heap.size 0 (ints [0, 1, 2]))
  have HB3 := Lib.hid (HB2.out.pushR hk3 w2.heap.size (Nat.le_refl _) hs3)
  generalize w2.heap.size = B at *
  clear hz3 hk3 HB2
  go_wp2_with fail
  refine Calls.mono (meta_New q B 3 [0, 1, 2] 5 w3 (by decide) (by decide) (by decide) HC3.out) ?_
  rintro e w4 ⟨p, lg, cap, rfl, hl4, hlg, hlp, hps, hk4⟩
  have HB4 : Hid (BK w (fun k => k ∈ [p, lg, B]) w4 q (addZ 200 3)) := Lib.hid (HB3.out.pushRs hk4 [p, lg] (by intro k hk; simp at hk; rcases hk with rfl | rfl <;> omega))
  have HL4 := Lib.hid hl4
  have HP := Lib.hid (And.intro (Nat.le_trans HB3.out.keeps.size (Nat.le_trans hlg (Nat.le_of_lt hlp))) (Nat.ne_of_lt hlp))
  have HBP : Hid (B ≠ p) := Lib.hid (by omega)
  have HC4 := Lib.hid (HC3.out.kept hk4)
  clear hl4 hlg hlp hps hk4 hs3 HB3 HC3
  go_wp2_with (refine stop_at (o := ⟨some 40, _, _, _, _, _⟩) ?_)
  refine Stop.mk ?_
  try simp only [hga]
  have hc := bk_Arm HB4.out (1 + (ga : Int)) m
  have HCA := Lib.hid hc
  clear hc
  go_wp2_with fail
  refine Calls.mono HCA.out ?_
  rintro e w5 ⟨rfl, hb5, hs5⟩
  have HB5 : Hid (BK w (fun k => k ∈ [p, lg, B] ∨ (Value.slice none 0 0).ownBlock = some k) w5 q ((addZ 200 3).arm (1 + (ga : Int)) m)) := Lib.hid (hb5.less fun k hk => by
    rcases hk with hk | hk
    · exact hk
    · simp [Value.ownBlock] at hk)
  have HL5 := Lib.hid (HL4.out.same hs5 (by simp) (by simp))
  have HC5 := Lib.hid (hs5.cells (B := B) (by simp) HC4.out)
  have HE5 := Lib.hid (OwnG.nil w w5 9)
  have HJ5 := Lib.hid (JA.start (n := 1 + (ga : Int)) (m := m) ⟨by omega, by omega⟩ HM.out 5)
  clear hb5 hs5 HCA HB4 HL4 HC4
  obtain ⟨wa, rfl⟩ : ∃ wa, wa = w5 := ⟨_, rfl⟩
  go_upto_block 0 with fail
  go_cut [13, 14, 15] (fun ev uv sv wc => ∃ (ve : Value) (is : Bool) (und : ByteArray) (R : List (List Int)) (b : List Int) (T : BankT) (t nn : Nat), ve = ev ∧ uv = .string und ∧ sv = .bool is ∧ t ≤ 200 ∧ nn ≤ 10 ∧ Hid (R.length = nn) ∧ Hid (RecsOk R) ∧ Hid ((is = false ∧ JA T t 5 R) ∨ (is = true ∧ und = strB b ∧ FJ T t 5 R b)) ∧ Hid (BK w (fun k => k ∈ [p, lg, B] ∨ ve.ownBlock = some k) wc q T) ∧ Hid (Cells wc B 0 (ints [0, 1, 2])) ∧ Hid (OwnG w wc 9 ve (strsL R)))
  case first =>
    go_wp2
    go_loopw [13, 14, 15, 16] (fun ev uv sv i wr => ∃ (ve : Value) (k : Nat) (R : List (List Int)) (T : BankT) (t pn : Nat), k ≤ L.length ∧ k ≤ 10 ∧ ve = ev ∧ uv = .string ⟨#[]⟩ ∧ sv = .bool false ∧ i = .int .i64 k ∧ pn ≤ 4 * k ∧ t ≤ 12 * k ∧ Hid (R.length = k ∧ posN R = pn) ∧ Hid (JA T t 5 R) ∧ Hid (BK w (fun k => k ∈ [p, lg, B] ∨ ve.ownBlock = some k) wr q T) ∧ Hid (LogD wr p q lg cap [0, 1, 2] ⟨5, k, pn, false⟩) ∧ Hid (Cells wr B 0 (ints [0, 1, 2])) ∧ Hid (OwnG w wr 9 ve (strsL R)) ∧ Hid (ve.ownBlock ≠ some p ∧ ve.ownBlock ≠ some lg ∧ ve.ownBlock ≠ some B)) (fun _ _ _ i _ => L.length - (intOf i).toNat)
    case atStart => exact ⟨_, 0, [], _, 0, 0, Nat.zero_le _, by decide, rfl, rfl, rfl, rfl, by decide, by decide, Lib.hid ⟨rfl, rfl⟩, HJ5, HB5, HL5, HC5, HE5, Lib.hid ⟨by simp [Value.ownBlock], by simp [Value.ownBlock], by simp [Value.ownBlock]⟩⟩
    case round =>
      clear HJ5 HB5 HL5 HC5 HE5
      obtain ⟨ve, k, R, T, t, pn, hk, hk8, rfl, rfl, rfl, rfl, hpn, ht, HN, HQ, HB, HL, HC, HE, HNE⟩ := hrel
      by_cases hlt : k < L.length ∧ k < 10
      · obtain ⟨hlt, h8⟩ := hlt
        obtain ⟨b, off, ax, ck, rfl, g1, hsrc⟩ := HS.out.at k hlt
        obtain ⟨x, hx⟩ : ∃ x, x = L[k] := ⟨_, rfl⟩
        rw [← hx] at g1 hsrc
        obtain ⟨nk, hnk⟩ : ∃ nk, nk = x.length := ⟨_, rfl⟩
        rw [← hnk] at g1 hsrc
        obtain ⟨kk, hkk⟩ : ∃ kk, kk = min nk 200 := ⟨_, rfl⟩
        obtain ⟨hn0, hkc, hh, hhl⟩ := hsrc.head kk (by omega)
        generalize x.take kk = xk at *
        have hma : min (nk : Int) 200 = (kk : Int) := by omega
        have hk200 : kk ≤ 200 := by omega
        obtain ⟨pt, hpt⟩ : ∃ pt, partsN kk = pt := ⟨_, rfl⟩
        have hp4 := partsY hk200
        rw [hpt] at hp4
        have HG := Lib.hid g1
        have HH := Lib.hid hh
        have HHL := Lib.hid hhl
        have HPT := Lib.hid hpt
        clear hn0 hx hnk hsrc hkk hh hhl hpt g1
        have hstep := HQ.out.step (b := xk) (by rw [HHL.out]; omega) HH.out.2 HN.out (pt := pt) (by rw [HHL.out]; exact HPT.out) (by omega)
        have HST := Lib.hid hstep
        have HU := Lib.hid (HQ.out.arm.useN (by decide) 100 (by omega))
        clear hstep
        go_upto_region 16 with fail
        refine wp_still_all (by kernel_rfl) (by kernel_rfl) fun ws hks hhs => ?_
        have HBs := Lib.hid (HB.out.kept hks).1
        have hgs := HBs.out.keeps.cell' HG.out
        have HLs := Lib.hid (HL.out.kept hks)
        have HEs := Lib.hid (HE.out.kept hks)
        have HCs := Lib.hid (HC.out.kept hks)
        clear hks hhs HB HL HE HC
        iterate 10 still_step
        refine still_slice_to rfl _ _ rfl ax nk ck rfl kk rfl hkc ?_
        iterate 1 still_step
        refine wpStill_nil ?_
        clear hgs
        have hc := meta_Append HBs.out HLs.out (.inl (by simp)) (.inl (by simp)) HP.out.1 HP.out.2 (.slice ax kk ck) xk (by rw [HHL.out]; have := HH.out.1.kept HBs.out.keeps; rw [HHL.out] at this; exact this) (by rw [HHL.out]; omega) HH.out.2 (by decide) (HU.out.less (by rw [HHL.out, HPT.out]; show 3 * pt ≤ 100; omega)) ⟨by show (0 : Int) ≤ 5; decide, by show (5 : Int) < 4294967296; decide⟩ (by show k < 1000; omega) (by show pn ≤ 48; omega)
        rcases HST.out with ⟨T5, e5, hj5, hn5⟩ | ⟨T5, e5, hf5⟩
        · rw [e5] at hc
          have HCA := Lib.hid hc
          have HJ6 := Lib.hid hj5
          have HN6 := Lib.hid hn5
          clear hc e5 hj5 hn5 HST
          go_wp2_with fail
          refine Calls.mono HCA.out ?_
          rintro e w7 ⟨rfl, hb7, hl7, hs7⟩
          have HB7 : Hid (BK w (fun k => k ∈ [p, lg, B] ∨ ve.ownBlock = some k) w7 q T5) := Lib.hid hb7
          have HL7 : Hid (LogD w7 p q lg cap [0, 1, 2] ⟨5, k + 1, pn + pt, false⟩) := Lib.hid hl7
          have HE7 := Lib.hid (HEs.out.same fun g hg => hs7 g ⟨.inr hg, fun e => HNE.out.1 (e ▸ hg)⟩)
          have HC7 := Lib.hid (hs7.cells (B := B) ⟨.inl (by simp), HBP.out⟩ HCs.out)
          clear hb7 hl7 hs7 HCA HBs HLs HEs HCs
          have HSX := Lib.hid (HH.out.1.kept HB7.out.keeps)
          go_wp2_with (refine stop_at (o := ⟨some 77, _, _, _, _, _⟩) ?_)
          refine Stop.mk ?_
          refine wpList_conv_str rfl _ rfl (.slice ax kk ck) rfl xk (by have := HSX.out; rw [HHL.out]; rw [HHL.out] at this; exact this) HH.out.2 ?_
          refine wpList_oneG Tryd.underlying43 str_infoG (by decide) rfl _ rfl (.string (strB xk)) rfl rfl ?_
          intro w9 hz9 hs9 hk9
          have HB9 := Lib.hid (HB7.out.kept hk9).1
          have HL9 := Lib.hid (HL7.out.kept hk9)
          have HC9 := Lib.hid (HC7.out.kept hk9)
          have HE9 := Lib.hid (HE7.out.kept hk9)
          generalize w7.heap.size = X at *
          clear hs9 hk9 HB7 HL7 HE7 HC7
          go_wp2_with (refine stop_at (o := ⟨some 79, _, _, _, _, _⟩) ?_)
          refine Stop.mk ?_
          refine wpList_appendG ty_strsG (by decide) rfl _ _ rfl (strsL R) rfl HE9.out (by rw [strsL_len, HN.out.1]; omega) X rfl (.string (strB xk)) rfl hz9.out HB9.out.keeps ?_
          intro ev' w10 hown hgr
          have HE10 : Hid (OwnG w w10 9 ev' (strsL (R ++ [xk]))) := Lib.hid (by rw [strsL_snoc]; exact hown)
          have HB10 : Hid (BK w (fun k => k ∈ [p, lg, B] ∨ ev'.ownBlock = some k) w10 q T5) := Lib.hid ((HB9.out.grwG hgr (fun k hk => .inr hk) HE9.out.new).less fun k hk => by
            rcases hk with hk | hk
            · exact .inl (.inl hk)
            · exact .inr hk)
          have HL10 := Lib.hid (HL9.out.grownY hgr (HB9.out.ltR (.inl (by simp))) (HB9.out.ltR (.inl (by simp))) HNE.out.1 HNE.out.2.1)
          have HC10 : Hid (Cells w10 B 0 (ints [0, 1, 2])) := Lib.hid (fun k hk => (World.cell?_of_block (a := ⟨B, 0 + k, none⟩) (hgr.blk (HB9.out.ltR (.inl (by simp))) HNE.out.2.2)).trans (HC9.out k hk))
          have HNE10 : Hid (ev'.ownBlock ≠ some p ∧ ev'.ownBlock ≠ some lg ∧ ev'.ownBlock ≠ some B) := Lib.hid ⟨hgr.neY (HB9.out.ltR (.inl (by simp))) HNE.out.1, hgr.neY (HB9.out.ltR (.inl (by simp))) HNE.out.2.1, hgr.neY (HB9.out.ltR (.inl (by simp))) HNE.out.2.2⟩
          clear hown hgr hz9 HB9 HL9 HE9 HC9 HU HG
          go_wp2
          go_roundw
          case rel => exact ⟨_, k + 1, _, T5, t + 3 * pt, pn + pt, hlt, h8, rfl, rfl, rfl, by go_num, by omega, by omega, HN6, HJ6, HB10, HL10, HC10, HE10, HNE10⟩
          case measure => simp [intOf]; omega
        · rw [e5] at hc
          have HCA := Lib.hid hc
          have HF6 := Lib.hid hf5
          clear hc e5 hf5 HST
          go_wp2_with fail
          refine Calls.mono HCA.out ?_
          rintro e w7 ⟨rfl, hb7, hl7, hs7⟩
          have HB7 : Hid (BK w (fun k => k ∈ [p, lg, B] ∨ ve.ownBlock = some k) w7 q T5) := Lib.hid hb7
          have HE7 := Lib.hid (HEs.out.same fun g hg => hs7 g ⟨.inr hg, fun e => HNE.out.1 (e ▸ hg)⟩)
          have HC7 := Lib.hid (hs7.cells (B := B) ⟨.inl (by simp), HBP.out⟩ HCs.out)
          clear hb7 hl7 hs7 HCA HBs HLs HEs HCs
          have HSX := Lib.hid (HH.out.1.kept HB7.out.keeps)
          go_wp2_with (refine stop_at (o := ⟨some 70, _, _, _, _, _⟩) ?_)
          refine Stop.mk ?_
          refine wpList_conv_str rfl _ rfl (.slice ax kk ck) rfl xk (by have := HSX.out; rw [HHL.out]; rw [HHL.out] at this; exact this) HH.out.2 ?_
          go_wp2
          go_meet
          case rel => exact ⟨_, true, strB xk, R, xk, T5, t + 3 * pt, k, rfl, rfl, rfl, by omega, by omega, Lib.hid HN.out.1, Lib.hid HQ.out.ok, Lib.hid (.inr ⟨rfl, rfl, HF6.out⟩), HB7, HC7, HE7⟩
      · have hkk : L.length ≤ k ∨ (k < L.length ∧ 10 ≤ k) := by omega
        clear hlt
        rcases hkk with hkk | ⟨hkk, h8⟩
        all_goals
          go_wp2
          go_meet
          case rel => exact ⟨_, false, _, R, [], T, t, k, rfl, rfl, rfl, by omega, hk8, Lib.hid HN.out.1, Lib.hid HQ.out.ok, Lib.hid (.inl ⟨rfl, HQ.out⟩), HB, HC, HE⟩
  case rest =>
    clear HJ5 HB5 HL5 HC5 HE5 HS
    obtain ⟨ve, is, und, R, b, T, t, nn, rfl, rfl, rfl, ht, hnn, HN, HOK, HD, HB, HC, HE⟩ := hcut
    have hnn2 : (nn : Int) + 1 ≤ 11 := by omega
    rcases HD.out with ⟨rfl, hj⟩ | ⟨rfl, rfl, hf⟩
    · have HJ := Lib.hid hj
      have hdn : (!T.down) = true := by rw [hj.arm.up]; rfl
      have hup := bk_Up HB.out
      rw [hdn] at hup
      have HUP := Lib.hid hup
      obtain ⟨hq, ho, ha⟩ := hj.crash m
      have HQS := Lib.hid hq
      have HOA := Lib.hid (And.intro ho ha)
      have HCR := Lib.hid (bk_Crash HB.out (hj.arm.useN (by decide) 0 (by omega)).use m HM.out.1 HM.out.2)
      clear hj hdn hup hq ho ha HD
      go_wp2_with fail
      refine Calls.mono HUP.out ?_
      rintro e w6 ⟨rfl, rfl⟩
      go_wp2_with fail
      refine Calls.mono HCR.out ?_
      rintro e w6 ⟨rfl, hb6, hs6⟩
      have HB6 := Lib.hid hb6
      have HC6 := Lib.hid (hs6.cells (B := B) (.inl (by simp)) HC.out)
      have HE6 := Lib.hid (HE.out.same fun g hg => hs6 g (.inr hg))
      clear hb6 hs6 HUP HCR HB HC HE
      go_wp2_with fail
      refine Calls.mono (bk_Start HB6.out) ?_
      rintro e w7 ⟨rfl, hb7, hs7⟩
      have HBS : Hid (BK w (fun k => k ∈ [p, lg, B] ∨ ve.ownBlock = some k) w7 q (T.crash m).start) := Lib.hid hb7
      have HCS := Lib.hid (hs7.cells (B := B) (.inl (by simp)) HC6.out)
      have HES := Lib.hid (HE6.out.same fun g hg => hs7 g (.inr hg))
      clear hb7 hs7 HB6 HC6 HE6
      obtain ⟨S1, e1, he1, hq1⟩ := HQS.out.fails gd
      have hc := bk_Fail HBS.out (HQS.out.use (by decide) (by omega)) (gd : Int)
      rw [he1] at hc
      have HCA := Lib.hid hc
      have HQ1 := Lib.hid hq1
      clear hc he1 hq1
      go_wp2_with (refine stop_at (o := ⟨some 89, _, _, _, _, _⟩) ?_)
      refine Stop.mk ?_
      try simp only [hgd]
      go_wp2_with fail
      refine Calls.mono HCA.out ?_
      rintro e w8 ⟨rfl, hb8, hs8⟩
      have HB8 : Hid (BK w (fun k => k ∈ [p, lg, B] ∨ ve.ownBlock = some k) w8 q S1) := Lib.hid hb8
      have HC8 := Lib.hid (hs8.cells (B := B) (.inl (by simp)) HCS.out)
      have HE8 := Lib.hid (HES.out.same fun g hg => hs8 g (.inr hg))
      clear hb8 hs8 HCA HBS HCS HES HQS
      have hsc := last_scan0 HQ1.out filt3 (by decide) HOK.out HOA.out.1 HOA.out.2 (gen := 5)
      have hc := meta_Scan HB8.out (HQ1.out.use (by decide) (by omega)) B 3 [0, 1, 2] HC8.out (HB8.out.ltR (.inl (by simp))) (by decide) 5
      rw [hsc] at hc
      have HCA := Lib.hid hc
      clear hc hsc
      go_wp2_with fail
      refine Calls.mono HCA.out ?_
      rintro e w9 ⟨v1, rfl, hr9, hk9⟩
      have HK9 := Lib.hid (HB8.out.kept hk9).1.keeps
      have HE9 := Lib.hid (HE8.out.kept hk9)
      obtain ⟨ao1, c2, rfl, hrow⟩ := hr9.form
      have HROW := Lib.hid hrow
      obtain ⟨ao, cp, rfl, hce⟩ := HE9.out.form
      have HCE := Lib.hid hce
      have HLE := Lib.hid ((strsL_len R).trans HN.out)
      rw [HLE.out]
      clear hr9 hk9 HCA hrow hce HE9 HB8 HC8 HE8 HQ1
      rw [HN.out]
      go_wp2
      go_loopw [22] (fun i wr => ∃ j : Nat, j ≤ nn ∧ i = .int .i64 j ∧ Hid (Kept w9 wr)) (fun i _ => nn - (intOf i).toNat)
      case atStart => exact ⟨0, Nat.zero_le _, rfl, Lib.hid (Kept.refl _)⟩
      case round =>
        obtain ⟨j, hj, rfl, HKM⟩ := hrel
        by_cases hml : j < nn
        · obtain ⟨g2, bv, rfl, hb2, hsr⟩ := HROW.out j (by rw [HN.out]; exact hml)
          skip
          obtain ⟨g3, rfl, hb3⟩ := HCE.out j (by rw [HLE.out]; exact hml)
          rw [strsL_at] at hb3
          have hby : ∀ y ∈ R.getD j [], IsByte y := HOK.out.byte _ (getD_mem (by rw [HN.out]; exact hml))
          skip
          generalize R.getD j [] = xm at *
          have HB2 := Lib.hid hb2
          have HB3 := Lib.hid hb3
          have HSR := Lib.hid hsr
          have HBY := Lib.hid hby
          clear hb2 hb3 hsr hby
          go_wp2
          refine wp_still_all (by kernel_rfl) (by kernel_rfl) fun ws hks hhs => ?_
          have hk2 := HKM.out.trans hks
          have d1 := hk2.cell' HB2.out
          have d2 := hk2.cell' HB3.out
          have HKW := Lib.hid hk2
          have HSX := Lib.hid (HSR.out.kept hk2)
          clear hks hhs hk2
          iterate 4 still_step
          refine still_conv_str rfl _ rfl bv rfl xm HSX.out HBY.out ?_
          iterate 5 still_step
          refine wpStill_nil ?_
          clear d1 d2
          go_wp2
          go_roundw
          case rel => exact ⟨j + 1, hml, by go_num, HKW⟩
          case measure => simp [intOf]; omega
        · have hge : nn ≤ j := by omega
          have HKW := Lib.hid (HK9.out.trans HKM.out)
          clear hml
          go_wp2
          go_ret
          exact ⟨rfl, HKW.out⟩
    · have HF := Lib.hid hf
      have hdn : (!T.down) = false := by rw [hf.down]; rfl
      have hup := bk_Up HB.out
      rw [hdn] at hup
      have HUP := Lib.hid hup
      have HQS := Lib.hid hf.quiet
      clear hf hdn hup HD
      go_wp2_with fail
      refine Calls.mono HUP.out ?_
      rintro e w6 ⟨rfl, rfl⟩
      go_wp2_with fail
      refine Calls.mono (bk_Start HB.out) ?_
      rintro e w7 ⟨rfl, hb7, hs7⟩
      have HBS : Hid (BK w (fun k => k ∈ [p, lg, B] ∨ ve.ownBlock = some k) w7 q T.start) := Lib.hid hb7
      have HCS := Lib.hid (hs7.cells (B := B) (.inl (by simp)) HC.out)
      have HES := Lib.hid (HE.out.same fun g hg => hs7 g (.inr hg))
      clear hb7 hs7 HUP HB HC HE
      obtain ⟨S1, e1, he1, hq1⟩ := HQS.out.fails gd
      have hc := bk_Fail HBS.out (HQS.out.use (by decide) (by omega)) (gd : Int)
      rw [he1] at hc
      have HCA := Lib.hid hc
      have HQ1 := Lib.hid hq1
      clear hc he1 hq1
      go_wp2_with (refine stop_at (o := ⟨some 89, _, _, _, _, _⟩) ?_)
      refine Stop.mk ?_
      try simp only [hgd]
      go_wp2_with fail
      refine Calls.mono HCA.out ?_
      rintro e w8 ⟨rfl, hb8, hs8⟩
      have HB8 : Hid (BK w (fun k => k ∈ [p, lg, B] ∨ ve.ownBlock = some k) w8 q S1) := Lib.hid hb8
      have HC8 := Lib.hid (hs8.cells (B := B) (.inl (by simp)) HCS.out)
      have HE8 := Lib.hid (HES.out.same fun g hg => hs8 g (.inr hg))
      clear hb8 hs8 HCA HBS HCS HES HQS
      obtain ⟨S, pos, hsc, hS⟩ := last_scan HQ1.out filt3 (by decide) HF.out.ok HF.out.only HF.out.all (gen := 5)
      rcases hS with hS | rfl
      · obtain rfl := hS.symm
        have hc := meta_Scan HB8.out (HQ1.out.use (by decide) (by omega)) B 3 [0, 1, 2] HC8.out (HB8.out.ltR (.inl (by simp))) (by decide) 5
        rw [hsc] at hc
        have HCA := Lib.hid hc
        clear hc hsc
        go_wp2_with fail
        refine Calls.mono HCA.out ?_
        rintro e w9 ⟨v1, rfl, hr9, hk9⟩
        have HK9 := Lib.hid (HB8.out.kept hk9).1.keeps
        have HE9 := Lib.hid (HE8.out.kept hk9)
        obtain ⟨ao1, c2, rfl, hrow⟩ := hr9.form
        have HROW := Lib.hid hrow
        obtain ⟨ao, cp, rfl, hce⟩ := HE9.out.form
        have HCE := Lib.hid hce
        have HLE := Lib.hid ((strsL_len R).trans HN.out)
        rw [HLE.out]
        clear hr9 hk9 HCA hrow hce HE9 HB8 HC8 HE8 HQ1
        rw [HN.out]
        go_wp2
        go_loopw [22] (fun i wr => ∃ j : Nat, j ≤ nn ∧ i = .int .i64 j ∧ Hid (Kept w9 wr)) (fun i _ => nn - (intOf i).toNat)
        case atStart => exact ⟨0, Nat.zero_le _, rfl, Lib.hid (Kept.refl _)⟩
        case round =>
          obtain ⟨j, hj, rfl, HKM⟩ := hrel
          by_cases hml : j < nn
          · obtain ⟨g2, bv, rfl, hb2, hsr⟩ := HROW.out j (by rw [HN.out]; exact hml)
            skip
            obtain ⟨g3, rfl, hb3⟩ := HCE.out j (by rw [HLE.out]; exact hml)
            rw [strsL_at] at hb3
            have hby : ∀ y ∈ R.getD j [], IsByte y := HOK.out.byte _ (getD_mem (by rw [HN.out]; exact hml))
            skip
            generalize R.getD j [] = xm at *
            have HB2 := Lib.hid hb2
            have HB3 := Lib.hid hb3
            have HSR := Lib.hid hsr
            have HBY := Lib.hid hby
            clear hb2 hb3 hsr hby
            go_wp2
            refine wp_still_all (by kernel_rfl) (by kernel_rfl) fun ws hks hhs => ?_
            have hk2 := HKM.out.trans hks
            have d1 := hk2.cell' HB2.out
            have d2 := hk2.cell' HB3.out
            have HKW := Lib.hid hk2
            have HSX := Lib.hid (HSR.out.kept hk2)
            clear hks hhs hk2
            iterate 4 still_step
            refine still_conv_str rfl _ rfl bv rfl xm HSX.out HBY.out ?_
            iterate 5 still_step
            refine wpStill_nil ?_
            clear d1 d2
            go_wp2
            go_roundw
            case rel => exact ⟨j + 1, hml, by go_num, HKW⟩
            case measure => simp [intOf]; omega
          · have hge : nn ≤ j := by omega
            have HKW := Lib.hid (HK9.out.trans HKM.out)
            clear hml
            go_wp2
            go_ret
            exact ⟨rfl, HKW.out⟩
      · skip
        have hc := meta_Scan HB8.out (HQ1.out.use (by decide) (by omega)) B 3 [0, 1, 2] HC8.out (HB8.out.ltR (.inl (by simp))) (by decide) 5
        rw [hsc] at hc
        have HCA := Lib.hid hc
        clear hc hsc
        go_wp2_with fail
        refine Calls.mono HCA.out ?_
        rintro e w9 ⟨v1, rfl, hr9, hk9⟩
        have HK9 := Lib.hid (HB8.out.kept hk9).1.keeps
        have HE9 := Lib.hid (HE8.out.kept hk9)
        obtain ⟨ao1, c2, rfl, hrow⟩ := hr9.form
        have HROW := Lib.hid hrow
        obtain ⟨ao, cp, rfl, hce⟩ := HE9.out.form
        have HCE := Lib.hid hce
        have HLE := Lib.hid ((strsL_len R).trans HN.out)
        rw [HLE.out]
        clear hr9 hk9 HCA hrow hce HE9 HB8 HC8 HE8 HQ1
        have HSL : Hid ((R ++ [b]).length = nn + 1) := Lib.hid (by rw [List.length_append, HN.out]; rfl)
        obtain ⟨g4, bv4, rfl, hb4, hsr4⟩ := HROW.out nn (by rw [HSL.out]; omega)
        rw [getD_append_r (by rw [HN.out]; omega), HN.out, Nat.sub_self] at hsr4
        have HSR4 : Hid (Src w9 1 bv4 b.length (u8s b)) := Lib.hid hsr4
        have HBY4 : Hid (∀ y ∈ b, IsByte y) := Lib.hid (HF.out.ok.byte b (by simp))
        rw [HSL.out]
        clear hsr4 HF
        go_wp2_with (refine stop_at (o := ⟨some 130, _, _, _, _, _⟩) ?_)
        refine Stop.mk ?_
        refine wpList_conv_str rfl _ rfl bv4 rfl b HSR4.out HBY4.out ?_
        clear hb4
        go_wp2
        go_loopw [22] (fun i wr => ∃ j : Nat, j ≤ nn ∧ i = .int .i64 j ∧ Hid (Kept w9 wr)) (fun i _ => nn - (intOf i).toNat)
        case atStart => exact ⟨0, Nat.zero_le _, rfl, Lib.hid (Kept.refl _)⟩
        case round =>
          obtain ⟨j, hj, rfl, HKM⟩ := hrel
          by_cases hml : j < nn
          · obtain ⟨g2, bv, eg, hb2, hsr⟩ := HROW.out j (by rw [List.length_append, HN.out]; omega)
            obtain rfl : g4 = g2 := by simpa using eg
            have hj1 : (j : Int) < (nn : Int) + 1 := by omega
            obtain ⟨g3, rfl, hb3⟩ := HCE.out j (by rw [HLE.out]; exact hml)
            rw [strsL_at] at hb3
            have hby : ∀ y ∈ R.getD j [], IsByte y := HOK.out.byte _ (getD_mem (by rw [HN.out]; exact hml))
            rw [getD_append_l (by rw [HN.out]; exact hml)] at hsr
            generalize R.getD j [] = xm at *
            have HB2 := Lib.hid hb2
            have HB3 := Lib.hid hb3
            have HSR := Lib.hid hsr
            have HBY := Lib.hid hby
            clear hb2 hb3 hsr hby
            go_wp2
            refine wp_still_all (by kernel_rfl) (by kernel_rfl) fun ws hks hhs => ?_
            have hk2 := HKM.out.trans hks
            have d1 := hk2.cell' HB2.out
            have d2 := hk2.cell' HB3.out
            have HKW := Lib.hid hk2
            have HSX := Lib.hid (HSR.out.kept hk2)
            clear hks hhs hk2
            iterate 4 still_step
            refine still_conv_str rfl _ rfl bv rfl xm HSX.out HBY.out ?_
            iterate 5 still_step
            refine wpStill_nil ?_
            clear d1 d2
            go_wp2
            go_roundw
            case rel => exact ⟨j + 1, hml, by go_num, HKW⟩
            case measure => simp [intOf]; omega
          · have hge : nn ≤ j := by omega
            have HKW := Lib.hid (HK9.out.trans HKM.out)
            clear hml
            go_wp2
            go_ret
            exact ⟨rfl, HKW.out⟩
end
end Go.Proofs.YtpeclkhppgabfaaDoor
