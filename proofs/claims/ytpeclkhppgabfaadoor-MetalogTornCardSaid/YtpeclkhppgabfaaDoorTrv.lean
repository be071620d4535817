/- MetalogTorn's walk. -/
import Derived.Test.YtpeclkhppgabfaaDoorTrp
import Derived.Test.YtpeclkhppgabfaaDoorGrs
import Derived.Test.YtpeclkhppgabfaaDoorMkb
import Derived.Test.YtpeclkhppgabfaaDoorPbB
import Derived.Test.YtpeclkhppgabfaaDoorIrw
namespace Go.Proofs.YtpeclkhppgabfaaDoor
open Go.RowKit
set_option linter.unusedVariables false
set_option linter.unusedSimpArgs false
theorem partsT {n : Nat} (h : n ≤ 200) : 1 ≤ partsN n ∧ partsN n ≤ 4 := by unfold partsN; split <;> omega
/-- where each record ends -/
def endsL (R : List (List Int)) : List Value := (List.range R.length).map fun (r : Nat) => .int .i64 (posN (R.take (r + 1)) : Int)
theorem endsL_len (R : List (List Int)) : (endsL R).length = R.length := by simp [endsL]
theorem endsL_at (R : List (List Int)) {r : Nat} (h : r < (endsL R).length) : (endsL R)[r] = .int .i64 (posN (R.take (r + 1)) : Int) := by simp [endsL]
theorem endsL_snoc (R : List (List Int)) (b : List Int) : endsL (R ++ [b]) = endsL R ++ [.int .i64 (posN (R ++ [b]) : Int)] := by
  unfold endsL
  rw [List.length_append, List.length_singleton, List.range_succ, List.map_append]
  congr 1
  · refine List.map_congr_left fun r hr => ?_
    rw [List.mem_range] at hr
    rw [List.take_append_of_le_length (by omega)]
  · simp only [List.map_cons, List.map_nil]
    rw [List.take_of_length_le (by simp)]
theorem Grw.ne {W W' : World} {v v' : Value} (hg : Grw W W' v v') {b : Nat} (hb : b < W.heap.size) (h : v.ownBlock ≠ some b) : v'.ownBlock ≠ some b := by
  rcases hg with ⟨e, _⟩ | ⟨g, e, h1, _, _⟩
  · rw [e]; exact h
  · rw [e]; intro e2; injection e2 with e2; omega
theorem LogD.grown {W W' : World} {v v' : Value} {p q lg c : Nat} {L : List Int} {t : LogT} (h : LogD W p q lg c L t) (hg : Grw W W' v v') (hp : p < W.heap.size) (hl : lg < W.heap.size) (h1 : v.ownBlock ≠ some p) (h2 : v.ownBlock ≠ some lg) : LogD W' p q lg c L t :=
  h.same (R := fun k => k = p ∨ k = lg) (fun k hk => by
    rcases hk with rfl | rfl
    · exact hg.blk hp h1
    · exact hg.blk hl h2) (.inl rfl) (.inr rfl)
section
set_option maxHeartbeats 4000000
set_option maxRecDepth 100000
theorem law_torn9 (v : Value) (L : List (List Int)) (a1 : Int) (w : World) (hs : RSrc w v L) : Calls Tryd.prog 11 #[v, .int .i64 a1] w fun e w' => e = .returned (.bool true) ∧ Kept w w' := by
  have HS := Lib.hid hs
  obtain ⟨oa, cap0, rfl, _, _, _⟩ := hs
  obtain ⟨ga, hga, hgal⟩ := and_low a1 8 (by decide) (m := 255) (by decide)
  clear hgal
  go_enter Tryd.func11, Tryd.ntmps11
  go_wp2_with fail
  refine Calls.mono (law_shown09 _) ?_
  rintro e w1 ⟨rfl, hk1⟩
  have HK1 := Lib.hid hk1
  clear hk1
  go_wp2_with fail
  refine Calls.mono (bank09 1 (by decide) w w1 (fun k => k ∈ ([] : List Nat)) HK1.out (fun k h => by cases h)) ?_
  rintro e w2 ⟨q, rfl, hb2, _⟩
  have HB2 := Lib.hid hb2
  clear hb2 HK1
  go_wp2_with (refine stop_at (o := ⟨some 26, _, _, _, _, _⟩) ?_)
  refine Stop.mk ?_
  refine wpList_lit_ints rfl 1 (by decide) _ rfl [0] (by kernel_rfl) ?_
  intro w3 hz3 hs3 hk3
  have HC3 := Lib.hid (by simpa using Cells.of_block hz3.out : Cells w3 w2.heap.size 0 (ints [0]))
  have HB3 := Lib.hid (HB2.out.kept hk3).1
  generalize w2.heap.size = B at *
  clear hz3 hs3 hk3 HB2
  go_wp2_with fail
  refine Calls.mono (meta_New q B 1 [0] 3 w3 (by decide) (by decide) (by decide) HC3.out) ?_
  rintro e w4 ⟨p, lg, cap, rfl, hl4, hlg, hlp, hps, hk4⟩
  have hb4 := HB3.out.pushRs hk4 [p, lg] (by intro k hk; simp at hk; rcases hk with rfl | rfl <;> omega)
  have HB4 : Hid (BK w (fun k => k ∈ [p, lg] ∨ (Value.slice none 0 0).ownBlock = some k) w4 q (addZ 200 1)) := Lib.hid (hb4.less fun k hk => by
    rcases hk with hk | hk
    · exact hk
    · simp [Value.ownBlock] at hk)
  have HL4 := Lib.hid hl4
  have HP := Lib.hid (And.intro (Nat.le_trans HB3.out.keeps.size (Nat.le_trans hlg (Nat.le_of_lt hlp))) (Nat.ne_of_lt hlp))
  have HE4 := Lib.hid (OwnG.nil w w4 3)
  clear hl4 hlg hlp hps hk4 hb4 HB3 HC3
  have HQ4 := Lib.hid (LogQ.start (n := 1) (by decide) [0] 3)
  obtain ⟨wa, rfl⟩ : ∃ wa, wa = w4 := ⟨_, rfl⟩
  go_upto_block 0 with fail
  go_cut [8, 9] (fun ev uv wc => ∃ (ve : Value) (R : List (List Int)) (T : BankT) (N : Nat → Nat → List Int) (t pn : Nat), ve = ev ∧ uv = .int .i64 (pn : Int) ∧ pn ≤ 32 ∧ t ≤ 1000 ∧ Hid (posN R = pn) ∧ Hid (LogQ T 1 (fun _ => false) N t [0] 3 R) ∧ Hid (BK w (fun k => k ∈ [p, lg] ∨ ve.ownBlock = some k) wc q T) ∧ Hid (OwnG w wc 3 ev (endsL R)))
  case first =>
    go_wp2
    go_loopw [8, 9, 10] (fun ev uv i wr => ∃ (ve : Value) (k : Nat) (R : List (List Int)) (T : BankT) (N : Nat → Nat → List Int) (t pn : Nat), k ≤ L.length ∧ k ≤ 8 ∧ ve = ev ∧ i = .int .i64 k ∧ uv = .int .i64 (pn : Int) ∧ pn ≤ 4 * k ∧ t ≤ 100 * k ∧ Hid (R.length = k ∧ posN R = pn) ∧ Hid (LogQ T 1 (fun _ => false) N t [0] 3 R) ∧ Hid (BK w (fun k => k ∈ [p, lg] ∨ ve.ownBlock = some k) wr q T) ∧ Hid (LogD wr p q lg cap [0] ⟨3, k, pn, false⟩) ∧ Hid (OwnG w wr 3 ev (endsL R)) ∧ Hid (ve.ownBlock ≠ some p ∧ ve.ownBlock ≠ some lg)) (fun _ _ i _ => L.length - (intOf i).toNat)
    case atStart => exact ⟨_, 0, [], _, _, 0, 0, Nat.zero_le _, by decide, rfl, rfl, rfl, by decide, by decide, Lib.hid ⟨rfl, rfl⟩, HQ4, HB4, HL4, HE4, Lib.hid ⟨by simp [Value.ownBlock], by simp [Value.ownBlock]⟩⟩
    case round =>
      clear HQ4 HB4 HL4 HE4
      obtain ⟨ve, k, R, T, N, t, pn, hk, hk8, rfl, rfl, rfl, hpn, ht, HN, HQ, HB, HL, HE, HNE⟩ := hrel
      by_cases hlt : k < L.length ∧ k < 8
      · obtain ⟨hlt, h8⟩ := hlt
        obtain ⟨b, off, ax, ck, rfl, g1, hsrc⟩ := HS.out.at k hlt
        obtain ⟨x, hx⟩ : ∃ x, x = L[k] := ⟨_, rfl⟩
        rw [← hx] at g1 hsrc
        obtain ⟨nk, hnk⟩ : ∃ nk, nk = x.length := ⟨_, rfl⟩
        rw [← hnk] at g1 hsrc
        obtain ⟨kk, hkk⟩ : ∃ kk, kk = min nk 200 := ⟨_, rfl⟩
        obtain ⟨hn0, hkc, hh, hhl⟩ := hsrc.head kk (by omega)
        generalize x.take kk = xk at *
        have hma : min (nk : Int) 200 = (kk : Int) := by omega
        have hk200 : kk ≤ 200 := by omega
        obtain ⟨pt, hpt⟩ : ∃ pt, partsN kk = pt := ⟨_, rfl⟩
        have hp4 := partsT hk200
        rw [hpt] at hp4
        have HG := Lib.hid g1
        have HH := Lib.hid hh
        have HHL := Lib.hid hhl
        have HPT := Lib.hid hpt
        clear hn0 hx hnk hsrc hkk hh hhl hpt g1
        obtain ⟨T5, N5, e5, hq5, hn5, _⟩ := (HQ.out.step (ls := [0]) (by intro d hd; simp at hd; omega) (fun d hd => hd) ⟨0, by simp, rfl⟩ (by decide) (b := xk) (by rw [HHL.out]; omega) HH.out.2 HN.out (pt := pt) (by rw [HHL.out]; exact HPT.out) (L := [0]) rfl).1 (by omega)
        have HE5 := Lib.hid e5
        have HQ5 := Lib.hid hq5
        have HN5 := Lib.hid hn5
        have HU := Lib.hid (HQ.out.q.useN (by decide) 100 (by omega))
        clear e5 hq5 hn5
        go_upto_region 13 with fail
        refine wp_still_all (by kernel_rfl) (by kernel_rfl) fun ws hks hhs => ?_
        have HBs := Lib.hid (HB.out.kept hks).1
        have hgs := HBs.out.keeps.cell' HG.out
        have HLs := Lib.hid (HL.out.kept hks)
        have HEs := Lib.hid (HE.out.kept hks)
        clear hks hhs HB HL HE
        iterate 10 still_step
        refine still_slice_to rfl _ _ rfl ax nk ck rfl kk rfl hkc ?_
        iterate 1 still_step
        refine wpStill_nil ?_
        clear hgs
        have hc := meta_Append HBs.out HLs.out (.inl (by simp)) (.inl (by simp)) HP.out.1 HP.out.2 (.slice ax kk ck) xk (by rw [HHL.out]; have := HH.out.1.kept HBs.out.keeps; rw [HHL.out] at this; exact this) (by rw [HHL.out]; omega) HH.out.2 (by decide) (HU.out.less (by rw [HHL.out, HPT.out]; show 1 * pt ≤ 100; omega)) ⟨by show (0 : Int) ≤ 3; decide, by show (3 : Int) < 4294967296; decide⟩ (by show k < 1000; omega) (by show pn ≤ 48; omega)
        rw [HE5.out] at hc
        have HCA := Lib.hid hc
        clear hc HE5
        go_wp2_with fail
        refine Calls.mono HCA.out ?_
        rintro e w7 ⟨rfl, hb7, hl7, hs7⟩
        have HB7 : Hid (BK w (fun k => k ∈ [p, lg] ∨ ve.ownBlock = some k) w7 q T5) := Lib.hid hb7
        have HL7 : Hid (LogD w7 p q lg cap [0] ⟨3, k + 1, pn + pt, false⟩) := Lib.hid hl7
        have HE7 := Lib.hid (HEs.out.same fun g hg => hs7 g ⟨.inr hg, fun e => HNE.out.1 (e ▸ hg)⟩)
        clear hb7 hl7 hs7 HCA HBs HLs HEs
        go_wp2_with fail
        have hc := record_Parts kk (by omega) w7
        rw [HPT.out] at hc
        refine Calls.mono hc ?_
        rintro e w8 ⟨rfl, rfl⟩
        clear hc
        go_wp2_with (refine stop_at (o := ⟨some 62, _, _, _, _, _⟩) ?_)
        refine Stop.mk ?_
        refine wpList_oneG Tryd.underlying28 int_infoG (by decide) rfl _ rfl (.int .i64 ((pn : Int) + (pt : Int))) rfl rfl ?_
        intro w9 hz9 hs9 hk9
        have HB9 := Lib.hid (HB7.out.kept hk9).1
        have HL9 := Lib.hid (HL7.out.kept hk9)
        have HE9 := Lib.hid (HE7.out.kept hk9)
        generalize w7.heap.size = X at *
        clear hs9 hk9 HB7 HL7 HE7
        go_wp2_with (refine stop_at (o := ⟨some 63, _, _, _, _, _⟩) ?_)
        refine Stop.mk ?_
        refine wpList_appendG ty_intsG (by decide) rfl _ _ rfl (endsL R) rfl HE9.out (by rw [endsL_len, HN.out.1]; omega) X rfl (.int .i64 ((pn : Int) + (pt : Int))) rfl hz9.out HB9.out.keeps ?_
        intro ev' w10 hown hgr
        have HE10 : Hid (OwnG w w10 3 ev' (endsL (R ++ [xk]))) := Lib.hid (by
          rw [endsL_snoc, HN5.out.2, show ((pn + pt : Nat) : Int) = (pn : Int) + (pt : Int) by omega]; exact hown)
        have HB10 : Hid (BK w (fun k => k ∈ [p, lg] ∨ ev'.ownBlock = some k) w10 q T5) := Lib.hid ((HB9.out.grwG hgr (fun k hk => .inr hk) HE9.out.new).less fun k hk => by
          rcases hk with hk | hk
          · exact .inl (.inl hk)
          · exact .inr hk)
        have HL10 := Lib.hid (HL9.out.grown hgr (HB9.out.ltR (.inl (by simp))) (HB9.out.ltR (.inl (by simp))) HNE.out.1 HNE.out.2)
        have HNE10 : Hid (ev'.ownBlock ≠ some p ∧ ev'.ownBlock ≠ some lg) := Lib.hid ⟨hgr.ne (HB9.out.ltR (.inl (by simp))) HNE.out.1, hgr.ne (HB9.out.ltR (.inl (by simp))) HNE.out.2⟩
        clear hown hgr hz9 HB9 HL9 HE9 HU HG
        go_wp2
        go_roundw
        case rel => exact ⟨_, k + 1, _, T5, N5, t + 49, pn + pt, hlt, h8, rfl, by go_num, by go_num, by omega, by omega, HN5, HQ5, HB10, HL10, HE10, HNE10⟩
        case measure => simp [intOf]; omega
      · have hkk : L.length ≤ k ∨ (k < L.length ∧ 8 ≤ k) := by omega
        clear hlt
        rcases hkk with hkk | ⟨hkk, h8⟩
        all_goals
          go_wp2
          go_meet
          case rel => exact ⟨_, R, T, N, t, pn, rfl, rfl, by omega, by omega, Lib.hid HN.out.2, HQ, HB, HE⟩
  case rest =>
    clear HQ4 HB4 HL4 HE4 HS
    obtain ⟨ve, R, T, N, t, pn, rfl, rfl, hpn, ht, HN, HQ, HB, HE⟩ := hcut
    by_cases hp0 : pn = 0
    · have hpz : ((pn : Int) == 0) = true := by simp [hp0]
      have HK := Lib.hid HB.out.keeps
      clear hp0 HB HE
      go_wp2
      go_ret
      exact ⟨rfl, HK.out⟩
    · have hpz : ((pn : Int) == 0) = false := by simp; omega
      obtain ⟨kz, hkz⟩ : ∃ kz, kz = ga % pn := ⟨_, rfl⟩
      have hkl : kz < pn := by rw [hkz]; exact Nat.mod_lt _ (by omega)
      have hrm : (ga : Int) % (pn : Int) = (kz : Int) := by omega
      have hpp : 1 ≤ pn := by omega
      obtain ⟨T1, hw1, ⟨N1, hq1⟩, hsc⟩ := HQ.out.torn (by decide) (k := kz) (by rw [HN.out]; exact hkl)
      have HW1 := Lib.hid hw1
      have HU1 := Lib.hid (hq1.use (by decide) (by omega))
      have HSC := Lib.hid hsc
      clear hw1 hq1 hsc hkz hp0
      go_wp2_with (refine stop_at (o := ⟨some 74, _, _, _, _, _⟩) ?_)
      refine Stop.mk ?_
      try simp only [hga, hrm]
      refine wpList_sec_zero rfl rfl ?_
      have hc := bk_Write HB.out (HQ.out.q.use (by decide) (by omega)) 0 (2 + (kz : Int)) (s := zeroB) rfl
      rw [HW1.out] at hc
      have HCA := Lib.hid hc
      clear hc
      go_wp2_with fail
      refine Calls.mono HCA.out ?_
      rintro e w5 ⟨rfl, hb5, hs5⟩
      have HB5 : Hid (BK w (fun k => k ∈ [p, lg] ∨ ve.ownBlock = some k) w5 q T1) := Lib.hid hb5
      have HE5 := Lib.hid (HE.out.same fun g hg => hs5 g (.inr hg))
      clear hb5 hs5 HCA HB HE
      obtain ⟨ao, cp, rfl, hce⟩ := HE5.out.form
      have HCE := Lib.hid hce
      have HLE := Lib.hid (endsL_len R)
      rw [HLE.out] at HB5 ⊢
      have hR48 : R.length ≤ 48 := HQ.out.num
      clear hce HE5
      go_wp2
      go_loopw [13] (fun i wr => ∃ j : Nat, j ≤ R.length ∧ i = .int .i64 j ∧ Hid (∀ r, r < j → posN (R.take (r + 1)) ≤ kz) ∧ wr = w5) (fun i _ => R.length - (intOf i).toNat)
      case atStart => exact ⟨0, Nat.zero_le _, rfl, Lib.hid (fun r h => by cases h), rfl⟩
      case round =>
        obtain ⟨j, hj, rfl, HJ, rfl⟩ := hrel
        by_cases hlt : j < R.length
        · obtain ⟨g, rfl, hcell⟩ := HCE.out j (by rw [HLE.out]; exact hlt)
          rw [endsL_at] at hcell
          obtain ⟨e, he⟩ : ∃ e, e = posN (R.take (j + 1)) := ⟨_, rfl⟩
          rw [← he] at hcell
          have HEJ := Lib.hid he
          clear he
          by_cases hle : e ≤ kz
          · have hle' : (e : Int) ≤ (kz : Int) := by omega
            go_wp2
            go_roundw
            case rel => exact ⟨j + 1, hlt, by go_num, Lib.hid (fun r hr => by
              by_cases e1 : r = j
              · subst e1; rw [← HEJ.out]; exact hle
              · exact HJ.out r (by omega)), by first | rfl | trivial⟩
            case measure => simp [intOf]; omega
          · have hle' : ¬ (e : Int) ≤ (kz : Int) := by omega
            obtain ⟨pos, hsj⟩ := HSC.out j hlt (by
              by_cases e1 : j = 0
              · rw [e1]; simp [posN]
              · have := HJ.out (j - 1) (by omega)
                rw [show j - 1 + 1 = j by omega] at this; exact this) (by rw [← HEJ.out]; omega)
            have HSJ := Lib.hid hsj
            have HTL := Lib.hid (show (R.take j).length = j by rw [List.length_take]; omega)
            clear hsj hle
            go_wp2_with (refine stop_at (o := ⟨some 92, _, _, _, _, _⟩) ?_)
            refine Stop.mk ?_
            refine wpList_lit_ints rfl 1 (by decide) _ rfl [0] (by kernel_rfl) ?_
            intro w6 hz6 hs6 hk6
            have HC6 := Lib.hid (by simpa using Cells.of_block hz6.out : Cells w6 wr.heap.size 0 (ints [0]))
            have HB6 := Lib.hid (HB5.out.kept hk6).1
            have HSZ := Lib.hid hs6
            generalize wr.heap.size = B6 at *
            clear hz6 hs6 hk6 HB5 hcell
            have hc := meta_Scan HB6.out HU1.out B6 1 [0] HC6.out HSZ.out (by decide) 3
            rw [HSJ.out] at hc
            have HCA := Lib.hid hc
            clear hc
            go_wp2_with fail
            refine Calls.mono HCA.out ?_
            rintro e w7 ⟨v1, rfl, hr7, hk7⟩
            have HK7 := Lib.hid (HB6.out.kept hk7).1.keeps
            obtain ⟨ao2, c2, rfl⟩ := hr7.slice
            rw [HTL.out]
            clear hr7 hk7 HCA HC6 HB6 HSZ
            go_wp2
            go_ret
            exact ⟨rfl, HK7.out⟩
        · exfalso
          have hjr : j = R.length := by omega
          have h1 : pn = posN R := HN.out.symm
          have h2 : posN R = 0 ∨ posN R ≤ kz := by
            by_cases e1 : j = 0
            · left
              have : R = [] := List.eq_nil_of_length_eq_zero (by omega)
              rw [this]; rfl
            · right
              have := HJ.out (j - 1) (by omega)
              rw [show j - 1 + 1 = j by omega, hjr, List.take_length] at this; exact this
          omega
end
end Go.Proofs.YtpeclkhppgabfaaDoor
