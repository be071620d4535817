/- StripeTwo's walk. -/
import Derived.Test.YtkcemkphehocgaaSpt
import Derived.Test.YtkcemkphehocgaaSpg
namespace Go.Proofs.Ytkcemkphehocgaa
open Go.RowKit
set_option linter.unusedVariables false
set_option linter.unusedSimpArgs false

section
variable {w : World}
set_option maxHeartbeats 4000000
set_option maxRecDepth 100000
theorem law_stwo (a0 a1 a2 : Int) (w : World) : Calls Try.prog 9 #[.int .i64 a0, .int .i64 a1, .int .i64 a2] w fun e w' => e = .returned (.bool true) ∧ Kept w w' := by
  obtain ⟨y0, hy0, _⟩ := and_low a0 16 (by decide) (m := 65535) (by decide)
  obtain ⟨y1, hy1, hb1⟩ := and_low a1 16 (by decide) (m := 65535) (by decide)
  obtain ⟨y2, hy2, hb2⟩ := and_low a2 16 (by decide) (m := 65535) (by decide)
  obtain ⟨m, hn, hm1, hm2⟩ : ∃ m : Nat, (3 : Int) + (y0 : Int) % 4 = ((m + 1 : Nat) : Int) ∧ 2 ≤ m ∧ m ≤ 5 := ⟨2 + y0 % 4, by omega, by omega, by omega⟩
  obtain ⟨n, hnm⟩ : ∃ n, n = m + 1 := ⟨_, rfl⟩
  rw [← hnm] at hn
  have hn3 : 3 ≤ n := by omega
  have hn6 : n ≤ 6 := by omega
  obtain ⟨x, hx, hxl⟩ : ∃ x : Nat, (y1 : Int) % (n : Int) = (x : Int) ∧ x < n := ⟨y1 % n, by omega, Nat.mod_lt _ (by omega)⟩
  obtain ⟨z, hz, hzl⟩ : ∃ z : Nat, (y2 : Int) % (m : Int) = (z : Int) ∧ z < m := ⟨y2 % m, by omega, Nat.mod_lt _ (by omega)⟩
  obtain ⟨y, hy, hyl, hxy⟩ : ∃ y : Nat, ((x : Int) + 1 + (z : Int)) % (n : Int) = (y : Int) ∧ y < n ∧ x ≠ y := by
    refine ⟨(x + 1 + z) % n, by have := Int.natCast_emod (x + 1 + z) n; simp only [Int.natCast_add, Int.natCast_one] at this ⊢; exact this.symm, Nat.mod_lt _ (by omega), fun e => ?_⟩
    by_cases h : x + 1 + z < n
    · rw [Nat.mod_eq_of_lt h] at e; omega
    · rw [Nat.mod_eq_sub_mod (by omega), Nat.mod_eq_of_lt (by omega)] at e; omega
  have hnm1 : (n : Int) - 1 = (m : Int) := by omega
  have hn1 : n - 1 = m := by omega
  have HY1 := Lib.hid (And.intro hy1 hx); have HY2 := Lib.hid (And.intro hy2 (And.intro hz hy)); have HN := Lib.hid hn; have HNM := Lib.hid hnm; have HN1 := Lib.hid hn1
  have HB12 := Lib.hid (And.intro hb1 hb2)
  have HXY := Lib.hid hxy
  have HNR := Lib.hid (near_row (n := n) (by omega))
  have HSL := Lib.hid fun W => (st_Slots (n : Int) (by omega) (by omega) W)
  clear hy1 hy2 hx hz hy hb1 hb2 hn hxy hnm hn1
  go_enter Try.func9, Try.ntmps9
  go_wp2_with fail
  refine Calls.mono (law_shown13 _) ?_
  rintro e w1 ⟨rfl, hk1⟩
  have hlaid := s_laid n (by omega) w w1 (fun k => k ∈ ([] : List Nat)) hk1 (fun _ h => by cases h)
  have hn := HN.out
  go_wp2_with fail
  try simp only [hn]
  clear hn
  refine Calls.mono hlaid ?_
  rintro e w2 ⟨q, rfl, hb, _⟩
  have HB2 := Lib.hid hb
  clear hb hlaid hk1 hy0
  go_wp2_with fail
  refine Calls.mono (s_row n (by omega) _) ?_
  rintro e w3 ⟨v, rfl, hrow, hk⟩
  obtain ⟨g, c, rfl, hg1, hg2, hC, _⟩ := row_form hrow (by omega)
  have HB3 := Lib.hid (BK.push HB2.out hk g hg1 hg2)
  have HC3 := Lib.hid hC; have HGL3 := Lib.hid hg2
  have HES : Hid (∀ W : World, Cells W g 0 (evals (rowL n)) → g < W.heap.size → ESl W (.slice (some ⟨g, 0, none⟩) n c) (rowL n)) := Lib.hid fun W h1 h2 => by
    have := ESl.of_cells (L := rowL n) (cap := c) h2 h1
    rw [rowL_len] at this
    exact this
  clear hrow hk hg1 hg2 hC HB2
  go_wp2
  go_loopw [10] (fun i wr => ∃ (tt : Nat) (T : BankT), tt ≤ 8 ∧ i = .int .i64 tt ∧ Hid (Dying T n n 0 (n * tt)) ∧ Hid (Holds T n n 0 (n * tt) tt (two_D n)) ∧ Hid (BK w (fun k => k ∈ ([g] : List Nat)) wr q T) ∧ Hid (Cells wr g 0 (evals (rowL n))) ∧ Hid (g < wr.heap.size)) (fun i _ => 8 - (intOf i).toNat)
  case atStart => exact ⟨0, addZ 20 n, by decide, rfl, Lib.hid (Dying.start (by omega)), Lib.hid (fun _ h => by omega), HB3, HC3, HGL3⟩
  case round =>
    clear HB3 HC3 HGL3
    obtain ⟨tt, T, htt, rfl, HD, HH, HB4, HC4, HGL4⟩ := hrel
    obtain ⟨w4, hw4⟩ : ∃ w4, w4 = wr := ⟨_, rfl⟩
    subst hw4
    by_cases hlt : tt < 8
    · skip
      obtain ⟨T2, e2, i2, r2⟩ := HD.out.row (by omega) (by omega) hlt (S := two_D n tt) (by rw [two_D_len]; omega) (two_D_sec n tt)
      have HE := Lib.hid e2; have HD2 : Hid (Dying T2 n n 0 (n * (tt + 1))) := Lib.hid (by rw [Nat.mul_succ]; exact i2); have HH2 : Hid (Holds T2 n n 0 (n * (tt + 1)) (tt + 1) (two_D n)) := Lib.hid (by rw [Nat.mul_succ]; exact HH.out.row (by omega) hlt r2)
      have HP : Hid (n * tt ≤ 1000) := Lib.hid (Nat.le_trans (Nat.mul_le_mul (show n ≤ 6 by omega) (show tt ≤ 8 by omega)) (by decide))
      have HI := Lib.hid HD.out.live.inv; have HT := Lib.hid (And.intro (show T.l.length ≠ 0 by rw [HD.out.live.len]; omega) (And.intro (show T.clock < 900000000 by have := HD.out.clk; have := HP.out; omega) (show T.writes < 900000000 by have := HD.out.wri; have := HP.out; omega)))
      clear e2 i2 r2 HD HH HP
      obtain ⟨p, hp, hpl⟩ : ∃ p : Nat, (tt : Int) * (m : Int) = (p : Int) ∧ p ≤ 40 := ⟨tt * m, by rw [Int.natCast_mul], Nat.le_trans (Nat.mul_le_mul (show tt ≤ 8 by omega) hm2) (by decide)⟩
      have hd8 : decide ((tt : Int) < 8) = true := by simp; omega
      have HPN : Hid (tt * (n - 1) = p) := Lib.hid (by
        rw [HN1.out]
        have : ((tt * m : Nat) : Int) = (p : Int) := by rw [Int.natCast_mul]; exact hp
        omega)
      go_wp2
      go_loopw [11, 12] (fun v i wr => ∃ (j : Nat), j ≤ m ∧ i = .int .i64 j ∧ Hid (wr.ownsRow w4.heap.size 34 64 v j (secsV ((two_D n tt).take j))) ∧ Hid (Kept w4 wr)) (fun _ i _ => m - (intOf i).toNat)
      case atStart => exact ⟨0, Nat.zero_le _, rfl, Lib.hid (World.ownsRow_nil _ _ _ _), Lib.hid (Kept.refl _)⟩
      case round =>
        obtain ⟨j, hj, rfl, HO, HK⟩ := hrel
        obtain ⟨oa', cap', rfl⟩ := ownsRow_form1 HO.out
        by_cases hjl : j < m
        · skip
          have HTK : Hid (secsV ((two_D n tt).take (j + 1)) = secsV ((two_D n tt).take j) ++ u8s (secN ((p : Int) + (j : Int) + 1))) := Lib.hid (by
            have hl : j < (two_D n tt).length := by rw [two_D_len, HN1.out]; exact hjl
            rw [List.take_succ_eq_append_getElem hl]
            have : (two_D n tt)[j] = secN ((p : Int) + (j : Int) + 1) := by
              simp only [two_D, List.getElem_map, List.getElem_range, HPN.out]
              congr 1
            rw [this]; simp [secsV])
          go_wp2_with fail
          refine Calls.mono (s_sector ((p : Int) + (j : Int) + 1) _) ?_
          rintro e w5 ⟨rfl, hk5⟩
          have HK5 := Lib.hid (HK.out.trans hk5); have HO5 := Lib.hid (ownsRow_kept HO.out hk5)
          clear hk5 HK HO
          go_wp2_with (refine stop_at (o := ⟨some 53, _, _, _, _, _⟩) ?_)
          refine Stop.mk ?_
          refine wpList_secs rfl 1 _ rfl [secN ((p : Int) + (j : Int) + 1)] rfl (by decide) (by decide) (fun s hs => by rw [List.mem_singleton.1 hs]; exact secN_len _) (by simp [Act.eval, List.zipIdx, secV]) ?_
          intro w6 hz hs hk6
          have HZ6 := hz; have HK6 := Lib.hid (HK5.out.trans hk6); have HO6 := Lib.hid (ownsRow_kept HO5.out hk6)
          generalize w5.heap.size = G at *
          clear hz hs hk6 HK5 HO5
          go_wp2_with (refine stop_at (o := ⟨some 54, _, _, _, _, _⟩) ?_)
          refine Stop.mk ?_
          obtain ⟨ht', ⟨i1, z1, hi, hz, hsz', hby, hzs⟩, hpos⟩ := ty_secsS
          refine wpList_append_own_wide _ rfl _ _ 58 rfl w4.heap.size 34 i1 z1 64 64 ht' hi hz hsz' hby hzs (by decide) _ j (secsV ((two_D n tt).take j)) rfl HO6.out ⟨G, 0, none⟩ 1 1 (u8s (secN ((p : Int) + (j : Int) + 1))) rfl (by rw [u8s_length, secN_len]) (fun j' u hu => by
            have h1 := cell_of_row w6 G j' _ _ _ HZ6.out
            rw [Addr.add_mid, Nat.zero_add, h1]
            simpa [secsV] using hu) (u8s_one _) (by have : maxLen = 9223372036854775807 := rfl; omega) (by omega) HK6.out.size ?_
          intro v9 w9 hown hgrow _
          have HK9 : Hid (Kept w4 w9) := Lib.hid (HK6.out.grown hgrow (fun j ej => row_ge HO6.out ej))
          have HO9 : Hid (w9.ownsRow w4.heap.size 34 64 v9 (j + 1) (secsV ((two_D n tt).take (j + 1)))) := Lib.hid (by rw [HTK.out]; exact hown)
          clear hown hgrow HK6 HO6 HZ6 ht' hi hz hsz' hby hzs hpos HTK
          go_wp2
          go_roundw
          case rel => exact ⟨j + 1, hjl, by go_num, HO9, HK9⟩
          case measure => simp [intOf]; omega
        · have hjm : j = m := by omega
          subst hjm
          have hS : (two_D n tt).take j = two_D n tt := List.take_of_length_le (by rw [two_D_len, HN1.out]; exact Nat.le_refl _)
          have ho := HO.out
          rw [hS] at ho
          obtain ⟨sg, sc, hse, hs1, hs2, hsC, hsn⟩ := row_form ho (by omega)
          cases hse
          have HSRC : Hid (SecSrc wr (.slice (some ⟨sg, 0, none⟩) j cap') (two_D n tt)) := Lib.hid (.inr ⟨sg, 0, cap', by rw [two_D_len, HN1.out], by rw [two_D_len, HN1.out]; exact hsn, hs2, hsC⟩)
          have hk := HK.out
          clear hS ho hs1 hs2 hsC hsn HO HK
          have HB5 := Lib.hid ((HB4.out.kept hk).1)
          have HC5 := Lib.hid (Cells.kept HC4.out hk)
          have HGL5 := Lib.hid (Nat.lt_of_lt_of_le HGL4.out hk.size)
          clear HB4 HC4 HGL4 hk
          obtain ⟨w5, hw5⟩ : ∃ w5, w5 = wr := ⟨_, rfl⟩
          subst hw5
          go_wp2_with fail
          have hc := st_WriteFull HB5.out HI.out HT.out.1 HT.out.2.1 HT.out.2.2 (HES.out _ HC5.out HGL5.out) HNR.out (by rw [rowL_len]; omega) tt (by rw [rowL_len]; omega) hlt HSRC.out (two_D_sec n tt) (by rw [two_D_len, rowL_len]; omega)
          rw [HE.out] at hc
          refine Calls.mono (hc) ?_
          rintro e w6 ⟨rfl, hb, hr⟩
          have HB6 : Hid (BK w (fun k => k ∈ ([g] : List Nat)) w6 q T2) := Lib.hid hb
          have HC6 := Lib.hid (hr.cells (B := g) (by simp) HC5.out)
          have HGL6 := Lib.hid ((BK.lt_of hb (B := g) (by simp)))
          clear HB5 HC5 HGL5 hb hr hc HE HI HT HSRC
          go_wp2
          go_roundw
          case rel => exact ⟨tt + 1, T2, hlt, by go_num, HD2, HH2, HB6, HC6, HGL6⟩
          case measure => simp [intOf]; omega
    · have ht8 : tt = 8 := by omega
      subst ht8
      obtain ⟨T1, e1, u1, T2, e2, u2, c2, r2, hw2, hN⟩ := two_start HD.out HH.out (by omega) (by omega) (by omega) hxl hyl HXY.out
      have HU := Lib.hid (HD.out.use (by omega) (by omega)); have HE1 := Lib.hid e1; have HU1 := Lib.hid u1; have HE2 := Lib.hid e2; have HU2 := Lib.hid u2; have HCW := Lib.hid (And.intro c2 r2); have HTW := Lib.hid hw2; have HCT := Lib.hid hN
      clear e1 u1 e2 u2 c2 r2 hw2 hN HD HH htt hlt
      obtain ⟨hy1, hx⟩ := HY1.out
      obtain ⟨hy2, hz, hy⟩ := HY2.out
      obtain ⟨hb1, hb2⟩ := HB12.out
      go_wp2_with fail
      try simp only [hx]
      try simp only [hy]
      have hc := bk_Fail HB4.out HU.out (x : Int)
      rw [HE1.out] at hc
      refine Calls.mono hc ?_
      rintro e w5 ⟨rfl, hb, hr⟩
      have HB5 := Lib.hid hb; have HC5 := Lib.hid (hr.cells (B := g) (by simp) HC4.out); have HGL5 := Lib.hid (BK.lt_of hb (B := g) (by simp))
      clear hb hr hc HB4 HC4 HGL4 HU HE1
      go_wp2_with fail
      try simp only [hy]
      clear hy1 hx hy2 hz hy hb1 hb2 HY1 HY2 HB12
      have hc := bk_Fail HB5.out HU1.out (y : Int)
      rw [HE2.out] at hc
      refine Calls.mono hc ?_
      rintro e w6 ⟨rfl, hb, hr⟩
      have HB6 := Lib.hid hb; have HC6 := Lib.hid (hr.cells (B := g) (by simp) HC5.out); have HGL6 := Lib.hid (BK.lt_of hb (B := g) (by simp))
      clear hb hr hc HB5 HC5 HGL5 HU1 HE2
      go_wp2
      go_loopw [15] (fun i wr => ∃ (s : Nat), s ≤ 8 * m ∧ i = .int .i64 s ∧ Hid (BK w (fun k => k ∈ ([g] : List Nat)) wr q T2) ∧ Hid (Cells wr g 0 (evals (rowL n))) ∧ Hid (g < wr.heap.size)) (fun i _ => 8 * m - (intOf i).toNat)
      case atStart => exact ⟨0, Nat.zero_le _, rfl, HB6, HC6, HGL6⟩
      case round =>
        clear HB6 HC6 HGL6
        obtain ⟨s, hs, rfl, HB7, HC7, HGL7⟩ := hrel
        obtain ⟨w7, hw7⟩ : ∃ w7, w7 = wr := ⟨_, rfl⟩
        subst hw7
        have hsl := HSL.out w7
        rw [if_neg (show ¬ (n : Int) < 2 by omega), hnm1] at hsl
        go_wp2_with fail
        refine Calls.mono hsl ?_
        rintro e w' ⟨rfl, rfl⟩
        clear hsl
        by_cases hlt : s < 8 * m
        · skip
          have hlt2 : (s : Int) < 8 * (m : Int) := by omega
          have hlt3 : s < 8 * (n - 1) := by rw [HN1.out]; exact hlt
          have hhm := fun W (he : ESl W (.slice (some ⟨g, 0, none⟩) n c) (rowL n)) => st_Home he HNR.out (s : Int)
          rw [home_row (by omega) hlt3] at hhm
          have hsp : splitX (rowL n).length (s : Int) = (((s / (n - 1) : Nat) : Int), ((slotK n (s / (n - 1)) (s % (n - 1)) : Nat) : Int), 0) := by rw [rowL_len]; exact split_slotN (by omega) hlt3
          have htd : s / (n - 1) < 8 := by rw [Nat.div_lt_iff_lt_mul (by omega)]; omega
          have hjd : s % (n - 1) < n - 1 := Nat.mod_lt _ (by omega)
          have hkk := slotK_lt (w := n) (t := s / (n - 1)) hjd
          have hrl := HTW.out.readL (by omega) (by omega) hxl hyl HXY.out htd hjd
          have hdm := Nat.div_add_mod s (n - 1)
          have hvl : (two_D n (s / (n - 1))).getD (s % (n - 1)) [] = secN ((s : Int) + 1) := by
            rw [← getElem_getD (by rw [two_D_len]; exact hjd)]
            simp only [two_D, List.getElem_map, List.getElem_range]
            congr 1
            rw [Nat.mul_comm] at hdm
            omega
          have hct := cont_slot (n := n) (tt := s / (n - 1)) (two_D n (s / (n - 1))) hjd
          rw [hvl] at hct
          have hcn := HCT.out (s / (n - 1)) htd _ hkk
          rw [hct] at hcn
          clear hvl hct hdm hlt3
          generalize s % (n - 1) = j at *
          generalize s / (n - 1) = t at *
          generalize slotK n t j = k at *
          have HHM := Lib.hid hhm; have HSP := Lib.hid hsp; have HTD := Lib.hid htd
          clear hhm hsp hjd
          by_cases hkx : k = x ∨ k = y
          · by_cases hk1 : k = x
            · skip
              have HRL : Hid (T2.readL (rowL n) t k = (zeroB, (5 : Int))) := Lib.hid (by rw [hrl, if_pos hkx])
              clear hrl hcn
              have t1 : ((k : Int) == (x : Int)) = true := by simp [hk1]
              have t2 : (k == x) = true := by simp [hk1]
              clear hkx hk1
              go_wp2_with fail
              refine Calls.mono (HHM.out _ (HES.out _ HC7.out HGL7.out)) ?_
              rintro e w8 ⟨rfl, hk⟩
              have HB8 := Lib.hid ((HB7.out.kept hk).1)
              have HC8 := Lib.hid (Cells.kept HC7.out hk)
              have HGL8 := Lib.hid (Nat.lt_of_lt_of_le HGL7.out hk.size)
              clear HB7 HC7 HGL7 hk HHM
              go_wp2_with (refine stop_at (o := ⟨some 16, _, _, _, _, _⟩) ?_)
              refine Stop.mk ?_
              refine wpList_new_row rfl rfl _ _ rfl rfl ty_plc _ zero_plc rfl [.int .i64 ((k : Int)), .int .i64 ((k : Int) + (t : Int))] rfl rfl (one_plc _ _) rfl ?_
              intro w9 hz hs hk
              have HP9 := hz
              have HB9 := Lib.hid (BK.push HB8.out hk _ (Nat.le_refl _) hs)
              have HC9 := Lib.hid (Cells.kept HC8.out hk)
              have HGL9 := Lib.hid (Nat.lt_of_lt_of_le HGL8.out hk.size)
              have GE_Pb := Lib.hid (HB8.out.keeps.size)
              generalize w8.heap.size = Pb at *
              clear HB8 HC8 HGL8 hz hs hk 
              go_wp2_with fail
              have hc := st_Read HB9.out HU2.out (HES.out _ HC9.out HGL9.out) HNR.out (by rw [rowL_len]; omega) (s : Int) t k (by rw [rowL_len]; omega) HTD.out (by rw [rowL_len]; exact hkk) HSP.out
              rw [HRL.out] at hc
              refine Calls.mono (hc) ?_
              rintro e w10 ⟨rfl, hk⟩
              have HB10 := Lib.hid ((HB9.out.kept hk).1)
              have HC10 := Lib.hid (Cells.kept HC9.out hk)
              have HGL10 := Lib.hid (Nat.lt_of_lt_of_le HGL9.out hk.size)
              have HP10 := Lib.hid (hk.block HP9.out)
              clear HB9 HC9 HGL9 HP9 hk hc HRL HSP HTD
              go_wp2_with (refine stop_at (o := ⟨some 18, _, _, _, _, _⟩) ?_)
              refine Stop.mk ?_
              refine wpList_new_row rfl rfl _ _ rfl rfl ty_sec (u8s zeroB) zero_sec (by rw [u8s_length, zeroB_length]) (u8s (zeroB)) rfl (by rw [u8s_length, zeroB_length]) (u8s_one _) rfl ?_
              intro w11 hz hs hk
              have HS11 := hz
              have HB11 := Lib.hid (BK.push HB10.out hk _ (Nat.le_refl _) hs)
              have HC11 := Lib.hid (Cells.kept HC10.out hk)
              have HGL11 := Lib.hid (Nat.lt_of_lt_of_le HGL10.out hk.size)
              have HP11 := Lib.hid (hk.block HP10.out)
              have GE_Sb := Lib.hid (HB10.out.keeps.size)
              generalize w10.heap.size = Sb at *
              clear HB10 HC10 HGL10 HP10 hz hs hk 
              have p0 : w11.cell? ⟨Pb, 0, none⟩ = some (.int .i64 (k : Int)) := cell_of_row _ _ 0 _ _ _ HP11.out
              go_upto_region 27 with fail
              clear p0
              have hS : Kept w11 w11.drew ∧ w11.drew.heap[Sb]? = some (.cells (u8s (zeroB)).toArray 34 (0, 0)) := ⟨(Kept.refl _).drew, HS11.out⟩
              refine wp_region_calm ?_
              refine wp_region_E (fun W => Kept w11 W ∧ W.heap[Sb]? = some (.cells (u8s (zeroB)).toArray 34 (0, 0))) 100 (by kernel_rfl) ?_
              refine wpAnyE_take (i := 0) (v := ?_) (listed' := #[true, false, false, false, false, false, false, false, false, false, false, false, false, false, false, false, false, false, false, false, false, false, false, false, false]) (by rfl) (by kernel_rfl) (by kernel_rfl) calm_put hS (by rfl) ?_ ?_
              rotate_left
              · intro W hW; clear hW; go_simp; try (with_reducible rfl)
              simp only [Act.put, List.getElem_toArray, List.getElem_cons_succ, List.getElem_cons_zero, List.setIfInBounds_toArray, List.set_cons_zero, List.set_cons_succ]
              refine wpAnyE_take (i := 1) (v := ?_) (listed' := #[true, true, false, false, false, false, false, false, false, false, false, false, false, false, false, false, false, false, false, false, false, false, false, false, false]) (by rfl) (by kernel_rfl) (by kernel_rfl) calm_put hS (by rfl) ?_ ?_
              rotate_left
              · intro W hW; clear hW; go_simp; try (with_reducible rfl)
              simp only [Act.put, List.getElem_toArray, List.getElem_cons_succ, List.getElem_cons_zero, List.setIfInBounds_toArray, List.set_cons_zero, List.set_cons_succ]
              refine wpAnyE_take (i := 2) (v := ?_) (listed' := #[true, true, true, false, false, false, false, false, false, false, false, false, false, false, false, false, false, false, false, false, false, false, false, false, false]) (by rfl) (by kernel_rfl) (by kernel_rfl) calm_put hS (by rfl) ?_ ?_
              rotate_left
              · intro W hW; clear hW; go_simp; try (with_reducible rfl)
              simp only [Act.put, List.getElem_toArray, List.getElem_cons_succ, List.getElem_cons_zero, List.setIfInBounds_toArray, List.set_cons_zero, List.set_cons_succ]
              refine wpAnyE_take (i := 3) (v := ?_) (listed' := #[true, true, true, true, false, false, false, false, false, false, false, false, false, false, false, false, false, false, false, false, false, false, false, false, false]) (by rfl) (by kernel_rfl) (by kernel_rfl) calm_put hS (by rfl) ?_ ?_
              rotate_left
              · intro W hW; clear hW; go_simp; try (with_reducible rfl)
              simp only [Act.put, List.getElem_toArray, List.getElem_cons_succ, List.getElem_cons_zero, List.setIfInBounds_toArray, List.set_cons_zero, List.set_cons_succ]
              refine wpAnyE_take (i := 4) (v := ?_) (listed' := #[true, true, true, true, true, false, false, false, false, false, false, false, false, false, false, false, false, false, false, false, false, false, false, false, false]) (by rfl) (by kernel_rfl) (by kernel_rfl) calm_put hS (by rfl) ?_ ?_
              rotate_left
              · intro W hW; clear hW; go_simp; try (with_reducible rfl)
              simp only [Act.put, List.getElem_toArray, List.getElem_cons_succ, List.getElem_cons_zero, List.setIfInBounds_toArray, List.set_cons_zero, List.set_cons_succ]
              refine wpAnyE_take (i := 5) (v := .agg (u8s zeroB).toArray) (listed' := #[true, true, true, true, true, true, false, false, false, false, false, false, false, false, false, false, false, false, false, false, false, false, false, false, false]) (by rfl) (by kernel_rfl) (by kernel_rfl) calm_put hS (by rfl) ?_ ?_
              · intro W hW; skip; exact exec_load_sec _ rfl Sb rfl zeroB zeroB_length (by simpa using Cells.of_block hW.2)
              simp only [Act.put, List.getElem_toArray, List.getElem_cons_succ, List.getElem_cons_zero, List.setIfInBounds_toArray, List.set_cons_zero, List.set_cons_succ]
              refine wpAnyE_take (i := 6) (v := .agg (u8s zeroB).toArray) (listed' := #[true, true, true, true, true, true, true, false, false, false, false, false, false, false, false, false, false, false, false, false, false, false, false, false, false]) (by rfl) (by kernel_rfl) (by kernel_rfl) calm_put hS (by rfl) ?_ ?_
              · intro W hW; clear hW; exact exec_zero_sec rfl
              simp only [Act.put, List.getElem_toArray, List.getElem_cons_succ, List.getElem_cons_zero, List.setIfInBounds_toArray, List.set_cons_zero, List.set_cons_succ]
              refine wpAnyE_take (i := 7) (v := .bool false) (listed' := #[true, true, true, true, true, true, true, true, false, false, false, false, false, false, false, false, false, false, false, false, false, false, false, false, false]) (by rfl) (by kernel_rfl) (by kernel_rfl) calm_put hS (by rfl) ?_ ?_
              · intro W hW; clear hW; exact exec_cmp_secN _ _ rfl zeroB zeroB_length rfl rfl
              simp only [Act.put, List.getElem_toArray, List.getElem_cons_succ, List.getElem_cons_zero, List.setIfInBounds_toArray, List.set_cons_zero, List.set_cons_succ]
              refine wpAnyE_take (i := 8) (v := ?_) (listed' := #[true, true, true, true, true, true, true, true, true, false, false, false, false, false, false, false, false, false, false, false, false, false, false, false, false]) (by rfl) (by kernel_rfl) (by kernel_rfl) calm_put hS (by rfl) ?_ ?_
              rotate_left
              · intro W hW; clear hW; go_simp; try (with_reducible rfl)
              simp only [Act.put, List.getElem_toArray, List.getElem_cons_succ, List.getElem_cons_zero, List.setIfInBounds_toArray, List.set_cons_zero, List.set_cons_succ]
              refine wpAnyE_take (i := 9) (v := ?_) (listed' := #[true, true, true, true, true, true, true, true, true, true, false, false, false, false, false, false, false, false, false, false, false, false, false, false, false]) (by rfl) (by kernel_rfl) (by kernel_rfl) calm_put hS (by rfl) ?_ ?_
              rotate_left
              · intro W hW; clear hW; go_simp; try (with_reducible rfl)
              simp only [Act.put, List.getElem_toArray, List.getElem_cons_succ, List.getElem_cons_zero, List.setIfInBounds_toArray, List.set_cons_zero, List.set_cons_succ]
              refine wpAnyE_take (i := 10) (v := ?_) (listed' := #[true, true, true, true, true, true, true, true, true, true, true, false, false, false, false, false, false, false, false, false, false, false, false, false, false]) (by rfl) (by kernel_rfl) (by kernel_rfl) calm_put hS (by rfl) ?_ ?_
              rotate_left
              · intro W hW; clear hW; go_simp; try (with_reducible rfl)
              simp only [Act.put, List.getElem_toArray, List.getElem_cons_succ, List.getElem_cons_zero, List.setIfInBounds_toArray, List.set_cons_zero, List.set_cons_succ]
              refine wpAnyE_take (i := 11) (v := ?_) (listed' := #[true, true, true, true, true, true, true, true, true, true, true, true, false, false, false, false, false, false, false, false, false, false, false, false, false]) (by rfl) (by kernel_rfl) (by kernel_rfl) calm_put hS (by rfl) ?_ ?_
              rotate_left
              · intro W hW; clear hW; go_simp; try (with_reducible rfl)
              simp only [Act.put, List.getElem_toArray, List.getElem_cons_succ, List.getElem_cons_zero, List.setIfInBounds_toArray, List.set_cons_zero, List.set_cons_succ]
              refine wpAnyE_take (i := 12) (v := ?_) (listed' := #[true, true, true, true, true, true, true, true, true, true, true, true, true, false, false, false, false, false, false, false, false, false, false, false, false]) (by rfl) (by kernel_rfl) (by kernel_rfl) calm_put hS (by rfl) ?_ ?_
              rotate_left
              · intro W hW; clear hW; go_simp; try (with_reducible rfl)
              simp only [Act.put, List.getElem_toArray, List.getElem_cons_succ, List.getElem_cons_zero, List.setIfInBounds_toArray, List.set_cons_zero, List.set_cons_succ]
              refine wpAnyE_take (i := 13) (v := ?_) (listed' := #[true, true, true, true, true, true, true, true, true, true, true, true, true, true, false, false, false, false, false, false, false, false, false, false, false]) (by rfl) (by kernel_rfl) (by kernel_rfl) calm_put hS (by rfl) ?_ ?_
              rotate_left
              · intro W hW; clear hW; go_simp; try (with_reducible rfl)
              simp only [Act.put, List.getElem_toArray, List.getElem_cons_succ, List.getElem_cons_zero, List.setIfInBounds_toArray, List.set_cons_zero, List.set_cons_succ]
              refine wpAnyE_skip (i := 14) (listed' := #[true, true, true, true, true, true, true, true, true, true, true, true, true, true, true, false, false, false, false, false, false, false, false, false, false]) (by rfl) (by kernel_rfl) (by kernel_rfl) calm_put hS (by rfl) ?_
              simp only [Act.put, List.getElem_toArray, List.getElem_cons_succ, List.getElem_cons_zero, List.setIfInBounds_toArray, List.set_cons_zero, List.set_cons_succ]
              refine wpAnyE_skip (i := 15) (listed' := #[true, true, true, true, true, true, true, true, true, true, true, true, true, true, true, true, false, false, false, false, false, false, false, false, false]) (by rfl) (by kernel_rfl) (by kernel_rfl) calm_put hS (by rfl) ?_
              simp only [Act.put, List.getElem_toArray, List.getElem_cons_succ, List.getElem_cons_zero, List.setIfInBounds_toArray, List.set_cons_zero, List.set_cons_succ]
              refine wpAnyE_skip (i := 16) (listed' := #[true, true, true, true, true, true, true, true, true, true, true, true, true, true, true, true, true, false, false, false, false, false, false, false, false]) (by rfl) (by kernel_rfl) (by kernel_rfl) calm_put hS (by rfl) ?_
              simp only [Act.put, List.getElem_toArray, List.getElem_cons_succ, List.getElem_cons_zero, List.setIfInBounds_toArray, List.set_cons_zero, List.set_cons_succ]
              refine wpAnyE_skip (i := 17) (listed' := #[true, true, true, true, true, true, true, true, true, true, true, true, true, true, true, true, true, true, false, false, false, false, false, false, false]) (by rfl) (by kernel_rfl) (by kernel_rfl) calm_put hS (by rfl) ?_
              simp only [Act.put, List.getElem_toArray, List.getElem_cons_succ, List.getElem_cons_zero, List.setIfInBounds_toArray, List.set_cons_zero, List.set_cons_succ]
              refine wpAnyE_skip (i := 18) (listed' := #[true, true, true, true, true, true, true, true, true, true, true, true, true, true, true, true, true, true, true, false, false, false, false, false, false]) (by rfl) (by kernel_rfl) (by kernel_rfl) calm_put hS (by rfl) ?_
              simp only [Act.put, List.getElem_toArray, List.getElem_cons_succ, List.getElem_cons_zero, List.setIfInBounds_toArray, List.set_cons_zero, List.set_cons_succ]
              refine wpAnyE_skip (i := 19) (listed' := #[true, true, true, true, true, true, true, true, true, true, true, true, true, true, true, true, true, true, true, true, false, false, false, false, false]) (by rfl) (by kernel_rfl) (by kernel_rfl) calm_put hS (by rfl) ?_
              simp only [Act.put, List.getElem_toArray, List.getElem_cons_succ, List.getElem_cons_zero, List.setIfInBounds_toArray, List.set_cons_zero, List.set_cons_succ]
              refine wpAnyE_none (i := 20) (listed' := #[true, true, true, true, true, true, true, true, true, true, true, true, true, true, true, true, true, true, true, true, true, false, false, false, false]) (by rfl) (by kernel_rfl) (by kernel_rfl) (by rfl) (fun _ => hS) ?_
              simp only [Act.put, List.getElem_toArray, List.getElem_cons_succ, List.getElem_cons_zero, List.setIfInBounds_toArray, List.set_cons_zero, List.set_cons_succ]
              refine wpAnyE_skip (i := 21) (listed' := #[true, true, true, true, true, true, true, true, true, true, true, true, true, true, true, true, true, true, true, true, true, true, false, false, false]) (by rfl) (by kernel_rfl) (by kernel_rfl) calm_put hS (by rfl) ?_
              simp only [Act.put, List.getElem_toArray, List.getElem_cons_succ, List.getElem_cons_zero, List.setIfInBounds_toArray, List.set_cons_zero, List.set_cons_succ]
              refine wpAnyE_skip (i := 22) (listed' := #[true, true, true, true, true, true, true, true, true, true, true, true, true, true, true, true, true, true, true, true, true, true, true, false, false]) (by rfl) (by kernel_rfl) (by kernel_rfl) calm_put hS (by rfl) ?_
              simp only [Act.put, List.getElem_toArray, List.getElem_cons_succ, List.getElem_cons_zero, List.setIfInBounds_toArray, List.set_cons_zero, List.set_cons_succ]
              refine wpAnyE_take (i := 23) (v := ?_) (listed' := #[true, true, true, true, true, true, true, true, true, true, true, true, true, true, true, true, true, true, true, true, true, true, true, true, false]) (by rfl) (by kernel_rfl) (by kernel_rfl) calm_put hS (by rfl) ?_ ?_
              rotate_left
              · intro W hW; clear hW; go_simp; try (with_reducible rfl)
              simp only [Act.put, List.getElem_toArray, List.getElem_cons_succ, List.getElem_cons_zero, List.setIfInBounds_toArray, List.set_cons_zero, List.set_cons_succ]
              refine wpAnyE_take (i := 24) (v := ?_) (listed' := #[true, true, true, true, true, true, true, true, true, true, true, true, true, true, true, true, true, true, true, true, true, true, true, true, true]) (by rfl) (by kernel_rfl) (by kernel_rfl) calm_put hS (by rfl) ?_ ?_
              rotate_left
              · intro W hW; clear hW; go_simp; try (with_reducible rfl)
              simp only [Act.put, List.getElem_toArray, List.getElem_cons_succ, List.getElem_cons_zero, List.setIfInBounds_toArray, List.set_cons_zero, List.set_cons_succ]
              refine wpAnyE_done (by kernel_rfl) ?_ _
              refine calm_normal ?_
              have hk := hS.1
              have HB12 := Lib.hid ((HB11.out.kept hk).1)
              have HC12 := Lib.hid (Cells.kept HC11.out hk)
              have HGL12 := Lib.hid (Nat.lt_of_lt_of_le HGL11.out hk.size)
              have HP12 := Lib.hid (hk.block HP11.out)
              have HS12 := Lib.hid (hk.block HS11.out)
              clear hS
              clear HB11 HC11 HGL11 HP11 HS11 hk
              generalize w11.drew = w12 at *
              go_wp2
              go_roundw
              case rel => exact ⟨s + 1, hlt, by go_num, Lib.hid (HB12.out.less (fun k hk => by simp at hk ⊢; exact .inr (.inr hk))), HC12, HGL12⟩
              case measure => simp [intOf]; omega
            · skip
              have HRL : Hid (T2.readL (rowL n) t k = (zeroB, (5 : Int))) := Lib.hid (by rw [hrl, if_pos hkx])
              clear hrl hcn
              have t1 : ((k : Int) == (x : Int)) = false := by simp; omega
              have t2 : (k == x) = false := by simpa using hk1
              have t3 : ((k : Int) == (y : Int)) = true := by simp; omega
              have t4 : (k == y) = true := by simpa using hkx.resolve_left hk1
              have t5 : ¬ k = x := hk1
              clear hkx hk1
              go_wp2_with fail
              refine Calls.mono (HHM.out _ (HES.out _ HC7.out HGL7.out)) ?_
              rintro e w8 ⟨rfl, hk⟩
              have HB8 := Lib.hid ((HB7.out.kept hk).1)
              have HC8 := Lib.hid (Cells.kept HC7.out hk)
              have HGL8 := Lib.hid (Nat.lt_of_lt_of_le HGL7.out hk.size)
              clear HB7 HC7 HGL7 hk HHM
              go_wp2_with (refine stop_at (o := ⟨some 16, _, _, _, _, _⟩) ?_)
              refine Stop.mk ?_
              refine wpList_new_row rfl rfl _ _ rfl rfl ty_plc _ zero_plc rfl [.int .i64 ((k : Int)), .int .i64 ((k : Int) + (t : Int))] rfl rfl (one_plc _ _) rfl ?_
              intro w9 hz hs hk
              have HP9 := hz
              have HB9 := Lib.hid (BK.push HB8.out hk _ (Nat.le_refl _) hs)
              have HC9 := Lib.hid (Cells.kept HC8.out hk)
              have HGL9 := Lib.hid (Nat.lt_of_lt_of_le HGL8.out hk.size)
              have GE_Pb := Lib.hid (HB8.out.keeps.size)
              generalize w8.heap.size = Pb at *
              clear HB8 HC8 HGL8 hz hs hk 
              go_wp2_with fail
              have hc := st_Read HB9.out HU2.out (HES.out _ HC9.out HGL9.out) HNR.out (by rw [rowL_len]; omega) (s : Int) t k (by rw [rowL_len]; omega) HTD.out (by rw [rowL_len]; exact hkk) HSP.out
              rw [HRL.out] at hc
              refine Calls.mono (hc) ?_
              rintro e w10 ⟨rfl, hk⟩
              have HB10 := Lib.hid ((HB9.out.kept hk).1)
              have HC10 := Lib.hid (Cells.kept HC9.out hk)
              have HGL10 := Lib.hid (Nat.lt_of_lt_of_le HGL9.out hk.size)
              have HP10 := Lib.hid (hk.block HP9.out)
              clear HB9 HC9 HGL9 HP9 hk hc HRL HSP HTD
              go_wp2_with (refine stop_at (o := ⟨some 18, _, _, _, _, _⟩) ?_)
              refine Stop.mk ?_
              refine wpList_new_row rfl rfl _ _ rfl rfl ty_sec (u8s zeroB) zero_sec (by rw [u8s_length, zeroB_length]) (u8s (zeroB)) rfl (by rw [u8s_length, zeroB_length]) (u8s_one _) rfl ?_
              intro w11 hz hs hk
              have HS11 := hz
              have HB11 := Lib.hid (BK.push HB10.out hk _ (Nat.le_refl _) hs)
              have HC11 := Lib.hid (Cells.kept HC10.out hk)
              have HGL11 := Lib.hid (Nat.lt_of_lt_of_le HGL10.out hk.size)
              have HP11 := Lib.hid (hk.block HP10.out)
              have GE_Sb := Lib.hid (HB10.out.keeps.size)
              generalize w10.heap.size = Sb at *
              clear HB10 HC10 HGL10 HP10 hz hs hk 
              have p0 : w11.cell? ⟨Pb, 0, none⟩ = some (.int .i64 (k : Int)) := cell_of_row _ _ 0 _ _ _ HP11.out
              go_upto_region 27 with fail
              clear p0
              have hS : Kept w11 w11.drew ∧ w11.drew.heap[Sb]? = some (.cells (u8s (zeroB)).toArray 34 (0, 0)) := ⟨(Kept.refl _).drew, HS11.out⟩
              refine wp_region_calm ?_
              refine wp_region_E (fun W => Kept w11 W ∧ W.heap[Sb]? = some (.cells (u8s (zeroB)).toArray 34 (0, 0))) 100 (by kernel_rfl) ?_
              refine wpAnyE_take (i := 0) (v := ?_) (listed' := #[true, false, false, false, false, false, false, false, false, false, false, false, false, false, false, false, false, false, false, false, false, false, false, false, false]) (by rfl) (by kernel_rfl) (by kernel_rfl) calm_put hS (by rfl) ?_ ?_
              rotate_left
              · intro W hW; clear hW; go_simp; try (with_reducible rfl)
              simp only [Act.put, List.getElem_toArray, List.getElem_cons_succ, List.getElem_cons_zero, List.setIfInBounds_toArray, List.set_cons_zero, List.set_cons_succ]
              refine wpAnyE_take (i := 1) (v := ?_) (listed' := #[true, true, false, false, false, false, false, false, false, false, false, false, false, false, false, false, false, false, false, false, false, false, false, false, false]) (by rfl) (by kernel_rfl) (by kernel_rfl) calm_put hS (by rfl) ?_ ?_
              rotate_left
              · intro W hW; clear hW; go_simp; try (with_reducible rfl)
              simp only [Act.put, List.getElem_toArray, List.getElem_cons_succ, List.getElem_cons_zero, List.setIfInBounds_toArray, List.set_cons_zero, List.set_cons_succ]
              refine wpAnyE_take (i := 2) (v := ?_) (listed' := #[true, true, true, false, false, false, false, false, false, false, false, false, false, false, false, false, false, false, false, false, false, false, false, false, false]) (by rfl) (by kernel_rfl) (by kernel_rfl) calm_put hS (by rfl) ?_ ?_
              rotate_left
              · intro W hW; clear hW; go_simp; try (with_reducible rfl)
              simp only [Act.put, List.getElem_toArray, List.getElem_cons_succ, List.getElem_cons_zero, List.setIfInBounds_toArray, List.set_cons_zero, List.set_cons_succ]
              refine wpAnyE_take (i := 3) (v := ?_) (listed' := #[true, true, true, true, false, false, false, false, false, false, false, false, false, false, false, false, false, false, false, false, false, false, false, false, false]) (by rfl) (by kernel_rfl) (by kernel_rfl) calm_put hS (by rfl) ?_ ?_
              rotate_left
              · intro W hW; clear hW; go_simp; try (with_reducible rfl)
              simp only [Act.put, List.getElem_toArray, List.getElem_cons_succ, List.getElem_cons_zero, List.setIfInBounds_toArray, List.set_cons_zero, List.set_cons_succ]
              refine wpAnyE_take (i := 4) (v := ?_) (listed' := #[true, true, true, true, true, false, false, false, false, false, false, false, false, false, false, false, false, false, false, false, false, false, false, false, false]) (by rfl) (by kernel_rfl) (by kernel_rfl) calm_put hS (by rfl) ?_ ?_
              rotate_left
              · intro W hW; clear hW; go_simp; try (with_reducible rfl)
              simp only [Act.put, List.getElem_toArray, List.getElem_cons_succ, List.getElem_cons_zero, List.setIfInBounds_toArray, List.set_cons_zero, List.set_cons_succ]
              refine wpAnyE_take (i := 5) (v := .agg (u8s zeroB).toArray) (listed' := #[true, true, true, true, true, true, false, false, false, false, false, false, false, false, false, false, false, false, false, false, false, false, false, false, false]) (by rfl) (by kernel_rfl) (by kernel_rfl) calm_put hS (by rfl) ?_ ?_
              · intro W hW; skip; exact exec_load_sec _ rfl Sb rfl zeroB zeroB_length (by simpa using Cells.of_block hW.2)
              simp only [Act.put, List.getElem_toArray, List.getElem_cons_succ, List.getElem_cons_zero, List.setIfInBounds_toArray, List.set_cons_zero, List.set_cons_succ]
              refine wpAnyE_take (i := 6) (v := .agg (u8s zeroB).toArray) (listed' := #[true, true, true, true, true, true, true, false, false, false, false, false, false, false, false, false, false, false, false, false, false, false, false, false, false]) (by rfl) (by kernel_rfl) (by kernel_rfl) calm_put hS (by rfl) ?_ ?_
              · intro W hW; clear hW; exact exec_zero_sec rfl
              simp only [Act.put, List.getElem_toArray, List.getElem_cons_succ, List.getElem_cons_zero, List.setIfInBounds_toArray, List.set_cons_zero, List.set_cons_succ]
              refine wpAnyE_take (i := 7) (v := .bool false) (listed' := #[true, true, true, true, true, true, true, true, false, false, false, false, false, false, false, false, false, false, false, false, false, false, false, false, false]) (by rfl) (by kernel_rfl) (by kernel_rfl) calm_put hS (by rfl) ?_ ?_
              · intro W hW; clear hW; exact exec_cmp_secN _ _ rfl zeroB zeroB_length rfl rfl
              simp only [Act.put, List.getElem_toArray, List.getElem_cons_succ, List.getElem_cons_zero, List.setIfInBounds_toArray, List.set_cons_zero, List.set_cons_succ]
              refine wpAnyE_take (i := 8) (v := ?_) (listed' := #[true, true, true, true, true, true, true, true, true, false, false, false, false, false, false, false, false, false, false, false, false, false, false, false, false]) (by rfl) (by kernel_rfl) (by kernel_rfl) calm_put hS (by rfl) ?_ ?_
              rotate_left
              · intro W hW; clear hW; go_simp; try (with_reducible rfl)
              simp only [Act.put, List.getElem_toArray, List.getElem_cons_succ, List.getElem_cons_zero, List.setIfInBounds_toArray, List.set_cons_zero, List.set_cons_succ]
              refine wpAnyE_take (i := 9) (v := ?_) (listed' := #[true, true, true, true, true, true, true, true, true, true, false, false, false, false, false, false, false, false, false, false, false, false, false, false, false]) (by rfl) (by kernel_rfl) (by kernel_rfl) calm_put hS (by rfl) ?_ ?_
              rotate_left
              · intro W hW; clear hW; go_simp; try (with_reducible rfl)
              simp only [Act.put, List.getElem_toArray, List.getElem_cons_succ, List.getElem_cons_zero, List.setIfInBounds_toArray, List.set_cons_zero, List.set_cons_succ]
              refine wpAnyE_take (i := 10) (v := ?_) (listed' := #[true, true, true, true, true, true, true, true, true, true, true, false, false, false, false, false, false, false, false, false, false, false, false, false, false]) (by rfl) (by kernel_rfl) (by kernel_rfl) calm_put hS (by rfl) ?_ ?_
              rotate_left
              · intro W hW; clear hW; go_simp; try (with_reducible rfl)
              simp only [Act.put, List.getElem_toArray, List.getElem_cons_succ, List.getElem_cons_zero, List.setIfInBounds_toArray, List.set_cons_zero, List.set_cons_succ]
              refine wpAnyE_take (i := 11) (v := ?_) (listed' := #[true, true, true, true, true, true, true, true, true, true, true, true, false, false, false, false, false, false, false, false, false, false, false, false, false]) (by rfl) (by kernel_rfl) (by kernel_rfl) calm_put hS (by rfl) ?_ ?_
              rotate_left
              · intro W hW; clear hW; go_simp; try (with_reducible rfl)
              simp only [Act.put, List.getElem_toArray, List.getElem_cons_succ, List.getElem_cons_zero, List.setIfInBounds_toArray, List.set_cons_zero, List.set_cons_succ]
              refine wpAnyE_take (i := 12) (v := ?_) (listed' := #[true, true, true, true, true, true, true, true, true, true, true, true, true, false, false, false, false, false, false, false, false, false, false, false, false]) (by rfl) (by kernel_rfl) (by kernel_rfl) calm_put hS (by rfl) ?_ ?_
              rotate_left
              · intro W hW; clear hW; go_simp; try (with_reducible rfl)
              simp only [Act.put, List.getElem_toArray, List.getElem_cons_succ, List.getElem_cons_zero, List.setIfInBounds_toArray, List.set_cons_zero, List.set_cons_succ]
              refine wpAnyE_take (i := 13) (v := ?_) (listed' := #[true, true, true, true, true, true, true, true, true, true, true, true, true, true, false, false, false, false, false, false, false, false, false, false, false]) (by rfl) (by kernel_rfl) (by kernel_rfl) calm_put hS (by rfl) ?_ ?_
              rotate_left
              · intro W hW; clear hW; go_simp; try (with_reducible rfl)
              simp only [Act.put, List.getElem_toArray, List.getElem_cons_succ, List.getElem_cons_zero, List.setIfInBounds_toArray, List.set_cons_zero, List.set_cons_succ]
              refine wpAnyE_skip (i := 14) (listed' := #[true, true, true, true, true, true, true, true, true, true, true, true, true, true, true, false, false, false, false, false, false, false, false, false, false]) (by rfl) (by kernel_rfl) (by kernel_rfl) calm_put hS (by rfl) ?_
              simp only [Act.put, List.getElem_toArray, List.getElem_cons_succ, List.getElem_cons_zero, List.setIfInBounds_toArray, List.set_cons_zero, List.set_cons_succ]
              refine wpAnyE_skip (i := 15) (listed' := #[true, true, true, true, true, true, true, true, true, true, true, true, true, true, true, true, false, false, false, false, false, false, false, false, false]) (by rfl) (by kernel_rfl) (by kernel_rfl) calm_put hS (by rfl) ?_
              simp only [Act.put, List.getElem_toArray, List.getElem_cons_succ, List.getElem_cons_zero, List.setIfInBounds_toArray, List.set_cons_zero, List.set_cons_succ]
              refine wpAnyE_skip (i := 16) (listed' := #[true, true, true, true, true, true, true, true, true, true, true, true, true, true, true, true, true, false, false, false, false, false, false, false, false]) (by rfl) (by kernel_rfl) (by kernel_rfl) calm_put hS (by rfl) ?_
              simp only [Act.put, List.getElem_toArray, List.getElem_cons_succ, List.getElem_cons_zero, List.setIfInBounds_toArray, List.set_cons_zero, List.set_cons_succ]
              refine wpAnyE_skip (i := 17) (listed' := #[true, true, true, true, true, true, true, true, true, true, true, true, true, true, true, true, true, true, false, false, false, false, false, false, false]) (by rfl) (by kernel_rfl) (by kernel_rfl) calm_put hS (by rfl) ?_
              simp only [Act.put, List.getElem_toArray, List.getElem_cons_succ, List.getElem_cons_zero, List.setIfInBounds_toArray, List.set_cons_zero, List.set_cons_succ]
              refine wpAnyE_skip (i := 18) (listed' := #[true, true, true, true, true, true, true, true, true, true, true, true, true, true, true, true, true, true, true, false, false, false, false, false, false]) (by rfl) (by kernel_rfl) (by kernel_rfl) calm_put hS (by rfl) ?_
              simp only [Act.put, List.getElem_toArray, List.getElem_cons_succ, List.getElem_cons_zero, List.setIfInBounds_toArray, List.set_cons_zero, List.set_cons_succ]
              refine wpAnyE_skip (i := 19) (listed' := #[true, true, true, true, true, true, true, true, true, true, true, true, true, true, true, true, true, true, true, true, false, false, false, false, false]) (by rfl) (by kernel_rfl) (by kernel_rfl) calm_put hS (by rfl) ?_
              simp only [Act.put, List.getElem_toArray, List.getElem_cons_succ, List.getElem_cons_zero, List.setIfInBounds_toArray, List.set_cons_zero, List.set_cons_succ]
              refine wpAnyE_none (i := 20) (listed' := #[true, true, true, true, true, true, true, true, true, true, true, true, true, true, true, true, true, true, true, true, true, false, false, false, false]) (by rfl) (by kernel_rfl) (by kernel_rfl) (by rfl) (fun _ => hS) ?_
              simp only [Act.put, List.getElem_toArray, List.getElem_cons_succ, List.getElem_cons_zero, List.setIfInBounds_toArray, List.set_cons_zero, List.set_cons_succ]
              refine wpAnyE_skip (i := 21) (listed' := #[true, true, true, true, true, true, true, true, true, true, true, true, true, true, true, true, true, true, true, true, true, true, false, false, false]) (by rfl) (by kernel_rfl) (by kernel_rfl) calm_put hS (by rfl) ?_
              simp only [Act.put, List.getElem_toArray, List.getElem_cons_succ, List.getElem_cons_zero, List.setIfInBounds_toArray, List.set_cons_zero, List.set_cons_succ]
              refine wpAnyE_skip (i := 22) (listed' := #[true, true, true, true, true, true, true, true, true, true, true, true, true, true, true, true, true, true, true, true, true, true, true, false, false]) (by rfl) (by kernel_rfl) (by kernel_rfl) calm_put hS (by rfl) ?_
              simp only [Act.put, List.getElem_toArray, List.getElem_cons_succ, List.getElem_cons_zero, List.setIfInBounds_toArray, List.set_cons_zero, List.set_cons_succ]
              refine wpAnyE_take (i := 23) (v := ?_) (listed' := #[true, true, true, true, true, true, true, true, true, true, true, true, true, true, true, true, true, true, true, true, true, true, true, true, false]) (by rfl) (by kernel_rfl) (by kernel_rfl) calm_put hS (by rfl) ?_ ?_
              rotate_left
              · intro W hW; clear hW; go_simp; try (with_reducible rfl)
              simp only [Act.put, List.getElem_toArray, List.getElem_cons_succ, List.getElem_cons_zero, List.setIfInBounds_toArray, List.set_cons_zero, List.set_cons_succ]
              refine wpAnyE_take (i := 24) (v := ?_) (listed' := #[true, true, true, true, true, true, true, true, true, true, true, true, true, true, true, true, true, true, true, true, true, true, true, true, true]) (by rfl) (by kernel_rfl) (by kernel_rfl) calm_put hS (by rfl) ?_ ?_
              rotate_left
              · intro W hW; clear hW; go_simp; try (with_reducible rfl)
              simp only [Act.put, List.getElem_toArray, List.getElem_cons_succ, List.getElem_cons_zero, List.setIfInBounds_toArray, List.set_cons_zero, List.set_cons_succ]
              refine wpAnyE_done (by kernel_rfl) ?_ _
              refine calm_normal ?_
              have hk := hS.1
              have HB12 := Lib.hid ((HB11.out.kept hk).1)
              have HC12 := Lib.hid (Cells.kept HC11.out hk)
              have HGL12 := Lib.hid (Nat.lt_of_lt_of_le HGL11.out hk.size)
              have HP12 := Lib.hid (hk.block HP11.out)
              have HS12 := Lib.hid (hk.block HS11.out)
              clear hS
              clear HB11 HC11 HGL11 HP11 HS11 hk
              generalize w11.drew = w12 at *
              go_wp2
              go_roundw
              case rel => exact ⟨s + 1, hlt, by go_num, Lib.hid (HB12.out.less (fun k hk => by simp at hk ⊢; exact .inr (.inr hk))), HC12, HGL12⟩
              case measure => simp [intOf]; omega
          · skip
            have HRL : Hid (T2.readL (rowL n) t k = (secN ((s : Int) + 1), (0 : Int))) := Lib.hid (by rw [hrl, if_neg hkx, hcn (fun h => hkx (.inl h)) (fun h => hkx (.inr h))])
            clear hrl hcn
            have t1 : ((k : Int) == (x : Int)) = false := by simp; omega
            have t2 : (k == x) = false := by simp; omega
            have t3 : ((k : Int) == (y : Int)) = false := by simp; omega
            have t4 : (k == y) = false := by simp; omega
            have t5 : ¬ k = x := fun h => hkx (.inl h)
            have t6 : ¬ k = y := fun h => hkx (.inr h)
            clear hkx
            go_wp2_with fail
            refine Calls.mono (HHM.out _ (HES.out _ HC7.out HGL7.out)) ?_
            rintro e w8 ⟨rfl, hk⟩
            have HB8 := Lib.hid ((HB7.out.kept hk).1)
            have HC8 := Lib.hid (Cells.kept HC7.out hk)
            have HGL8 := Lib.hid (Nat.lt_of_lt_of_le HGL7.out hk.size)
            clear HB7 HC7 HGL7 hk HHM
            go_wp2_with (refine stop_at (o := ⟨some 16, _, _, _, _, _⟩) ?_)
            refine Stop.mk ?_
            refine wpList_new_row rfl rfl _ _ rfl rfl ty_plc _ zero_plc rfl [.int .i64 ((k : Int)), .int .i64 ((k : Int) + (t : Int))] rfl rfl (one_plc _ _) rfl ?_
            intro w9 hz hs hk
            have HP9 := hz
            have HB9 := Lib.hid (BK.push HB8.out hk _ (Nat.le_refl _) hs)
            have HC9 := Lib.hid (Cells.kept HC8.out hk)
            have HGL9 := Lib.hid (Nat.lt_of_lt_of_le HGL8.out hk.size)
            have GE_Pb := Lib.hid (HB8.out.keeps.size)
            generalize w8.heap.size = Pb at *
            clear HB8 HC8 HGL8 hz hs hk 
            go_wp2_with fail
            have hc := st_Read HB9.out HU2.out (HES.out _ HC9.out HGL9.out) HNR.out (by rw [rowL_len]; omega) (s : Int) t k (by rw [rowL_len]; omega) HTD.out (by rw [rowL_len]; exact hkk) HSP.out
            rw [HRL.out] at hc
            refine Calls.mono (hc) ?_
            rintro e w10 ⟨rfl, hk⟩
            have HB10 := Lib.hid ((HB9.out.kept hk).1)
            have HC10 := Lib.hid (Cells.kept HC9.out hk)
            have HGL10 := Lib.hid (Nat.lt_of_lt_of_le HGL9.out hk.size)
            have HP10 := Lib.hid (hk.block HP9.out)
            clear HB9 HC9 HGL9 HP9 hk hc HRL HSP HTD
            go_wp2_with (refine stop_at (o := ⟨some 18, _, _, _, _, _⟩) ?_)
            refine Stop.mk ?_
            refine wpList_new_row rfl rfl _ _ rfl rfl ty_sec (u8s zeroB) zero_sec (by rw [u8s_length, zeroB_length]) (u8s (secN ((s : Int) + 1))) rfl (by rw [u8s_length, secN_len]) (u8s_one _) rfl ?_
            intro w11 hz hs hk
            have HS11 := hz
            have HB11 := Lib.hid (BK.push HB10.out hk _ (Nat.le_refl _) hs)
            have HC11 := Lib.hid (Cells.kept HC10.out hk)
            have HGL11 := Lib.hid (Nat.lt_of_lt_of_le HGL10.out hk.size)
            have HP11 := Lib.hid (hk.block HP10.out)
            have GE_Sb := Lib.hid (HB10.out.keeps.size)
            generalize w10.heap.size = Sb at *
            clear HB10 HC10 HGL10 HP10 hz hs hk 
            have p0 : w11.cell? ⟨Pb, 0, none⟩ = some (.int .i64 (k : Int)) := cell_of_row _ _ 0 _ _ _ HP11.out
            go_upto_region 27 with fail
            clear p0
            have hS : Kept w11 w11.drew ∧ w11.drew.heap[Sb]? = some (.cells (u8s (secN ((s : Int) + 1))).toArray 34 (0, 0)) := ⟨(Kept.refl _).drew, HS11.out⟩
            refine wp_region_calm ?_
            refine wp_region_E (fun W => Kept w11 W ∧ W.heap[Sb]? = some (.cells (u8s (secN ((s : Int) + 1))).toArray 34 (0, 0))) 100 (by kernel_rfl) ?_
            refine wpAnyE_take (i := 0) (v := ?_) (listed' := #[true, false, false, false, false, false, false, false, false, false, false, false, false, false, false, false, false, false, false, false, false, false, false, false, false]) (by rfl) (by kernel_rfl) (by kernel_rfl) calm_put hS (by rfl) ?_ ?_
            rotate_left
            · intro W hW; clear hW; go_simp; try (with_reducible rfl)
            simp only [Act.put, List.getElem_toArray, List.getElem_cons_succ, List.getElem_cons_zero, List.setIfInBounds_toArray, List.set_cons_zero, List.set_cons_succ]
            refine wpAnyE_take (i := 1) (v := ?_) (listed' := #[true, true, false, false, false, false, false, false, false, false, false, false, false, false, false, false, false, false, false, false, false, false, false, false, false]) (by rfl) (by kernel_rfl) (by kernel_rfl) calm_put hS (by rfl) ?_ ?_
            rotate_left
            · intro W hW; clear hW; go_simp; try (with_reducible rfl)
            simp only [Act.put, List.getElem_toArray, List.getElem_cons_succ, List.getElem_cons_zero, List.setIfInBounds_toArray, List.set_cons_zero, List.set_cons_succ]
            refine wpAnyE_skip (i := 2) (listed' := #[true, true, true, false, false, false, false, false, false, false, false, false, false, false, false, false, false, false, false, false, false, false, false, false, false]) (by rfl) (by kernel_rfl) (by kernel_rfl) calm_put hS (by rfl) ?_
            simp only [Act.put, List.getElem_toArray, List.getElem_cons_succ, List.getElem_cons_zero, List.setIfInBounds_toArray, List.set_cons_zero, List.set_cons_succ]
            refine wpAnyE_skip (i := 3) (listed' := #[true, true, true, true, false, false, false, false, false, false, false, false, false, false, false, false, false, false, false, false, false, false, false, false, false]) (by rfl) (by kernel_rfl) (by kernel_rfl) calm_put hS (by rfl) ?_
            simp only [Act.put, List.getElem_toArray, List.getElem_cons_succ, List.getElem_cons_zero, List.setIfInBounds_toArray, List.set_cons_zero, List.set_cons_succ]
            refine wpAnyE_skip (i := 4) (listed' := #[true, true, true, true, true, false, false, false, false, false, false, false, false, false, false, false, false, false, false, false, false, false, false, false, false]) (by rfl) (by kernel_rfl) (by kernel_rfl) calm_put hS (by rfl) ?_
            simp only [Act.put, List.getElem_toArray, List.getElem_cons_succ, List.getElem_cons_zero, List.setIfInBounds_toArray, List.set_cons_zero, List.set_cons_succ]
            refine wpAnyE_skip (i := 5) (listed' := #[true, true, true, true, true, true, false, false, false, false, false, false, false, false, false, false, false, false, false, false, false, false, false, false, false]) (by rfl) (by kernel_rfl) (by kernel_rfl) calm_put hS (by rfl) ?_
            simp only [Act.put, List.getElem_toArray, List.getElem_cons_succ, List.getElem_cons_zero, List.setIfInBounds_toArray, List.set_cons_zero, List.set_cons_succ]
            refine wpAnyE_skip (i := 6) (listed' := #[true, true, true, true, true, true, true, false, false, false, false, false, false, false, false, false, false, false, false, false, false, false, false, false, false]) (by rfl) (by kernel_rfl) (by kernel_rfl) calm_put hS (by rfl) ?_
            simp only [Act.put, List.getElem_toArray, List.getElem_cons_succ, List.getElem_cons_zero, List.setIfInBounds_toArray, List.set_cons_zero, List.set_cons_succ]
            refine wpAnyE_skip (i := 7) (listed' := #[true, true, true, true, true, true, true, true, false, false, false, false, false, false, false, false, false, false, false, false, false, false, false, false, false]) (by rfl) (by kernel_rfl) (by kernel_rfl) calm_put hS (by rfl) ?_
            simp only [Act.put, List.getElem_toArray, List.getElem_cons_succ, List.getElem_cons_zero, List.setIfInBounds_toArray, List.set_cons_zero, List.set_cons_succ]
            refine wpAnyE_skip (i := 8) (listed' := #[true, true, true, true, true, true, true, true, true, false, false, false, false, false, false, false, false, false, false, false, false, false, false, false, false]) (by rfl) (by kernel_rfl) (by kernel_rfl) calm_put hS (by rfl) ?_
            simp only [Act.put, List.getElem_toArray, List.getElem_cons_succ, List.getElem_cons_zero, List.setIfInBounds_toArray, List.set_cons_zero, List.set_cons_succ]
            refine wpAnyE_take (i := 9) (v := ?_) (listed' := #[true, true, true, true, true, true, true, true, true, true, false, false, false, false, false, false, false, false, false, false, false, false, false, false, false]) (by rfl) (by kernel_rfl) (by kernel_rfl) calm_put hS (by rfl) ?_ ?_
            rotate_left
            · intro W hW; clear hW; go_simp; try (with_reducible rfl)
            simp only [Act.put, List.getElem_toArray, List.getElem_cons_succ, List.getElem_cons_zero, List.setIfInBounds_toArray, List.set_cons_zero, List.set_cons_succ]
            refine wpAnyE_take (i := 10) (v := ?_) (listed' := #[true, true, true, true, true, true, true, true, true, true, true, false, false, false, false, false, false, false, false, false, false, false, false, false, false]) (by rfl) (by kernel_rfl) (by kernel_rfl) calm_put hS (by rfl) ?_ ?_
            rotate_left
            · intro W hW; clear hW; go_simp; try (with_reducible rfl)
            simp only [Act.put, List.getElem_toArray, List.getElem_cons_succ, List.getElem_cons_zero, List.setIfInBounds_toArray, List.set_cons_zero, List.set_cons_succ]
            refine wpAnyE_take (i := 11) (v := ?_) (listed' := #[true, true, true, true, true, true, true, true, true, true, true, true, false, false, false, false, false, false, false, false, false, false, false, false, false]) (by rfl) (by kernel_rfl) (by kernel_rfl) calm_put hS (by rfl) ?_ ?_
            rotate_left
            · intro W hW; clear hW; go_simp; try (with_reducible rfl)
            simp only [Act.put, List.getElem_toArray, List.getElem_cons_succ, List.getElem_cons_zero, List.setIfInBounds_toArray, List.set_cons_zero, List.set_cons_succ]
            refine wpAnyE_take (i := 12) (v := ?_) (listed' := #[true, true, true, true, true, true, true, true, true, true, true, true, true, false, false, false, false, false, false, false, false, false, false, false, false]) (by rfl) (by kernel_rfl) (by kernel_rfl) calm_put hS (by rfl) ?_ ?_
            rotate_left
            · intro W hW; clear hW; go_simp; try (with_reducible rfl)
            simp only [Act.put, List.getElem_toArray, List.getElem_cons_succ, List.getElem_cons_zero, List.setIfInBounds_toArray, List.set_cons_zero, List.set_cons_succ]
            refine wpAnyE_take (i := 13) (v := ?_) (listed' := #[true, true, true, true, true, true, true, true, true, true, true, true, true, true, false, false, false, false, false, false, false, false, false, false, false]) (by rfl) (by kernel_rfl) (by kernel_rfl) calm_put hS (by rfl) ?_ ?_
            rotate_left
            · intro W hW; clear hW; go_simp; try (with_reducible rfl)
            simp only [Act.put, List.getElem_toArray, List.getElem_cons_succ, List.getElem_cons_zero, List.setIfInBounds_toArray, List.set_cons_zero, List.set_cons_succ]
            refine wpAnyE_take (i := 14) (v := ?_) (listed' := #[true, true, true, true, true, true, true, true, true, true, true, true, true, true, true, false, false, false, false, false, false, false, false, false, false]) (by rfl) (by kernel_rfl) (by kernel_rfl) calm_put hS (by rfl) ?_ ?_
            rotate_left
            · intro W hW; clear hW; go_simp; try (with_reducible rfl)
            simp only [Act.put, List.getElem_toArray, List.getElem_cons_succ, List.getElem_cons_zero, List.setIfInBounds_toArray, List.set_cons_zero, List.set_cons_succ]
            refine wpAnyE_take (i := 15) (v := ?_) (listed' := #[true, true, true, true, true, true, true, true, true, true, true, true, true, true, true, true, false, false, false, false, false, false, false, false, false]) (by rfl) (by kernel_rfl) (by kernel_rfl) calm_put hS (by rfl) ?_ ?_
            rotate_left
            · intro W hW; clear hW; go_simp; try (with_reducible rfl)
            simp only [Act.put, List.getElem_toArray, List.getElem_cons_succ, List.getElem_cons_zero, List.setIfInBounds_toArray, List.set_cons_zero, List.set_cons_succ]
            refine wpAnyE_take (i := 16) (v := ?_) (listed' := #[true, true, true, true, true, true, true, true, true, true, true, true, true, true, true, true, true, false, false, false, false, false, false, false, false]) (by rfl) (by kernel_rfl) (by kernel_rfl) calm_put hS (by rfl) ?_ ?_
            rotate_left
            · intro W hW; clear hW; go_simp; try (with_reducible rfl)
            simp only [Act.put, List.getElem_toArray, List.getElem_cons_succ, List.getElem_cons_zero, List.setIfInBounds_toArray, List.set_cons_zero, List.set_cons_succ]
            refine wpAnyE_take (i := 17) (v := .agg (u8s (secN ((s : Int) + 1))).toArray) (listed' := #[true, true, true, true, true, true, true, true, true, true, true, true, true, true, true, true, true, true, false, false, false, false, false, false, false]) (by rfl) (by kernel_rfl) (by kernel_rfl) calm_put hS (by rfl) ?_ ?_
            · intro W hW; skip; exact exec_load_sec _ rfl Sb rfl (secN ((s : Int) + 1)) (secN_len _) (by simpa using Cells.of_block hW.2)
            simp only [Act.put, List.getElem_toArray, List.getElem_cons_succ, List.getElem_cons_zero, List.setIfInBounds_toArray, List.set_cons_zero, List.set_cons_succ]
            refine wpAnyE_take (i := 18) (v := ?_) (listed' := #[true, true, true, true, true, true, true, true, true, true, true, true, true, true, true, true, true, true, true, false, false, false, false, false, false]) (by rfl) (by kernel_rfl) (by kernel_rfl) calm_put hS (by rfl) ?_ ?_
            rotate_left
            · intro W hW; clear hW; go_simp; try (with_reducible rfl)
            simp only [Act.put, List.getElem_toArray, List.getElem_cons_succ, List.getElem_cons_zero, List.setIfInBounds_toArray, List.set_cons_zero, List.set_cons_succ]
            refine wpAnyE_take (i := 19) (v := ?_) (listed' := #[true, true, true, true, true, true, true, true, true, true, true, true, true, true, true, true, true, true, true, true, false, false, false, false, false]) (by rfl) (by kernel_rfl) (by kernel_rfl) calm_put hS (by rfl) ?_ ?_
            rotate_left
            · intro W hW; clear hW; go_simp; try (with_reducible rfl)
            simp only [Act.put, List.getElem_toArray, List.getElem_cons_succ, List.getElem_cons_zero, List.setIfInBounds_toArray, List.set_cons_zero, List.set_cons_succ]
            refine wpAnyE_one (i := 20) (listed' := #[true, true, true, true, true, true, true, true, true, true, true, true, true, true, true, true, true, true, true, true, true, false, false, false, false]) (by rfl) (by kernel_rfl) (by kernel_rfl) (by rfl) (fun K hK => ?_)
            simp only [Act.put, List.getElem_toArray, List.getElem_cons_succ, List.getElem_cons_zero, List.setIfInBounds_toArray, List.set_cons_zero, List.set_cons_succ]
            go_wp2_with fail
            refine Calls.mono (s_sector ((s : Int) + 1) _) ?_
            rintro e wsec ⟨rfl, hks⟩
            have hS := (⟨hS.1.trans hks, hks.block hS.2⟩ : _ ∧ _)
            clear hks
            refine hK _ _ (fun _ => hS) ?_; clear hK K
            refine wpAnyE_take (i := 21) (v := .bool false) (listed' := #[true, true, true, true, true, true, true, true, true, true, true, true, true, true, true, true, true, true, true, true, true, true, false, false, false]) (by rfl) (by kernel_rfl) (by kernel_rfl) calm_put hS (by rfl) ?_ ?_
            · intro W hW; clear hW; exact exec_cmp_secN _ _ rfl (secN ((s : Int) + 1)) (secN_len _) rfl rfl
            simp only [Act.put, List.getElem_toArray, List.getElem_cons_succ, List.getElem_cons_zero, List.setIfInBounds_toArray, List.set_cons_zero, List.set_cons_succ]
            refine wpAnyE_take (i := 22) (v := ?_) (listed' := #[true, true, true, true, true, true, true, true, true, true, true, true, true, true, true, true, true, true, true, true, true, true, true, false, false]) (by rfl) (by kernel_rfl) (by kernel_rfl) calm_put hS (by rfl) ?_ ?_
            rotate_left
            · intro W hW; clear hW; go_simp; try (with_reducible rfl)
            simp only [Act.put, List.getElem_toArray, List.getElem_cons_succ, List.getElem_cons_zero, List.setIfInBounds_toArray, List.set_cons_zero, List.set_cons_succ]
            refine wpAnyE_take (i := 23) (v := ?_) (listed' := #[true, true, true, true, true, true, true, true, true, true, true, true, true, true, true, true, true, true, true, true, true, true, true, true, false]) (by rfl) (by kernel_rfl) (by kernel_rfl) calm_put hS (by rfl) ?_ ?_
            rotate_left
            · intro W hW; clear hW; go_simp; try (with_reducible rfl)
            simp only [Act.put, List.getElem_toArray, List.getElem_cons_succ, List.getElem_cons_zero, List.setIfInBounds_toArray, List.set_cons_zero, List.set_cons_succ]
            refine wpAnyE_take (i := 24) (v := ?_) (listed' := #[true, true, true, true, true, true, true, true, true, true, true, true, true, true, true, true, true, true, true, true, true, true, true, true, true]) (by rfl) (by kernel_rfl) (by kernel_rfl) calm_put hS (by rfl) ?_ ?_
            rotate_left
            · intro W hW; clear hW; go_simp; try (with_reducible rfl)
            simp only [Act.put, List.getElem_toArray, List.getElem_cons_succ, List.getElem_cons_zero, List.setIfInBounds_toArray, List.set_cons_zero, List.set_cons_succ]
            refine wpAnyE_done (by kernel_rfl) ?_ _
            refine calm_normal ?_
            have hk := hS.1
            have HB12 := Lib.hid ((HB11.out.kept hk).1)
            have HC12 := Lib.hid (Cells.kept HC11.out hk)
            have HGL12 := Lib.hid (Nat.lt_of_lt_of_le HGL11.out hk.size)
            have HP12 := Lib.hid (hk.block HP11.out)
            have HS12 := Lib.hid (hk.block HS11.out)
            clear hS
            clear HB11 HC11 HGL11 HP11 HS11 hk
            generalize wsec = w12 at *
            go_wp2
            go_roundw
            case rel => exact ⟨s + 1, hlt, by go_num, Lib.hid (HB12.out.less (fun k hk => by simp at hk ⊢; exact .inr (.inr hk))), HC12, HGL12⟩
            case measure => simp [intOf]; omega
        · have hlt3 : ¬ (s : Int) < 8 * (m : Int) := by omega
          clear hlt hs
          go_wp2_with fail
          have hc := st_Rebuilt HB7.out HU2.out (HES.out _ HC7.out HGL7.out) HNR.out (by rw [rowL_len]; omega) x 0 (by rw [rowL_len]; omega) (by decide) (by rw [rowL_len]; exact hxl)
          rw [HTW.out.rebuilt (by omega) hxl hyl HXY.out (by decide)] at hc
          refine Calls.mono (hc) ?_
          rintro e w8 ⟨rfl, hk⟩
          have HB8 := Lib.hid ((HB7.out.kept hk).1)
          have HC8 := Lib.hid (Cells.kept HC7.out hk)
          have HGL8 := Lib.hid (Nat.lt_of_lt_of_le HGL7.out hk.size)
          clear HB7 HC7 HGL7 hk hc hlt3
          go_wp2_with (refine stop_at (o := ⟨some 21, _, _, _, _, _⟩) ?_)
          refine Stop.mk ?_
          refine wpList_new_row rfl rfl _ _ rfl rfl ty_sec (u8s zeroB) zero_sec (by rw [u8s_length, zeroB_length]) (u8s (zeroB)) rfl (by rw [u8s_length, zeroB_length]) (u8s_one _) rfl ?_
          intro w9 hz hs hk
          have HS9 := hz
          have HB9 := Lib.hid (BK.push HB8.out hk _ (Nat.le_refl _) hs)
          have HC9 := Lib.hid (Cells.kept HC8.out hk)
          have HGL9 := Lib.hid (Nat.lt_of_lt_of_le HGL8.out hk.size)
          have GE_Sb := Lib.hid (HB8.out.keeps.size)
          generalize w8.heap.size = Sb at *
          clear HB8 HC8 HGL8 hz hs hk 
          go_wp2_with (refine stop_at (o := ⟨some 152, _, _, _, _, _⟩) ?_)
          refine Stop.mk ?_
          refine wpList_make_secs rfl _ _ rfl m (by omega) rfl rfl ?_
          intro w10 hz hs hk
          have HG10 := hz
          have HB10 := Lib.hid (BK.push HB9.out hk _ (Nat.le_refl _) hs)
          have HC10 := Lib.hid (Cells.kept HC9.out hk)
          have HGL10 := Lib.hid (Nat.lt_of_lt_of_le HGL9.out hk.size)
          have HS10 := Lib.hid (hk.block HS9.out)
          have GE_Gb := Lib.hid (HB9.out.keeps.size)
          generalize w9.heap.size = Gb at *
          clear HB9 HC9 HGL9 HS9 hz hs hk 
          have hfl := HTW.out.fullL (by omega) (by omega) hxl hyl HXY.out (t := 0) (by decide) (S := List.replicate m zeroB) (by rw [List.length_replicate]; have := HNM.out; omega) (fun s hs => by rw [List.eq_of_mem_replicate hs]; exact zeroB_sec1)
          have hc := st_WriteFull HB10.out HU2.out.inv HU2.out.len HCW.out.1 HCW.out.2 (HES.out _ HC10.out HGL10.out) HNR.out (by rw [rowL_len]; omega) 0 (by rw [rowL_len]; omega) (by decide) (sv := .slice (some ⟨Gb, 0, none⟩) m m) (S := List.replicate m zeroB) (.inr ⟨Gb, 0, m, by rw [List.length_replicate], by rw [List.length_replicate]; exact Nat.le_refl _, (Array.getElem?_eq_some_iff.1 HG10.out).1, by simpa using Cells.of_block HG10.out⟩) (fun s hs => by rw [List.eq_of_mem_replicate hs]; exact zeroB_sec1) (by rw [List.length_replicate, rowL_len]; have := HNM.out; omega)
          rw [hfl] at hc
          go_wp2_with fail
          refine Calls.mono hc ?_
          rintro e wz ⟨rfl, hb, hr⟩
          have HKZ := Lib.hid hb.keeps
          clear hb hr hc hfl
          go_wp2
          go_ret
          exact ⟨rfl, HKZ.out⟩
end
end Go.Proofs.Ytkcemkphehocgaa
