/- UsageHoles: the walk. -/
import Derived.Test.YtpnpconphpbcaaaUho
namespace Go.Proofs.Ytpnpconphpbcaaa
open Go.RowKit Go.ChangeMaps Go.MapKept
set_option linter.unusedVariables false
set_option linter.unusedSimpArgs false

section
variable {w W : World} {R : Nat → Prop} {p : Nat} {T : Tab}
set_option maxHeartbeats 4000000
set_option maxRecDepth 100000
theorem law_holes (a : Int) (v : Value) (l : List Int) (w : World) (hs : ISl w v l) :
    Calls Try.prog 7 #[.int .i64 a, v] w fun e w' => e = .returned (.bool true) ∧ Kept w w' := by
  have HS := Lib.hid hs
  obtain ⟨oa, cap, rfl, hcap, hmax, _⟩ := hs
  unfold maxLen at hmax
  obtain ⟨m, hm, hml⟩ := and_i64 a 7 (by decide) (m := 127) (by decide)
  have hmn : (1 : Int) + (m : Int) = ((m + 1 : Nat) : Int) := by omega
  have hn1 : 1 ≤ m + 1 := by omega
  have hn2 : m + 1 ≤ 128 := by omega
  generalize m + 1 = n at *
  go_enter Try.func7, Try.ntmps7
  go_wp2_with (first
    | (go_at_call 19; refine (usage_shown _).mono ?_; rintro e w1 ⟨rfl, hk1⟩)
    | (go_at_call 20; refine (own_New w _ hk1).mono ?_; rintro e w2 ⟨p, rfl, h2, _⟩; have H2 := Lib.hid (h2.less (R' := fun _ => False) (fun _ h => h.elim)); clear h2)
    | (go_at_call 21; refine (own_Open H2.out 4 n (by decide) hn1 (by omega) rfl).mono ?_; rintro e w3 ⟨rfl, h3, _⟩; have H3 := Lib.hid h3; clear h3)
    | (refine wpList_alloc_abs rfl 48 rfl (bools (noB 128)) zero_128 ?_; intro w4 hz4 hs4 hn4 hk4))
  have hO4 := H3.out.more hk4 w3.heap.size (Nat.le_refl _) hs4
  have H4 := Lib.hid (hO4.less (R' := fun k => k = w3.heap.size) (fun _ h => .inr h))
  have HB4 : Hid (BRow w4 w3.heap.size 48 (noB 128)) := hz4
  have hwB : w.heap.size ≤ w3.heap.size := H3.out.keeps.size
  clear hO4 hz4 hn4 hk4 hs4 hm hmn
  generalize w3.heap.size = B at *
  clear H3
  clear H2 hk1
  go_loopw [8, 10] (fun b i wr => ∃ (k : Nat) (T : Tab) (r : List Int) (lv : List Bool), k ≤ l.length ∧ k ≤ 100 ∧ i = .int .i64 k ∧ b = .int .i64 k ∧ HV T n r lv ∧ (∀ i (h : i < r.length), r[i] < (k : Int)) ∧ Own w (fun k => k = B) wr p T ∧ BRow wr B 48 lv) (fun _ i _ => l.length - (intOf i).toNat)
  case atStart =>
    refine ⟨0, _, _, _, by omega, by omega, rfl, rfl, HV.zero n hn1 hn2, fun i hi => ?_, H4.out, HB4.out⟩
    rw [List.getElem_replicate]; decide
  case round =>
    obtain ⟨k, T, r, lv, hk, hk1, rfl, rfl, hv, hr, hO, hB⟩ := hrel
    have HO := Lib.hid hO; clear hO
    have HV_ := Lib.hid hv; clear hv
    have HR := Lib.hid hr; clear hr
    have HB := Lib.hid hB; clear hB
    have hrl := Lib.hid HV_.out.len
    have hlvl := Lib.hid HV_.out.lvl
    by_cases hlt : k < l.length ∧ k < 100
    · obtain ⟨hlt, h100⟩ := hlt
      obtain ⟨b, off, rfl, ck⟩ := (HS.out.kept HO.out.keeps).at k hlt
      obtain ⟨y, hy, hyl⟩ := and_i64 l[k] 16 (by decide) (m := 65535) (by decide)
      have hyn : (y : Int) % (n : Int) = ((y % n : Nat) : Int) := by norm_cast
      have hsn : y % n < n := Nat.mod_lt _ (by omega)
      generalize l[k] = xl at *
      generalize y % n = s at *
      have hn0 : ((n : Int) == 0) = false := by simp; omega
      have hsr : s < r.length := by rw [hrl.out]; exact hsn
      have hslv : s < lv.length := by rw [hlvl.out]; omega
      by_cases hd : r[s] = -1
      · have hlvs := (HV_.out.iff s hsr hslv).1 hd
        have hfr : ∀ i (hi : i < r.length), r[i] ≠ (k : Int) := fun i hi => by have := HR.out i hi; omega
        have HV' := Lib.hid (HV_.out.put hn2 hsr hd (by omega : (0 : Int) ≤ (k : Int)) hfr)
        have HP := Lib.hid (own_Put HO.out HV_.out.ok 4 (k : Int) s (by rw [HV_.out.slot hsr, hd]) (by omega))
        have cB := HB.out.at hslv
        rw [hlvs] at cB
        have HLS := Lib.hid hlvs; clear hlvs
        clear hd hfr
        go_wp2_with (first
          | (go_at_call 22; refine HP.out.mono ?_; rintro e w5 ⟨rfl, h5, hs5⟩; have HB5 : Hid (BRow w5 B 48 lv) := (hs5 B rfl).trans HB.out; have H5 := Lib.hid h5; clear h5 hs5; clear cB; have cB := HB5.out.at hslv; rw [HLS.out] at cB)
          | (refine wpList_set_bool (o := ⟨none, .store _ _ _, _, _, _, _⟩) HB5.out hslv true rfl _ _ rfl rfl rfl ?_; intro w6 hw6))
        go_roundw
        case rel =>
          refine ⟨k + 1, _, _, _, by omega, by omega, by go_num, by go_num, HV'.out, fun i hi => ?_, H5.out.wrote hw6 rfl hwB, hw6.blk⟩
          rw [List.getElem_set]
          split
          · omega
          · have := HR.out i (by simpa using hi); omega
        case measure => simp [intOf]; omega
      · have hlvs : lv[s] = true := by
          cases h : lv[s] with
          | true => rfl
          | false => exact absurd ((HV_.out.iff s hsr hslv).2 h) hd
        have HP := Lib.hid (own_Put_live HO.out HV_.out.ok 4 (k : Int) s (HV_.out.slot hsr) hd (by omega))
        have cB := HB.out.at hslv
        rw [hlvs] at cB
        have hset : lv.set s true = lv := by rw [← hlvs]; simp
        have HSET := Lib.hid hset; clear hset
        clear hd hlvs
        go_wp2_with (first
          | (go_at_call 22; refine HP.out.mono ?_; rintro e w5 ⟨rfl, rfl⟩)
          | (refine wpList_set_bool (o := ⟨none, .store _ _ _, _, _, _, _⟩) HB.out hslv true rfl _ _ rfl rfl rfl ?_; intro w6 hw6))
        go_roundw
        case rel =>
          rw [HSET.out] at hw6
          refine ⟨k + 1, _, _, _, by omega, by omega, by go_num, by go_num, HV_.out, fun i hi => ?_, HO.out.wrote hw6 rfl hwB, hw6.blk⟩
          have := HR.out i hi; omega
        case measure => simp [intOf]; omega
    · have hkk : l.length ≤ k ∨ (k < l.length ∧ 100 ≤ k) := by omega
      have HR1 : Hid (∀ i (h : i < r.length), r[i] < 1000 ∨ r[i] = 1000 + (i : Int)) := Lib.hid (fun i h => .inl (by have := HR.out i h; omega))
      clear hlt HR HB4 H4 hrl hlvl
      rcases hkk with hkk | ⟨hkk, h100⟩
      all_goals
        go_wp2
        obtain ⟨wa, rfl⟩ : ∃ wa, wa = wr := ⟨_, rfl⟩
        go_loopw [13] (fun x wr => ∃ (T : Tab) (r : List Int) (lv : List Bool), HV T n r lv ∧ (∀ i (h : i < r.length), r[i] < 1000 ∨ r[i] = 1000 + (i : Int)) ∧ Own w (fun k => k = B) wr p T ∧ BRow wr B 48 lv) (fun _ wr => deadB wr B)
        case atStart => exact ⟨T, r, lv, HV_.out, HR1.out, HO.out, HB.out⟩
        case round =>
          clear HV_ HR1 HO HB
          obtain ⟨T, r, lv, hv, hr, hO, hB⟩ := hrel
          have HO := Lib.hid hO; clear hO
          have HV_ := Lib.hid hv; clear hv
          have HR := Lib.hid hr; clear hr
          have HB := Lib.hid hB; clear hB
          have hrl := Lib.hid HV_.out.len
          have hlvl := Lib.hid HV_.out.lvl
          rcases HV_.out.hole hn2 with ⟨h1, h2⟩ | ⟨j, h1, hj, h2, hj128, h3, h4⟩
          · have HH := Lib.hid (own_Hole_none HO.out HV_.out.ok 4 HV_.out.g4 h1)
            have hll := liveL_all r h2
            have HLA := Lib.hid h2; clear h2
            have hbl := own_Blocks HO.out HV_.out.ok 4 HV_.out.g4
            rw [hll, hrl.out] at hbl
            have HBL := Lib.hid hbl; clear hbl
            have hct := fun (W : World) (hW : Own w (fun k => k = B) W p T) => own_Count hW HV_.out.ok 4 HV_.out.g4
            rw [hll, hrl.out] at hct
            have HCT := Lib.hid hct; clear hct
            have e1 : ((n : Int) != (n : Int)) = false := by simp
            clear h1 hll
            go_wp2_with (first
              | (go_at_call 24; refine HH.out.mono ?_; rintro e w5 ⟨rfl, rfl⟩)
              | (go_at_call 25; refine HBL.out.mono ?_; rintro e w6 ⟨g, cap2, rfl, hrow, hgl, h6, hs6, hk6⟩; have H6 := Lib.hid h6; have HROW := Lib.hid hrow; clear h6 hs6 hrow)
              | (go_at_call 26; refine (HCT.out _ H6.out).mono ?_; rintro e w7 ⟨rfl, h7, hs7, hk7⟩; have H7 := Lib.hid h7; have HROW7 := Lib.hid (HROW.out.kept hk7); clear h7 hs7))
            clear HH HBL HCT
            obtain ⟨wb, rfl⟩ : ∃ wb, wb = wr := ⟨_, rfl⟩
            go_loopw [17] (fun i wr => ∃ q : Nat, q ≤ n ∧ i = .int .i64 q ∧ Own w (fun k => k = B) wr p T ∧ IRow wr g r) (fun i _ => n - (intOf i).toNat)
            case atStart => exact ⟨0, by omega, rfl, H7.out, HROW7.out⟩
            case round =>
              obtain ⟨q, hq, rfl, hO, hrow⟩ := hrel
              have HO2 := Lib.hid hO; clear hO
              have HROW2 := Lib.hid hrow; clear hrow
              by_cases hqn : q < n
              · have hqr : q < r.length := by rw [hrl.out]; exact hqn
                have hne := HLA.out q hqr
                have hbk := own_Block HO2.out HV_.out.ok 4 q (HV_.out.slot hqr) hne
                have hfd := own_FindK HO2.out r[q] _ (HV_.out.ok.of 4 q _ (HV_.out.slot hqr) hne)
                simp only [findV] at hfd
                have crow := fun (W : World) (hk : Kept wr W) => (HROW2.out.kept hk).at q hqr
                have HCR := Lib.hid crow; clear crow
                clear hne
                generalize r[q] = x at *
                have HBK := Lib.hid hbk; clear hbk
                have HFD := Lib.hid hfd; clear hfd
                have e2 : (x != x) = false := by simp
                have e3 : ((q : Int) != (q : Int)) = false := by simp
                go_wp2_with (first
                  | (go_at_call 27; refine HBK.out.mono ?_; rintro e w8 ⟨rfl, rfl⟩)
                  | (go_at_call 28; refine HFD.out.mono ?_; rintro e w9 ⟨rfl, h9, hk9⟩; have H9 := Lib.hid h9; have HROW9 := Lib.hid (HROW2.out.kept hk9); have cr := HCR.out _ hk9; clear h9))
                go_roundw
                case rel => exact ⟨q + 1, by omega, by go_num, H9.out, HROW9.out⟩
                case measure => simp [intOf]; omega
              · go_wp2
                go_ret
                exact ⟨rfl, HO2.out.keeps⟩
          · have HH := Lib.hid (own_Hole_some HO.out HV_.out.ok 4 HV_.out.g4 h1)
            have hjn : j < n := by rw [← hrl.out]; exact hj
            have hjlv : j < lv.length := by rw [hlvl.out]; exact hj128
            have hlvj := h3 hjlv
            have HLT := Lib.hid h4; clear h4 h3
            have hfr : ∀ i (hi : i < r.length), r[i] ≠ 1000 + (j : Int) := fun i hi e => by
              rcases HR.out i hi with h | h
              · omega
              · have : i = j := by omega
                subst this; omega
            have HV' := Lib.hid (HV_.out.put hn2 hj h2 (by omega : (0 : Int) ≤ 1000 + (j : Int)) hfr)
            have HP := Lib.hid (own_Put HO.out HV_.out.ok 4 (1000 + (j : Int)) j (by rw [HV_.out.slot hj, h2]) (by omega))
            have cB := HB.out.at hjlv
            rw [hlvj] at cB
            have HLJ := Lib.hid hlvj; clear hlvj
            clear h1 h2 hfr
            go_wp2_with (first
              | (go_at_call 24; refine HH.out.mono ?_; rintro e w5 ⟨rfl, rfl⟩)
              | (go_at_call 22; refine HP.out.mono ?_; rintro e w5 ⟨rfl, h5, hs5⟩; have HB5 : Hid (BRow w5 B 48 lv) := (hs5 B rfl).trans HB.out; have H5 := Lib.hid h5; clear h5 hs5; clear cB))
            clear HH HP
            go_loop [15] (fun i => ∃ q : Nat, q ≤ j ∧ i = .int .i64 q) (fun i => j - (intOf i).toNat)
            case atStart => exact ⟨0, by omega, rfl⟩
            case round =>
              obtain ⟨q, hq, rfl⟩ := hrel
              by_cases hqj : q < j
              · have hql : q < lv.length := by omega
                have cq := HB5.out.at hql
                rw [HLT.out q hql hqj] at cq
                go_wp2
                go_round
                case rel => exact ⟨q + 1, by omega, by go_num⟩
                case measure => simp [intOf]; omega
              · go_wp2_with (refine wpList_set_bool (o := ⟨none, .store _ _ _, _, _, _, _⟩) HB5.out hjlv true rfl _ _ rfl rfl rfl ?_; intro w6 hw6)
                go_roundw
                case rel =>
                  refine ⟨_, _, _, HV'.out, fun i hi => ?_, H5.out.wrote hw6 rfl hwB, hw6.blk⟩
                  rw [List.getElem_set]
                  split
                  · rename_i e; right; rw [e]
                  · exact HR.out i (by simpa using hi)
                case measure =>
                  rw [deadB_eq (lv := lv.set j true) hw6.blk, deadB_eq HB.out]
                  exact dead_set lv j hjlv HLJ.out
end
end Go.Proofs.Ytpnpconphpbcaaa
