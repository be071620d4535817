/- CheckLasts' walk. -/
import Derived.Test.YtpeclkhppgabfaaDoorClt
import Derived.Test.YtpeclkhppgabfaaDoorIum
import Derived.Test.YtpeclkhppgabfaaDoorIsr
import Derived.Test.YtpeclkhppgabfaaDoorPaL
import Derived.Test.YtpeclkhppgabfaaDoorPaN
import Derived.BigQuiet
namespace Go.Proofs.YtpeclkhppgabfaaDoor
open Go.RowKit
set_option linter.unusedVariables false
set_option linter.unusedSimpArgs false
theorem strB_first : strB firstB = ⟨#[102, 105, 114, 115, 116]⟩ := by kernel_rfl
theorem mem_none {y : List Int} {Ms : List (List Int)} {k : Nat} (h : y ∉ Ms.take k) (hk : k < Ms.length) (hn : y ≠ Ms.getD k []) : y ∉ Ms.take (k + 1) := by
  rw [List.take_add_one, List.getElem?_eq_getElem hk]
  rw [List.getD_eq_getElem?_getD, List.getElem?_eq_getElem hk] at hn
  simp only [Option.toList_some, List.mem_append, List.mem_singleton]
  intro hh
  rcases hh with hh | hh
  · exact h hh
  · exact hn hh
section
set_option maxHeartbeats 16000000
set_option maxRecDepth 100000
theorem law_lasts10 (vl : Value) (L : List (List Int)) (va : Value) (As : List Int) (vm : Value) (Us : List Int) (a3 : Int) (w : World) (hl : RSrc w vl L) (hra : ISrc w va As) (hrm : USrc w vm Us) : Calls Tryd.prog 6 #[vl, va, vm, .int .i64 a3] w fun e w' => e = .returned (.bool true) ∧ Kept w w' := by
  have HS := Lib.hid hl
  have HA := Lib.hid hra
  have HU := Lib.hid hrm
  obtain ⟨oa, capl, rfl, _, _, _⟩ := hl
  obtain ⟨ob, capa, rfl, _, _, _⟩ := hra
  obtain ⟨oc, capm, rfl, _, _, _⟩ := hrm
  obtain ⟨gd, hgd, hgdl⟩ := and_low a3 2 (by decide) (m := 3) (by decide)
  clear hgdl
  obtain ⟨T1, X0, hs1, hu0, hq1⟩ := first_laid
  have HS1 := Lib.hid hs1
  have HU0 := Lib.hid hu0
  have HQ1 := Lib.hid (hq1.mono (M' := fun y => y ∈ [firstB]) (fun y hy => by simp [hy]) (Nat.le_refl _))
  clear hs1 hu0 hq1
  go_enter Tryd.func6, Tryd.ntmps6
  go_wp2_with fail
  refine Calls.mono (law_shown10 _) ?_
  rintro e w1 ⟨rfl, hk1⟩
  have HK1 := Lib.hid hk1
  clear hk1
  go_wp2_with fail
  refine Calls.mono (bank10 3 (by decide) w w1 (fun k => k ∈ ([] : List Nat)) HK1.out (fun k h => by cases h)) ?_
  rintro e w2 ⟨q, rfl, hb2, _⟩
  have HB2 := Lib.hid hb2
  clear hb2 HK1
  go_wp2_with (refine stop_at (o := ⟨some 31, _, _, _, _, _⟩) ?_)
  refine Stop.mk ?_
  refine wpList_lit_ints rfl 3 (by decide) _ rfl [0, 1, 2] (by kernel_rfl) ?_
  intro w3 hz3 hs3 hk3
  have HC3 := Lib.hid (by simpa using Cells.of_block hz3.out : Cells w3 w2.heap.size 0 (ints [0, 1, 2]))
  have HB3 := Lib.hid (HB2.out.pushR hk3 w2.heap.size (Nat.le_refl _) hs3)
  generalize w2.heap.size = B at *
  clear hz3 hs3 hk3 HB2
  go_wp2_with (refine stop_at (o := ⟨some 34, _, _, _, _, _⟩) ?_)
  refine Stop.mk ?_
  refine wpList_str_bytes rfl rfl 5 (by decide) _ rfl _ rfl firstB (by kernel_rfl) rfl ?_
  intro w4 hz4 hs4 hk4
  have HX4 := hz4
  have HB4 := Lib.hid (HB3.out.kept hk4).1
  have HC4 := Lib.hid (HC3.out.kept hk4)
  generalize w3.heap.size = B3 at *
  clear hz4 hs4 hk4 HB3 HC3
  have hc := check_Save HB4.out B 3 [0, 1, 2] (by simp) HC4.out (by decide) 0 (by decide) 1 (by decide) (.slice (some ⟨B3, 0, none⟩) 5 5) firstB (Src.of_cells (n := 5) (c := 5) HX4.out rfl (by decide)) (by decide) firstB_byte (HU0.out.less (by decide))
  rw [HS1.out] at hc
  have HCA := Lib.hid hc
  clear hc
  go_wp2_with fail
  refine Calls.mono HCA.out ?_
  rintro e w5 ⟨rfl, hb5, hs5⟩
  have HB5 : Hid (BK w (fun k => k ∈ [B]) w5 q T1) := Lib.hid hb5
  have HC5 := Lib.hid (hs5.cells (B := B) (by simp) HC4.out)
  clear hb5 hs5 HCA HB4 HC4 HX4
  go_wp2_with (refine stop_at (o := ⟨some 38, _, _, _, _, _⟩) ?_)
  refine Stop.mk ?_
  refine wpList_oneG Tryd.underlying43 str_infoG (by decide) rfl _ rfl (.string ⟨#[102, 105, 114, 115, 116]⟩) rfl rfl ?_
  intro w6 hz6 hs6 hk6
  have HE6 : Hid (OwnG w w6 9 (.slice (some ⟨w5.heap.size, 0, none⟩) 1 1) (strsL [firstB])) := Lib.hid (by
    have := OwnG.lit (w0 := w) hz6.out HB5.out.keeps.size
    show OwnG w w6 _ _ [.string (strB firstB)]
    rw [strB_first]; exact this)
  have HB6 : Hid (BK w (fun k => k = B ∨ (Value.slice (some ⟨w5.heap.size, 0, none⟩) 1 1).ownBlock = some k) w6 q T1) := Lib.hid ((HB5.out.more hk6 w5.heap.size (Nat.le_refl _) hs6).less fun k hk => by
    rcases hk with hk | hk
    · exact .inl (by simp [hk])
    · simp only [Value.ownBlock, Option.some.injEq] at hk; exact .inr hk.symm)
  have HC6 := Lib.hid (HC5.out.kept hk6)
  generalize (Value.slice (some ⟨w5.heap.size, 0, none⟩) 1 1) = ve0 at *
  clear hz6 hs6 hk6 HB5 HC5
  obtain ⟨wa, rfl⟩ : ∃ wa, wa = w6 := ⟨_, rfl⟩
  go_upto_block 0 with fail
  go_cut [12] (fun ev wc => ∃ (ve : Value) (Ms : List (List Int)) (T : BankT) (t : Nat) (X : Int → List Int) (s : Int) (A : Nat) (G : Int), ve = ev ∧ t ≤ 2000 ∧ Ms.length ≤ 2 ∧ Hid (QC T t X s A G (fun y => y ∈ Ms)) ∧ Hid (BK w (fun k => k = B ∨ ve.ownBlock = some k) wc q T) ∧ Hid (Cells wc B 0 (ints [0, 1, 2])) ∧ Hid (OwnG w wc 9 ve (strsL Ms)) ∧ Hid (∀ x ∈ Ms, ∀ y ∈ x, IsByte y))
  case first =>
    go_wp2
    go_loopw [12, 13] (fun ev i wr => ∃ (ve : Value) (k : Nat) (Ms : List (List Int)) (T : BankT) (t : Nat) (X : Int → List Int) (s : Int) (A : Nat) (G : Int), ve = ev ∧ i = .int .i64 k ∧ k ≤ L.length ∧ k ≤ 6 ∧ t ≤ 96 + 192 * k ∧ s ≤ 1 + k ∧ Ms.length ≤ 2 ∧ Hid (QC T t X s A G (fun y => y ∈ Ms)) ∧ Hid (BK w (fun k => k = B ∨ ve.ownBlock = some k) wr q T) ∧ Hid (Cells wr B 0 (ints [0, 1, 2])) ∧ Hid (OwnG w wr 9 ve (strsL Ms)) ∧ Hid (∀ x ∈ Ms, ∀ y ∈ x, IsByte y)) (fun _ i _ => L.length - (intOf i).toNat)
    case atStart => exact ⟨_, 0, [firstB], T1, 96, X0, 1, 0, 1, rfl, rfl, Nat.zero_le _, by decide, by decide, by decide, by decide, HQ1, HB6, HC6, HE6, Lib.hid (fun x hx => by rw [List.mem_singleton.1 hx]; exact firstB_byte)⟩
    case round =>
      clear HQ1 HB6 HC6 HE6
      obtain ⟨ve, k, Ms, T, t, X, s, A, G, rfl, rfl, hk, hk6, ht, hs, hMs, HQ, HB, HC, HE, HBY⟩ := hrel
      by_cases hlt : k < L.length ∧ k < 6
      · obtain ⟨hlt, h6⟩ := hlt
        obtain ⟨bst, a, hld, ha, hba, hbx, hbm, hbw, hbmax, hbs, hbvis, hblen, hbby⟩ := HQ.out.load
        have HR := Lib.hid (fun (T1 : BankT) (h1 : Arc T1 3 200 AnyV t) (h1c : ∀ c, c < 3 → Clean T1 200 c) (h1N : ∀ c k, T1.N c k = T.N c k) (x : List Int) (hx : x.length ≤ 300) (hb : ∀ y ∈ x, IsByte y) => HQ.out.round (by omega) (by omega) hld ha hbx hbw hbmax hbs hbvis h1 h1c h1N hx hb)
        have hc := check_Load HB.out (HQ.out.quiet.use (by decide) (by omega)) B 3 [0, 1, 2] HC.out (by decide)
        rw [hld] at hc
        clear hld hbx hbw hbmax hbvis
        obtain ⟨ar, g, by_, sn, fd⟩ := bst
        simp only [] at hba hbm hbs hblen hbby hc HR
        have hba' : ar = (a : Int) := hba
        subst hba'
        clear hba
        obtain ⟨nb, hnb⟩ : ∃ nb, by_.length = nb := ⟨_, rfl⟩
        have HNB := Lib.hid hnb
        have HBB := Lib.hid hbby
        have HBM := Lib.hid hbm
        have hnb17 : nb ≤ 1696 := by omega
        clear hnb hbby hbm hblen
        have HCA := Lib.hid hc
        clear hc
        go_wp2_with fail
        refine Calls.mono HCA.out ?_
        rintro e w8 ⟨bv, he, hown, hk8⟩
        replace he : e = .returned (.tuple #[.agg #[.int .i64 (a : Int), .int .i64 g, bv, .int .i64 sn], .int .i64 0]) := he
        subst he
        have HB8 := Lib.hid (HB.out.pushOwn hk8 hown)
        have HO8 := Lib.hid (ownsRow_base hown (Nat.zero_le _))
        have HC8 := Lib.hid (HC.out.kept hk8)
        have HE8 := Lib.hid (HE.out.kept hk8)
        clear hk8 HCA HB HC HE
        go_wp2_with (refine stop_at (o := ⟨some 14, _, _, _, _, _⟩) ?_)
        refine Stop.mk ?_
        refine wpList_new_row rfl rfl _ _ rfl rfl ty_found zeroF zero_found rfl [.int .i64 (a : Int), .int .i64 g, bv, .int .i64 sn] rfl rfl (best_one (b := ⟨(a : Int), g, by_, sn, fd⟩) hown) rfl ?_
        intro w9 hz9 hs9 hk9
        clear hown
        have HB9 := Lib.hid (HB8.out.more hk9 w8.heap.size (Nat.le_refl _) hs9)
        have HO9 := Lib.hid (ownsRow_kept HO8.out hk9)
        have HC9 := Lib.hid (HC8.out.kept hk9)
        have HE9 := Lib.hid (HE8.out.kept hk9)
        have HZ9 := hz9
        generalize w8.heap.size = B14 at *
        clear hz9 hs9 hk9 HB8 HO8 HC8 HE8
        obtain ⟨ao, cp, rfl, hce⟩ := HE9.out.form
        have HCE := Lib.hid hce
        obtain ⟨nm, hnm⟩ : ∃ nm, Ms.length = nm := ⟨_, rfl⟩
        have HNM := Lib.hid hnm
        have HLE := Lib.hid ((strsL_len Ms).trans hnm)
        have hnm2 : nm ≤ 2 := by omega
        rw [HLE.out] at HB9 HE9 ⊢
        clear hce hnm hMs
        have f0 : w9.cell? ⟨B14, 0, none⟩ = some (.int .i64 (a : Int)) := cell_of_row _ _ 0 _ _ _ HZ9.out
        go_wp2
        go_loopw [16, 17] (fun iv kv wr => ∃ (j : Nat) (is : Bool), j ≤ nm ∧ iv = .bool is ∧ kv = .int .i64 j ∧ Hid (is = false → by_ ∉ Ms.take j) ∧ Hid (Kept w9 wr)) (fun _ kv _ => nm - (intOf kv).toNat)
        case atStart => exact ⟨0, false, Nat.zero_le _, rfl, rfl, Lib.hid (fun _ h => by simp at h), Lib.hid (Kept.refl _)⟩
        case round =>
          obtain ⟨j, is, hj, rfl, rfl, HI, HKJ⟩ := hrel
          by_cases hjl : j < nm
          · obtain ⟨g3, rfl, hb3⟩ := HCE.out j (by rw [HLE.out]; exact hjl)
            rw [strsL_at] at hb3
            have HM3 := Lib.hid hb3
            obtain ⟨mj, hmj⟩ : ∃ mj, Ms.getD j [] = mj := ⟨_, rfl⟩
            rw [hmj] at hb3
            have HMJ := Lib.hid hmj
            clear hmj f0
            have hf2 : w9.cell? ⟨B14, 2, none⟩ = some bv := cell_of_row _ _ 2 _ _ _ HZ9.out
            have HD1 := Lib.hid hf2
            have HD2 := Lib.hid hb3
            clear hf2 hb3
            cases is
            · by_cases heq : by_ = mj
              · go_wp2
                refine wp_still_all (by kernel_rfl) (by kernel_rfl) fun ws hks hhs => ?_
                have hk2 := HKJ.out.trans hks
                have d1 := hk2.cell' HD1.out
                have d2 := hk2.cell' HD2.out
                have HKW := Lib.hid hk2
                have HSX := Lib.hid (own_src (ownsRow_kept HO9.out hk2))
                rw [← heq] at d2
                clear hks hhs hk2 heq HMJ
                iterate 4 still_step
                refine still_conv_str rfl _ rfl bv rfl by_ HSX.out HBB.out ?_
                iterate 7 still_step
                refine wpStill_nil ?_
                clear d1 d2
                go_wp2
                go_roundw
                case rel => exact ⟨j + 1, true, hjl, rfl, by go_num, Lib.hid (fun h => by cases h), HKW⟩
                case measure => simp [intOf]; omega
              · have hmb : ∀ y ∈ mj, IsByte y := HBY.out mj (by rw [← HMJ.out]; exact getD_mem (by rw [HNM.out]; exact hjl))
                have hse : ((strB by_).toList == (strB mj).toList) = false := by rw [strB_eq HBB.out hmb]; simpa using heq
                have HNI := Lib.hid (mem_none (HI.out rfl) (by rw [HNM.out]; exact hjl) (by rw [HMJ.out]; exact heq))
                go_wp2
                refine wp_still_all (by kernel_rfl) (by kernel_rfl) fun ws hks hhs => ?_
                have hk2 := HKJ.out.trans hks
                have d1 := hk2.cell' HD1.out
                have d2 := hk2.cell' HD2.out
                have HKW := Lib.hid hk2
                have HSX := Lib.hid (own_src (ownsRow_kept HO9.out hk2))
                clear hks hhs hk2 heq hmb HMJ
                iterate 4 still_step
                refine still_conv_str rfl _ rfl bv rfl by_ HSX.out HBB.out ?_
                iterate 7 still_step
                refine wpStill_nil ?_
                clear d1 d2 hse
                go_wp2
                go_roundw
                case rel => exact ⟨j + 1, false, hjl, rfl, by go_num, Lib.hid (fun _ => HNI.out), HKW⟩
                case measure => simp [intOf]; omega
            · clear HMJ
              go_upto_region 19 with fail
              go_quiet (fail)
              go_wp2
              go_roundw
              case rel => exact ⟨j + 1, true, hjl, rfl, by go_num, Lib.hid (fun h => by cases h), Lib.hid (HKJ.out.trans ((Kept.refl _).drewN _))⟩
              case measure => simp [intOf]; omega
          · have hge : nm ≤ j := by omega
            have his : is = true := by
              cases is
              · exfalso
                refine HI.out rfl ?_
                rw [List.take_of_length_le (by rw [HNM.out]; omega)]; exact HBM.out
              · rfl
            subst his
            clear hjl f0
            obtain ⟨hg0, hgs, hss⟩ := hbs
            have HB10 : Hid (BK w (fun k => ((k = B ∨ (Value.slice ao nm cp).ownBlock = some k) ∨ bv.ownBlock = some k) ∨ k = B14) _ q T) := Lib.hid (HB9.out.kept HKJ.out).1
            have HC10 := Lib.hid (HC9.out.kept HKJ.out)
            have HE10 := Lib.hid (HE9.out.kept HKJ.out)
            have HO10 := Lib.hid (ownsRow_kept HO9.out HKJ.out)
            have HZ10 := Lib.hid (HKJ.out.block HZ9.out)
            clear HB9 HC9 HE9 HO9 HZ9 HKJ HI
            obtain ⟨b, off, ax, ck, rfl, g1, hsrc⟩ := HS.out.at k hlt
            obtain ⟨x, hx⟩ : ∃ x, x = L[k] := ⟨_, rfl⟩
            rw [← hx] at g1 hsrc
            obtain ⟨nk, hnk⟩ : ∃ nk, nk = x.length := ⟨_, rfl⟩
            rw [← hnk] at g1 hsrc
            obtain ⟨kk, hkk⟩ : ∃ kk, kk = min nk 300 := ⟨_, rfl⟩
            obtain ⟨hn0, hkc, hh, hhl⟩ := hsrc.head kk (by omega)
            generalize x.take kk = xk at *
            have hma : min (nk : Int) 300 = (kk : Int) := by omega
            have hk300 : kk ≤ 300 := by omega
            have HG := Lib.hid g1
            have HH := Lib.hid hh
            have HHL := Lib.hid hhl
            clear hn0 hx hnk hsrc hkk hh hhl g1
            go_upto_region 22 with fail
            refine wp_still_all (by kernel_rfl) (by kernel_rfl) fun ws hks hhs => ?_
            have HBs : Hid (BK w (fun k => ((k = B ∨ (Value.slice ao nm cp).ownBlock = some k) ∨ bv.ownBlock = some k) ∨ k = B14) ws q T) := Lib.hid (HB10.out.kept hks).1
            have hgs' := HBs.out.keeps.cell' HG.out
            have HCs := Lib.hid (HC10.out.kept hks)
            have HEs := Lib.hid (HE10.out.kept hks)
            have HOs := Lib.hid (ownsRow_kept HO10.out hks)
            have HZs := Lib.hid (hks.block HZ10.out)
            clear hks hhs HB10 HC10 HE10 HO10 HZ10
            iterate 10 still_step
            refine still_slice_to rfl _ _ rfl ax nk ck rfl kk rfl hkc ?_
            iterate 1 still_step
            refine wpStill_nil ?_
            clear hgs' HG
            obtain ⟨ar, har⟩ : ∃ ar, ar = decide (k < As.length ∧ k < Us.length) := ⟨_, rfl⟩
            have HAR := Lib.hid har
            clear har
            obtain ⟨wd, rfl⟩ : ∃ wd, wd = ws := ⟨_, rfl⟩
            go_upto_region 23 with fail
            go_cut [106] from 97 to 106 (fun v wc => wc = wd ∧ v = .bool ar)
            case first =>
              clear HR HBM HCE HNM HLE HS HH HHL
              by_cases hA : k < As.length
              · by_cases hU : k < Us.length
                · go_wp2
                  go_meet
                  case rel => exact ⟨rfl, by rw [HAR.out, decide_eq_true (show k < As.length ∧ k < Us.length from ⟨hA, hU⟩)]⟩
                · go_wp2
                  go_meet
                  case rel => exact ⟨rfl, by rw [HAR.out, decide_eq_false (fun h : k < As.length ∧ k < Us.length => hU h.2)]⟩
              · go_wp2
                go_meet
                case rel => exact ⟨rfl, by rw [HAR.out, decide_eq_false (fun h : k < As.length ∧ k < Us.length => hA h.1)]⟩
            case rest =>
            obtain ⟨rfl, rfl⟩ := hcut
            go_upto_if 106 with fail
            go_cut [] from 107 to 117 (fun wc => ∃ T1 : BankT, Hid (Arc T1 3 200 AnyV t) ∧ Hid (∀ c, c < 3 → Clean T1 200 c) ∧ Hid (∀ c k, T1.N c k = T.N c k) ∧ Hid (Us.length ≤ k → T1.armed = 0) ∧ Hid (BK w (fun k => ((k = B ∨ (Value.slice ao nm cp).ownBlock = some k) ∨ bv.ownBlock = some k) ∨ k = B14) wc q T1) ∧ Hid (Cells wc B 0 (ints [0, 1, 2])) ∧ Hid (OwnG w wc 9 (.slice ao nm cp) (strsL Ms)) ∧ Hid (wc.ownsRow 0 5 1 bv by_.length (u8s by_)) ∧ Hid (wc.heap[B14]? = some (.cells [Value.int .i64 (a : Int), .int .i64 g, bv, .int .i64 sn].toArray 30 (0, 0))))
            case first =>
              clear HR HBM HCE HNM HLE HS HH HHL
              rcases ar with _ | _
              · go_wp2
                go_meet
                case rel => exact ⟨T, Lib.hid HQ.out.arc, Lib.hid HQ.out.clean, Lib.hid (fun _ _ => rfl), Lib.hid (fun _ => HQ.out.still.arm), HBs, HCs, HEs, HOs, HZs⟩
              · obtain ⟨hA, hU⟩ := of_decide_eq_true HAR.out.symm
                skip
                · obtain ⟨ba, offa, rfl, ga1⟩ := HA.out.at k hA
                  obtain ⟨bu, offu, rfl, gu1, hu1⟩ := HU.out.at k hU
                  obtain ⟨av, hav⟩ : ∃ av, av = As[k] := ⟨_, rfl⟩
                  obtain ⟨mv, hmv⟩ : ∃ mv, mv = Us[k] := ⟨_, rfl⟩
                  rw [← hav] at ga1
                  rw [← hmv] at gu1 hu1
                  obtain ⟨gn, hgn, hgnl⟩ := and_low av 5 (by decide) (m := 31) (by decide)
                  have hgn32 : gn < 32 := hgnl
                  clear hgnl hav hmv
                  have HARM := Lib.hid (HQ.out.arm (n := (gn : Int)) (m := mv) ⟨by omega, by omega⟩ hu1)
                  have HBd := Lib.hid (HBs.out.kept ((Kept.refl _).drew)).1
                  have hc := bk_Arm HBd.out (gn : Int) mv
                  have HCA := Lib.hid hc
                  have hS0 := And.intro (HBd.out.keeps.cell' ga1) (HBd.out.keeps.cell' gu1)
                  have HCd := Lib.hid (HCs.out.kept ((Kept.refl _).drew))
                  have HEd := Lib.hid (HEs.out.kept ((Kept.refl _).drew))
                  have HOd := Lib.hid (ownsRow_kept HOs.out ((Kept.refl _).drew))
                  have HZd := Lib.hid (((Kept.refl _).drew).block HZs.out)
                  have HGA := Lib.hid ga1
                  have HGU := Lib.hid gu1
                  clear hc ga1 gu1 hu1 HA HU
                  go_upto_region 24 with fail
                  have hS := hS0
                  refine wp_region_calm ?_
                  refine wp_region_E (fun (W : World) => W.cell? ⟨ba, offa + k, none⟩ = some (Value.int .i64 av) ∧ W.cell? ⟨bu, offu + k, none⟩ = some (Value.int .u64 mv)) 100 (by kernel_rfl) ?_
                  refine wpAnyE_take (i := 0) (v := ?_) (listed' := #[true, false, false, false, false, false, false, false, false, false, false]) (by rfl) (by kernel_rfl) (by kernel_rfl) calm_put hS (by rfl) ?_ ?_
                  rotate_left
                  · intro W hW; clear hW; go_simp; try (with_reducible rfl)
                  simp only [Act.put, List.getElem_toArray, List.getElem_cons_succ, List.getElem_cons_zero, List.setIfInBounds_toArray, List.set_cons_zero, List.set_cons_succ]
                  refine wpAnyE_take (i := 1) (v := ?_) (listed' := #[true, true, false, false, false, false, false, false, false, false, false]) (by rfl) (by kernel_rfl) (by kernel_rfl) calm_put hS (by rfl) ?_ ?_
                  rotate_left
                  · intro W hW; clear hW; go_simp; try (with_reducible rfl)
                  simp only [Act.put, List.getElem_toArray, List.getElem_cons_succ, List.getElem_cons_zero, List.setIfInBounds_toArray, List.set_cons_zero, List.set_cons_succ]
                  refine wpAnyE_take (i := 2) (v := ?_) (listed' := #[true, true, true, false, false, false, false, false, false, false, false]) (by rfl) (by kernel_rfl) (by kernel_rfl) calm_put hS (by rfl) ?_ ?_
                  rotate_left
                  · intro W hW; clear hW; go_simp; try (with_reducible rfl)
                  simp only [Act.put, List.getElem_toArray, List.getElem_cons_succ, List.getElem_cons_zero, List.setIfInBounds_toArray, List.set_cons_zero, List.set_cons_succ]
                  refine wpAnyE_take (i := 3) (v := ?_) (listed' := #[true, true, true, true, false, false, false, false, false, false, false]) (by rfl) (by kernel_rfl) (by kernel_rfl) calm_put hS (by rfl) ?_ ?_
                  rotate_left
                  · intro W hW; clear hW; go_simp; try (with_reducible rfl)
                  simp only [Act.put, List.getElem_toArray, List.getElem_cons_succ, List.getElem_cons_zero, List.setIfInBounds_toArray, List.set_cons_zero, List.set_cons_succ]
                  refine wpAnyE_take (i := 4) (v := ?_) (listed' := #[true, true, true, true, true, false, false, false, false, false, false]) (by rfl) (by kernel_rfl) (by kernel_rfl) calm_put hS (by rfl) ?_ ?_
                  rotate_left
                  · intro W hW; obtain ⟨hc0, hc1⟩ := hW; go_simp; try (with_reducible rfl)
                  simp only [Act.put, List.getElem_toArray, List.getElem_cons_succ, List.getElem_cons_zero, List.setIfInBounds_toArray, List.set_cons_zero, List.set_cons_succ]
                  refine wpAnyE_take (i := 5) (v := .int .i64 (gn : Int)) (listed' := #[true, true, true, true, true, true, false, false, false, false, false]) (by rfl) (by kernel_rfl) (by kernel_rfl) calm_put hS (by rfl) ?_ ?_
                  · intro W hW; clear hW; go_simp; try (with_reducible rfl)
                  simp only [Act.put, List.getElem_toArray, List.getElem_cons_succ, List.getElem_cons_zero, List.setIfInBounds_toArray, List.set_cons_zero, List.set_cons_succ]
                  refine wpAnyE_take (i := 6) (v := ?_) (listed' := #[true, true, true, true, true, true, true, false, false, false, false]) (by rfl) (by kernel_rfl) (by kernel_rfl) calm_put hS (by rfl) ?_ ?_
                  rotate_left
                  · intro W hW; clear hW; go_simp; try (with_reducible rfl)
                  simp only [Act.put, List.getElem_toArray, List.getElem_cons_succ, List.getElem_cons_zero, List.setIfInBounds_toArray, List.set_cons_zero, List.set_cons_succ]
                  refine wpAnyE_take (i := 7) (v := ?_) (listed' := #[true, true, true, true, true, true, true, true, false, false, false]) (by rfl) (by kernel_rfl) (by kernel_rfl) calm_put hS (by rfl) ?_ ?_
                  rotate_left
                  · intro W hW; clear hW; go_simp; try (with_reducible rfl)
                  simp only [Act.put, List.getElem_toArray, List.getElem_cons_succ, List.getElem_cons_zero, List.setIfInBounds_toArray, List.set_cons_zero, List.set_cons_succ]
                  refine wpAnyE_take (i := 8) (v := ?_) (listed' := #[true, true, true, true, true, true, true, true, true, false, false]) (by rfl) (by kernel_rfl) (by kernel_rfl) calm_put hS (by rfl) ?_ ?_
                  rotate_left
                  · intro W hW; clear hW; go_simp; try (with_reducible rfl)
                  simp only [Act.put, List.getElem_toArray, List.getElem_cons_succ, List.getElem_cons_zero, List.setIfInBounds_toArray, List.set_cons_zero, List.set_cons_succ]
                  refine wpAnyE_take (i := 9) (v := ?_) (listed' := #[true, true, true, true, true, true, true, true, true, true, false]) (by rfl) (by kernel_rfl) (by kernel_rfl) calm_put hS (by rfl) ?_ ?_
                  rotate_left
                  · intro W hW; obtain ⟨hc0, hc1⟩ := hW; go_simp; try (with_reducible rfl)
                  simp only [Act.put, List.getElem_toArray, List.getElem_cons_succ, List.getElem_cons_zero, List.setIfInBounds_toArray, List.set_cons_zero, List.set_cons_succ]
                  refine wpAnyE_one (i := 10) (listed' := #[true, true, true, true, true, true, true, true, true, true, true]) (by rfl) (by kernel_rfl) (by kernel_rfl) (by rfl) (fun K hK => ?_)
                  simp only [Act.put, List.getElem_toArray, List.getElem_cons_succ, List.getElem_cons_zero, List.setIfInBounds_toArray, List.set_cons_zero, List.set_cons_succ]
                  go_wp2_with fail
                  refine Calls.mono HCA.out ?_
                  rintro e w5 ⟨rfl, hb5, hs5⟩
                  have HB5 : Hid (BK w (fun k => ((k = B ∨ (Value.slice ao nm cp).ownBlock = some k) ∨ bv.ownBlock = some k) ∨ k = B14) w5 q (T.arm (gn : Int) mv)) := Lib.hid hb5
                  have HC5 := Lib.hid (hs5.cells (B := B) (.inl (.inl (.inl rfl))) HCd.out)
                  have HE5 := Lib.hid (HEd.out.same fun g hg => hs5 g (.inl (.inl (.inr hg))))
                  have HO5 := Lib.hid (own_same HOd.out fun g hg => hs5 g (.inl (.inr hg)))
                  have HZ5 := Lib.hid ((hs5 B14 (.inr rfl)).trans HZd.out)
                  clear hS
                  have hS := And.intro (HB5.out.keeps.cell' HGA.out) (HB5.out.keeps.cell' HGU.out)
                  clear hb5 hs5 HCA HBd HCd HEd HOd HZd HGA HGU
                  refine hK _ _ (fun _ => hS) ?_; clear hK K
                  refine wpAnyE_done (by kernel_rfl) ?_ _
                  refine calm_normal ?_
                  clear hS hS0
                  go_wp2
                  go_meet
                  case rel => exact ⟨T.arm (gn : Int) mv, HARM, Lib.hid HQ.out.clean, Lib.hid (fun _ _ => rfl), Lib.hid (fun h => absurd hU (by omega)), HB5, HC5, HE5, HO5, HZ5⟩
            case rest =>
              clear HBs HCs HEs HOs HZs HCE HLE HA
              obtain ⟨T1, HA1, HAc, HAn, HA0, HB1, HC1, HE1, HO1, HZ1⟩ := hcut
              have hways := HR.out T1 HA1.out HAc.out HAn.out xk (by rw [HHL.out]; exact hk300) HH.out.2
              have hU1 := HA1.out.useN (by decide) 100 (by omega)
              have hpb := parts_le (n := by_.length) (by rw [HNB.out]; exact hnb17)
              have hc := check_Save HB1.out B 3 [0, 1, 2] (.inl (.inl (.inl rfl))) HC1.out (by decide) a ha g ⟨hg0, by omega⟩ bv by_ (own_src HO1.out) (by rw [HNB.out]; omega) HBB.out (hU1.less (by show 3 * _ ≤ 100; omega))
              have f0 : _ := cell_of_row _ _ 0 _ _ _ HZ1.out
              have f1 : _ := cell_of_row _ _ 1 _ _ _ HZ1.out
              have f2 : _ := cell_of_row _ _ 2 _ _ _ HZ1.out
              clear hU1 hpb HR
              have hsn0 : 0 ≤ sn := by omega
              have hsn7 : sn ≤ 7 := by omega
              rcases hways with ⟨T2, e2, har, hdn, hqc⟩ | ⟨T2, T3, X', s', A', G', e2, hu2, e3, har, hdn, hs', hqc⟩ | ⟨T2, T3, X', s', A', G', e2, hu2, e3, hu3, hdn, hs', hqc1, hqc2⟩
              · rw [e2] at hc
                have HCA := Lib.hid hc
                have HQC := Lib.hid hqc
                have hdn' : (!T2.down) = false := by rw [hdn]; rfl
                have HDN := Lib.hid hdn'
                clear hc e2 har hdn hqc hdn'
                go_wp2_with fail
                refine Calls.mono HCA.out ?_
                rintro e w5 ⟨rfl, hb5, hs5⟩
                have HB5 : Hid (BK w (fun k => ((k = B ∨ (Value.slice ao nm cp).ownBlock = some k) ∨ bv.ownBlock = some k) ∨ k = B14) w5 q T2) := Lib.hid hb5
                have HC5 := Lib.hid (hs5.cells (B := B) (.inl (.inl (.inl rfl))) HC1.out)
                have HE5 := Lib.hid (HE1.out.same fun g hg => hs5 g (.inl (.inl (.inr hg))))
                clear hb5 hs5 HCA HB1 HC1 HE1 HO1 HZ1 f0 f1 f2
                have hup := bk_Up HB5.out
                rw [HDN.out] at hup
                have HUP := Lib.hid hup
                clear hup
                go_wp2_with fail
                refine Calls.mono HUP.out ?_
                rintro e w6 ⟨rfl, rfl⟩
                go_wp2_with fail
                refine Calls.mono (bk_Start HB5.out) ?_
                rintro e w7 ⟨rfl, hb7, hs7⟩
                have HB7 : Hid (BK w (fun k => k = B ∨ (Value.slice ao nm cp).ownBlock = some k) w7 q T2.start) := Lib.hid (hb7.less fun k hk => .inl (.inl hk))
                have HC7 := Lib.hid (hs7.cells (B := B) (.inl (.inl (.inl rfl))) HC5.out)
                have HE7 := Lib.hid (HE5.out.same fun g hg => hs7 g (.inl (.inl (.inr hg))))
                clear hb7 hs7 HUP HB5 HC5 HE5
                go_wp2
                go_roundw
                case rel => exact ⟨_, k + 1, Ms, T2.start, t + 192, X, s, A, G, rfl, by go_num, hlt, by omega, by omega, by omega, by rw [HNM.out]; exact hnm2, Lib.hid (HQC.out.mono (fun y hy => hy) (by omega)), HB7, HC7, HE7, HBY⟩
                case measure => simp [intOf]; omega
              · skip
                rw [e2] at hc
                have HCA := Lib.hid hc
                have HU2 := Lib.hid hu2
                have HE3 := Lib.hid e3
                clear hc e2 hu2 e3
                go_wp2_with fail
                refine Calls.mono HCA.out ?_
                rintro e w5 ⟨rfl, hb5, hs5⟩
                have HB5 : Hid (BK w (fun k => ((k = B ∨ (Value.slice ao nm cp).ownBlock = some k) ∨ bv.ownBlock = some k) ∨ k = B14) w5 q T2) := Lib.hid hb5
                have HC5 := Lib.hid (hs5.cells (B := B) (.inl (.inl (.inl rfl))) HC1.out)
                have HO5 := Lib.hid (own_same HO1.out fun g hg => hs5 g (.inl (.inr hg)))
                have HZ5 := Lib.hid ((hs5 B14 (.inr rfl)).trans HZ1.out)
                have HSX := Lib.hid (own_src HO5.out)
                clear hb5 hs5 HCA HB1 HC1 HE1 HO1 HZ1 f0 f1 f2
                have f2 : _ := cell_of_row _ _ 2 _ _ _ HZ5.out
                go_wp2_with (refine stop_at (o := ⟨some 131, _, _, _, _, _⟩) ?_)
                refine Stop.mk ?_
                refine wpList_conv_str rfl _ rfl bv rfl by_ HSX.out HBB.out ?_
                refine wpList_oneG Tryd.underlying43 str_infoG (by decide) rfl _ rfl (.string (strB by_)) rfl rfl ?_
                intro w6 hz6 hs6 hk6
                have HE6 : Hid (OwnG w w6 9 (.slice (some ⟨w5.heap.size, 0, none⟩) 1 1) (strsL [by_])) := Lib.hid (OwnG.lit hz6.out HB5.out.keeps.size)
                have HB6 : Hid (BK w (fun k => (((k = B ∨ (Value.slice ao nm cp).ownBlock = some k) ∨ bv.ownBlock = some k) ∨ k = B14) ∨ k = w5.heap.size) w6 q T2) := Lib.hid (HB5.out.more hk6 w5.heap.size (Nat.le_refl _) hs6)
                have HC6 := Lib.hid (HC5.out.kept hk6)
                have HZ6 := Lib.hid (hk6.block HZ5.out)
                have HXB : Hid (w5.heap.size ≠ B) := Lib.hid (by have := HB5.out.ltR (B := B) (.inl (.inl (.inl rfl))); omega)
                generalize w5.heap.size = X5 at *
                clear hz6 hs6 hk6 HB5 HC5 HO5 HZ5 HSX f2
                have f0 : _ := cell_of_row _ _ 0 _ _ _ HZ6.out
                have f3 : _ := cell_of_row _ _ 3 _ _ _ HZ6.out
                have hpx := parts_le (n := xk.length) (by rw [HHL.out]; omega)
                have hc := check_Save HB6.out B 3 [0, 1, 2] (.inl (.inl (.inl (.inl rfl)))) HC6.out (by decide) (1 - a) (by omega) (sn + 1) ⟨by omega, by omega⟩ (.slice ax kk ck) xk (by have := HH.out.1.kept HB6.out.keeps; rw [HHL.out]; rw [HHL.out] at this; exact this) (by rw [HHL.out]; omega) HH.out.2 (HU2.out.less (by show 3 * _ ≤ 100; omega))
                rw [HE3.out, show ((1 - a : Nat) : Int) = 1 - (a : Int) by omega] at hc
                have HCA := Lib.hid hc
                clear hc hpx
                go_wp2_with fail
                refine Calls.mono HCA.out ?_
                rintro e w7 ⟨rfl, hb7, hs7⟩
                have HB7 : Hid (BK w (fun k => (((k = B ∨ (Value.slice ao nm cp).ownBlock = some k) ∨ bv.ownBlock = some k) ∨ k = B14) ∨ k = X5) w7 q T3) := Lib.hid hb7
                have HC7 := Lib.hid (hs7.cells (B := B) (.inl (.inl (.inl (.inl rfl)))) HC6.out)
                have HE7 := Lib.hid (HE6.out.same fun g hg => hs7 g (.inr (by simp only [Value.ownBlock, Option.some.injEq] at hg; exact hg.symm)))
                clear hb7 hs7 HCA HB6 HC6 HE6 HZ6 f0 f3
                have HSY : Hid (Src w7 1 (.slice ax kk ck) xk.length (u8s xk)) := Lib.hid (by have := HH.out.1.kept HB7.out.keeps; rw [HHL.out]; rw [HHL.out] at this; exact this)
                go_wp2_with (refine stop_at (o := ⟨some 147, _, _, _, _, _⟩) ?_)
                refine Stop.mk ?_
                refine wpList_conv_str rfl _ rfl (.slice ax kk ck) rfl xk HSY.out HH.out.2 ?_
                refine wpList_oneG Tryd.underlying43 str_infoG (by decide) rfl _ rfl (.string (strB xk)) rfl rfl ?_
                intro w9 hz9 hs9 hk9
                have HB9 := Lib.hid (HB7.out.kept hk9).1
                have HC9 := Lib.hid (HC7.out.kept hk9)
                have HE9 := Lib.hid (HE7.out.kept hk9)
                generalize w7.heap.size = X7 at *
                clear hs9 hk9 HB7 HC7 HE7 HSY
                go_wp2_with (refine stop_at (o := ⟨some 149, _, _, _, _, _⟩) ?_)
                refine Stop.mk ?_
                refine wpList_appendG (v := .slice (some ⟨X5, 0, none⟩) 1 1) ty_strsG (by decide) rfl _ _ rfl (strsL [by_]) rfl HE9.out (by rw [strsL_len]; exact (by decide : 1 < 20000)) X7 rfl (.string (strB xk)) rfl hz9.out HB9.out.keeps ?_
                intro ev' w10 hown hgr
                have HE10 : Hid (OwnG w w10 9 ev' (strsL [by_, xk])) := Lib.hid hown
                have HB10 : Hid (BK w (fun k => k = B ∨ ev'.ownBlock = some k) w10 q T3) := Lib.hid ((HB9.out.grwG hgr (fun k hk => .inr (by simp only [Value.ownBlock, Option.some.injEq] at hk; exact hk.symm)) HE9.out.new).less fun k hk => by
                  rcases hk with hk | hk
                  · exact .inl (.inl (.inl (.inl (.inl hk))))
                  · exact .inr hk)
                have HC10 : Hid (Cells w10 B 0 (ints [0, 1, 2])) := Lib.hid (fun k hk => (World.cell?_of_block (a := ⟨B, 0 + k, none⟩) (hgr.blk (HB9.out.ltR (.inl (.inl (.inl (.inl rfl))))) (fun h => HXB.out (by simpa [Value.ownBlock] using h)))).trans (HC9.out k hk))
                clear hown hgr hz9 HB9 HC9 HE9
                have HQC := Lib.hid hqc
                have hdn' : (!T3.down) = false := by rw [hdn]; rfl
                have hup := bk_Up HB10.out
                rw [hdn'] at hup
                have HUP := Lib.hid hup
                clear hqc hdn hdn' hup
                go_wp2_with fail
                refine Calls.mono HUP.out ?_
                rintro e w11 ⟨rfl, rfl⟩
                have HB11 := HB10
                have HC11 := HC10
                have HE11 := HE10
                clear HB10 HC10 HE10 HUP
                go_wp2_with fail
                refine Calls.mono (bk_Start HB11.out) ?_
                rintro e w12 ⟨rfl, hb12, hs12⟩
                have HB12 : Hid (BK w (fun k => k = B ∨ ev'.ownBlock = some k) w12 q T3.start) := Lib.hid hb12
                have HC12 := Lib.hid (hs12.cells (B := B) (.inl rfl) HC11.out)
                have HE12 := Lib.hid (HE11.out.same fun g hg => hs12 g (.inr hg))
                clear hb12 hs12 HB11 HC11 HE11
                go_wp2
                go_roundw
                case rel => exact ⟨ev', k + 1, [by_, xk], T3.start, t + 192, X', s', A', G', rfl, by go_num, hlt, by omega, by omega, by omega, Nat.le_refl _, Lib.hid (HQC.out.mono (fun y hy => by simpa using hy) (Nat.le_refl _)), HB12, HC12, HE12, Lib.hid (fun x hx => by
                  simp only [List.mem_cons, List.mem_nil_iff, or_false] at hx
                  rcases hx with rfl | rfl
                  · exact HBB.out
                  · exact HH.out.2)⟩
                case measure => simp [intOf]; omega
              · skip
                rw [e2] at hc
                have HCA := Lib.hid hc
                have HU2 := Lib.hid hu2
                have HE3 := Lib.hid e3
                clear hc e2 hu2 e3
                go_wp2_with fail
                refine Calls.mono HCA.out ?_
                rintro e w5 ⟨rfl, hb5, hs5⟩
                have HB5 : Hid (BK w (fun k => ((k = B ∨ (Value.slice ao nm cp).ownBlock = some k) ∨ bv.ownBlock = some k) ∨ k = B14) w5 q T2) := Lib.hid hb5
                have HC5 := Lib.hid (hs5.cells (B := B) (.inl (.inl (.inl rfl))) HC1.out)
                have HO5 := Lib.hid (own_same HO1.out fun g hg => hs5 g (.inl (.inr hg)))
                have HZ5 := Lib.hid ((hs5 B14 (.inr rfl)).trans HZ1.out)
                have HSX := Lib.hid (own_src HO5.out)
                clear hb5 hs5 HCA HB1 HC1 HE1 HO1 HZ1 f0 f1 f2
                have f2 : _ := cell_of_row _ _ 2 _ _ _ HZ5.out
                go_wp2_with (refine stop_at (o := ⟨some 131, _, _, _, _, _⟩) ?_)
                refine Stop.mk ?_
                refine wpList_conv_str rfl _ rfl bv rfl by_ HSX.out HBB.out ?_
                refine wpList_oneG Tryd.underlying43 str_infoG (by decide) rfl _ rfl (.string (strB by_)) rfl rfl ?_
                intro w6 hz6 hs6 hk6
                have HE6 : Hid (OwnG w w6 9 (.slice (some ⟨w5.heap.size, 0, none⟩) 1 1) (strsL [by_])) := Lib.hid (OwnG.lit hz6.out HB5.out.keeps.size)
                have HB6 : Hid (BK w (fun k => (((k = B ∨ (Value.slice ao nm cp).ownBlock = some k) ∨ bv.ownBlock = some k) ∨ k = B14) ∨ k = w5.heap.size) w6 q T2) := Lib.hid (HB5.out.more hk6 w5.heap.size (Nat.le_refl _) hs6)
                have HC6 := Lib.hid (HC5.out.kept hk6)
                have HZ6 := Lib.hid (hk6.block HZ5.out)
                have HXB : Hid (w5.heap.size ≠ B) := Lib.hid (by have := HB5.out.ltR (B := B) (.inl (.inl (.inl rfl))); omega)
                generalize w5.heap.size = X5 at *
                clear hz6 hs6 hk6 HB5 HC5 HO5 HZ5 HSX f2
                have f0 : _ := cell_of_row _ _ 0 _ _ _ HZ6.out
                have f3 : _ := cell_of_row _ _ 3 _ _ _ HZ6.out
                have hpx := parts_le (n := xk.length) (by rw [HHL.out]; omega)
                have hc := check_Save HB6.out B 3 [0, 1, 2] (.inl (.inl (.inl (.inl rfl)))) HC6.out (by decide) (1 - a) (by omega) (sn + 1) ⟨by omega, by omega⟩ (.slice ax kk ck) xk (by have := HH.out.1.kept HB6.out.keeps; rw [HHL.out]; rw [HHL.out] at this; exact this) (by rw [HHL.out]; omega) HH.out.2 (HU2.out.less (by show 3 * _ ≤ 100; omega))
                rw [HE3.out, show ((1 - a : Nat) : Int) = 1 - (a : Int) by omega] at hc
                have HCA := Lib.hid hc
                clear hc hpx
                go_wp2_with fail
                refine Calls.mono HCA.out ?_
                rintro e w7 ⟨rfl, hb7, hs7⟩
                have HB7 : Hid (BK w (fun k => (((k = B ∨ (Value.slice ao nm cp).ownBlock = some k) ∨ bv.ownBlock = some k) ∨ k = B14) ∨ k = X5) w7 q T3) := Lib.hid hb7
                have HC7 := Lib.hid (hs7.cells (B := B) (.inl (.inl (.inl (.inl rfl)))) HC6.out)
                have HE7 := Lib.hid (HE6.out.same fun g hg => hs7 g (.inr (by simp only [Value.ownBlock, Option.some.injEq] at hg; exact hg.symm)))
                clear hb7 hs7 HCA HB6 HC6 HE6 HZ6 f0 f3
                have HSY : Hid (Src w7 1 (.slice ax kk ck) xk.length (u8s xk)) := Lib.hid (by have := HH.out.1.kept HB7.out.keeps; rw [HHL.out]; rw [HHL.out] at this; exact this)
                go_wp2_with (refine stop_at (o := ⟨some 147, _, _, _, _, _⟩) ?_)
                refine Stop.mk ?_
                refine wpList_conv_str rfl _ rfl (.slice ax kk ck) rfl xk HSY.out HH.out.2 ?_
                refine wpList_oneG Tryd.underlying43 str_infoG (by decide) rfl _ rfl (.string (strB xk)) rfl rfl ?_
                intro w9 hz9 hs9 hk9
                have HB9 := Lib.hid (HB7.out.kept hk9).1
                have HC9 := Lib.hid (HC7.out.kept hk9)
                have HE9 := Lib.hid (HE7.out.kept hk9)
                generalize w7.heap.size = X7 at *
                clear hs9 hk9 HB7 HC7 HE7 HSY
                go_wp2_with (refine stop_at (o := ⟨some 149, _, _, _, _, _⟩) ?_)
                refine Stop.mk ?_
                refine wpList_appendG (v := .slice none 0 0) ty_strsG (by decide) rfl _ _ rfl (strsL []) rfl (OwnG.nil w _ _) (by decide) X7 rfl (.string (strB xk)) rfl hz9.out HB9.out.keeps ?_
                intro ev' w10 hown hgr
                have HE10 : Hid (OwnG w w10 9 ev' (strsL [xk])) := Lib.hid hown
                have hR0 : ∀ k, (Value.slice none 0 0).ownBlock = some k → False := fun k hk => by simp [Value.ownBlock] at hk
                have HB10 : Hid (BK w (fun k => k = B ∨ ev'.ownBlock = some k) w10 q T3) := Lib.hid ((HB9.out.grwG hgr (fun k hk => (hR0 k hk).elim) (fun k hk => (hR0 k hk).elim)).less fun k hk => by
                  rcases hk with hk | hk
                  · exact .inl (.inl (.inl (.inl (.inl hk))))
                  · exact .inr hk)
                have HC10 : Hid (Cells w10 B 0 (ints [0, 1, 2])) := Lib.hid (fun k hk => (World.cell?_of_block (a := ⟨B, 0 + k, none⟩) (hgr.blk (HB9.out.ltR (.inl (.inl (.inl (.inl rfl))))) (fun h => hR0 _ h))).trans (HC9.out k hk))
                clear hown hgr hz9 HB9 HC9 HE9 hR0
                have HQC1 := Lib.hid hqc1
                have HQC2 := Lib.hid hqc2
                have HU3 := Lib.hid hu3
                have hdn' : (!T3.down) = true := by rw [hdn]; rfl
                have hup := bk_Up HB10.out
                rw [hdn'] at hup
                have HUP := Lib.hid hup
                clear hqc1 hqc2 hu3 hdn hdn' hup
                by_cases hU : k < Us.length
                · obtain ⟨bu, offu, rfl, gu1, hu1⟩ := HU.out.at k hU
                  obtain ⟨mv, hmv⟩ : ∃ mv, mv = Us[k] := ⟨_, rfl⟩
                  rw [← hmv] at gu1 hu1
                  have HGU := Lib.hid gu1
                  have HCR := Lib.hid (bk_Crash HB10.out HU3.out mv hu1.1 hu1.2)
                  have hcu := HB10.out.keeps.cell' gu1
                  clear hmv gu1 hu1
                  go_wp2_with fail
                  refine Calls.mono HUP.out ?_
                  rintro e w11 ⟨rfl, rfl⟩
                  go_wp2_with fail
                  refine Calls.mono HCR.out ?_
                  rintro e w11 ⟨rfl, hb11, hs11⟩
                  have HB11 : Hid (BK w (fun k => k = B ∨ ev'.ownBlock = some k) w11 q (T3.crash mv)) := Lib.hid hb11
                  have HC11 := Lib.hid (hs11.cells (B := B) (.inl rfl) HC10.out)
                  have HE11 := Lib.hid (HE10.out.same fun g hg => hs11 g (.inr hg))
                  clear hb11 hs11 HB10 HC10 HE10 HUP HCR hcu HGU
                  go_wp2_with fail
                  refine Calls.mono (bk_Start HB11.out) ?_
                  rintro e w12 ⟨rfl, hb12, hs12⟩
                  have HB12 : Hid (BK w (fun k => k = B ∨ ev'.ownBlock = some k) w12 q (T3.crash mv).start) := Lib.hid hb12
                  have HC12 := Lib.hid (hs12.cells (B := B) (.inl rfl) HC11.out)
                  have HE12 := Lib.hid (HE11.out.same fun g hg => hs12 g (.inr hg))
                  clear hb12 hs12 HB11 HC11 HE11
                  go_wp2
                  go_roundw
                  case rel => exact ⟨ev', k + 1, [xk], (T3.crash mv).start, t + 192, X', s', A', G', rfl, by go_num, hlt, by omega, by omega, by omega, (by decide : 1 ≤ 2), Lib.hid ((HQC1.out mv).mono (fun y hy => by simpa using hy) (Nat.le_refl _)), HB12, HC12, HE12, Lib.hid (fun x hx => by
                    simp only [List.mem_cons, List.mem_nil_iff, or_false] at hx
                    subst hx
                    exact HH.out.2)⟩
                  case measure => simp [intOf]; omega
                · have HA00 := Lib.hid (HA0.out (by omega))
                  go_wp2_with fail
                  refine Calls.mono HUP.out ?_
                  rintro e w11 ⟨rfl, rfl⟩
                  have HB11 := HB10
                  have HC11 := HC10
                  have HE11 := HE10
                  clear HB10 HC10 HE10 HUP
                  go_wp2_with fail
                  refine Calls.mono (bk_Start HB11.out) ?_
                  rintro e w12 ⟨rfl, hb12, hs12⟩
                  have HB12 : Hid (BK w (fun k => k = B ∨ ev'.ownBlock = some k) w12 q T3.start) := Lib.hid hb12
                  have HC12 := Lib.hid (hs12.cells (B := B) (.inl rfl) HC11.out)
                  have HE12 := Lib.hid (HE11.out.same fun g hg => hs12 g (.inr hg))
                  clear hb12 hs12 HB11 HC11 HE11
                  go_wp2
                  go_roundw
                  case rel => exact ⟨ev', k + 1, [xk], T3.start, t + 192, X', s', A', G', rfl, by go_num, hlt, by omega, by omega, by omega, (by decide : 1 ≤ 2), Lib.hid ((HQC2.out HA00.out).mono (fun y hy => by simpa using hy) (Nat.le_refl _)), HB12, HC12, HE12, Lib.hid (fun x hx => by
                    simp only [List.mem_cons, List.mem_nil_iff, or_false] at hx
                    subst hx
                    exact HH.out.2)⟩
                  case measure => simp [intOf]; omega
      · have hkk : L.length ≤ k ∨ (k < L.length ∧ 6 ≤ k) := by omega
        clear hlt
        rcases hkk with hkk | ⟨hkk, h6⟩
        all_goals
          go_wp2
          go_meet
          case rel => exact ⟨_, Ms, T, t, X, s, A, G, rfl, by omega, hMs, HQ, HB, HC, HE, HBY⟩
  case rest =>
    clear HQ1 HB6 HC6 HE6 HS HA HU
    obtain ⟨ve, Ms, T, t, X, s, A, G, rfl, ht, hMs, HQ, HB, HC, HE, HBY⟩ := hcut
    obtain ⟨T1, e1, he1, hu1, hu, bst, hld, hbm, hbby⟩ := HQ.out.last (by omega) gd
    have hc := bk_Fail HB.out hu (gd : Int)
    rw [he1] at hc
    have HCA := Lib.hid hc
    have HU1 := Lib.hid hu1
    have HLD := Lib.hid hld
    obtain ⟨ar, g, by_, sn, fd⟩ := bst
    simp only [] at hbm hbby
    have HBM := Lib.hid hbm
    have HBB := Lib.hid hbby
    clear hc he1 hu1 hu hld hbm hbby
    go_wp2_with (refine stop_at (o := ⟨some 174, _, _, _, _, _⟩) ?_)
    refine Stop.mk ?_
    try simp only [hgd]
    go_wp2_with fail
    refine Calls.mono HCA.out ?_
    rintro e w7 ⟨rfl, hb7, hs7⟩
    have HB7 : Hid (BK w (fun k => k = B ∨ ve.ownBlock = some k) w7 q T1) := Lib.hid hb7
    have HC7 := Lib.hid (hs7.cells (B := B) (.inl rfl) HC.out)
    have HE7 := Lib.hid (HE.out.same fun g hg => hs7 g (.inr hg))
    clear hb7 hs7 HCA HB HC HE
    have hc := check_Load HB7.out HU1.out B 3 [0, 1, 2] HC7.out (by decide)
    rw [HLD.out] at hc
    have HCA := Lib.hid hc
    clear hc
    go_wp2_with fail
    refine Calls.mono HCA.out ?_
    rintro e w8 ⟨bv, he, hown, hk8⟩
    replace he : e = .returned (.tuple #[.agg #[.int .i64 ar, .int .i64 g, bv, .int .i64 sn], .int .i64 0]) := he
    subst he
    have HB8 := Lib.hid (HB7.out.kept hk8).1
    have HE8 := Lib.hid (HE7.out.kept hk8)
    clear hk8 HCA HB7 HC7 HE7
    go_wp2_with (refine stop_at (o := ⟨some 20, _, _, _, _, _⟩) ?_)
    refine Stop.mk ?_
    refine wpList_new_row rfl rfl _ _ rfl rfl ty_found zeroF zero_found rfl [.int .i64 ar, .int .i64 g, bv, .int .i64 sn] rfl rfl (best_one (b := ⟨ar, g, by_, sn, fd⟩) hown) rfl ?_
    intro w9 hz9 hs9 hk9
    have HK9 := Lib.hid (HB8.out.kept hk9).1.keeps
    have HO9 := Lib.hid (ownsRow_base (ownsRow_kept hown hk9) (Nat.zero_le _))
    have HE9 := Lib.hid (HE8.out.kept hk9)
    have hf2 : w9.cell? ⟨w8.heap.size, 2, none⟩ = some bv := cell_of_row _ _ 2 _ _ _ hz9.out
    have HD1 := Lib.hid hf2
    generalize w8.heap.size = B20 at *
    clear hown hz9 hs9 hk9 hf2 HB8 HE8
    obtain ⟨ao, cp, rfl, hce⟩ := HE9.out.form
    have HCE := Lib.hid hce
    obtain ⟨nm, hnm⟩ : ∃ nm, Ms.length = nm := ⟨_, rfl⟩
    have HNM := Lib.hid hnm
    have HLE := Lib.hid ((strsL_len Ms).trans hnm)
    have hnm2 : nm ≤ 2 := by omega
    rw [HLE.out]
    clear hce hnm hMs HE9
    go_wp2
    go_loopw [22] (fun kv wr => ∃ j : Nat, j ≤ nm ∧ kv = .int .i64 j ∧ Hid (by_ ∉ Ms.take j) ∧ Hid (Kept w9 wr)) (fun kv _ => nm - (intOf kv).toNat)
    case atStart => exact ⟨0, Nat.zero_le _, rfl, Lib.hid (fun h => by simp at h), Lib.hid (Kept.refl _)⟩
    case round =>
      obtain ⟨j, hj, rfl, HI, HKJ⟩ := hrel
      by_cases hjl : j < nm
      · obtain ⟨g3, rfl, hb3⟩ := HCE.out j (by rw [HLE.out]; exact hjl)
        rw [strsL_at] at hb3
        obtain ⟨mj, hmj⟩ : ∃ mj, Ms.getD j [] = mj := ⟨_, rfl⟩
        rw [hmj] at hb3
        have HMJ := Lib.hid hmj
        have HD2 := Lib.hid hb3
        clear hmj hb3
        by_cases heq : by_ = mj
        · go_wp2
          refine wp_still_all (by kernel_rfl) (by kernel_rfl) fun ws hks hhs => ?_
          have hk2 := HKJ.out.trans hks
          have d1 := hk2.cell' HD1.out
          have d2 := hk2.cell' HD2.out
          have HKW := Lib.hid (HK9.out.trans hk2)
          have HSX := Lib.hid (own_src (ownsRow_kept HO9.out hk2))
          rw [← heq] at d2
          clear hks hhs hk2 heq HMJ
          iterate 5 still_step
          refine still_conv_str rfl _ rfl bv rfl by_ HSX.out HBB.out ?_
          iterate 6 still_step
          refine wpStill_nil ?_
          clear d1 d2
          go_wp2
          go_ret
          exact ⟨rfl, HKW.out⟩
        · have hmb : ∀ y ∈ mj, IsByte y := HBY.out mj (by rw [← HMJ.out]; exact getD_mem (by rw [HNM.out]; exact hjl))
          have hse : ((strB by_).toList == (strB mj).toList) = false := by rw [strB_eq HBB.out hmb]; simpa using heq
          have HNI := Lib.hid (mem_none HI.out (by rw [HNM.out]; exact hjl) (by rw [HMJ.out]; exact heq))
          go_wp2
          refine wp_still_all (by kernel_rfl) (by kernel_rfl) fun ws hks hhs => ?_
          have hk2 := HKJ.out.trans hks
          have d1 := hk2.cell' HD1.out
          have d2 := hk2.cell' HD2.out
          have HKW := Lib.hid hk2
          have HSX := Lib.hid (own_src (ownsRow_kept HO9.out hk2))
          clear hks hhs hk2 heq hmb HMJ
          iterate 5 still_step
          refine still_conv_str rfl _ rfl bv rfl by_ HSX.out HBB.out ?_
          iterate 6 still_step
          refine wpStill_nil ?_
          clear d1 d2 hse
          go_wp2
          go_roundw
          case rel => exact ⟨j + 1, hjl, by go_num, HNI, HKW⟩
          case measure => simp [intOf]; omega
      · exfalso
        refine HI.out ?_
        rw [List.take_of_length_le (by rw [HNM.out]; omega)]; exact HBM.out
end
end Go.Proofs.YtpeclkhppgabfaaDoor
