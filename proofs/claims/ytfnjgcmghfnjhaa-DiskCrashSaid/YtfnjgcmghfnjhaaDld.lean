/- DiskFlushes: the walk. -/
import Derived.Test.YtfnjgcmghfnjhaaDla
import Derived.Test.YtfnjgcmghfnjhaaDlc
namespace Go.Proofs.Ytfnjgcmghfnjhaa
open Go.RowKit
set_option linter.unusedVariables false
set_option linter.unusedSimpArgs false

theorem zero_24 (w : World) : (zeroValue 28).run Try.prog w = .ok (.agg (secs (List.replicate 24 zeroB)).toArray) w := by kernel_rfl
theorem still_neq_sec {ops : Array Oper} {rest : List Oper} {o : Oper} {a : Act} {w : World} {K : Act → Prop} (hgd : Region.wanted o (yielded ops a.tmps) = true) (x y : Operand) {t' : TypeId} (ho : o.op = .binOp .neq 27 x y t') (xs ys : List Int) (hx : a.eval x = .agg (u8s xs).toArray) (hy : a.eval y = .agg (u8s ys).toArray) (hxl : xs.length = 64) (hyl : ys.length = 64)
    (h : wpStill Try.prog ops w K rest (a.put o.dst (.bool (!(xs == ys))))) : wpStill Try.prog ops w K (o :: rest) a := by
  have heq := run_equal_secA xs ys hxl hyl w
  refine wpStill_val hgd ?_ h
  unfold execOp
  simp only [ho, hx, hy, Sem.run_bind]
  rw [run_eqGuard_agg _ _ _ _ _ _ _ eqg_sec]
  simp only [Result.andThen_ok]
  rw [run_neq_struct, heq]
  simp only [Result.andThen_ok, Sem.run_pure]
/-- All reads, in whatever order: the world a letter. -/
theorem wp_still_all {P : Program} {Q : Exit → Act → World → Prop} {a : Act} {w : World} {id : Nat} {l : List Oper} (hm : P.follows .mixedOrders = true) (hB : Region.lexB .any l.toArray = true)
    (h : ∀ w1, Kept w w1 → w1.heap = w.heap → wpStill P l.toArray w1 (fun a' => Q .normal a' w1) l a) : (Code.region id l.toArray true).wp P Q a w :=
  wp_region_still hm hB (h w.drew (Kept.refl w).drew rfl)
theorem bk_use {T : BankT} {n z : Nat} (h : Still T n z) (hn : n ≠ 0) {c x : Int} (hc : T.clock ≤ c) (hw : T.writes ≤ x) (h1 : c < 1000000000) (h2 : x < 1000000000) : T.Use := ⟨h.inv, by rw [h.len]; exact hn, by omega, by omega⟩
section
variable {w W : World}
set_option maxHeartbeats 2000000
set_option maxRecDepth 100000
theorem law_flushes (v : Value) (l : List OpD) (who0 : Int) (w : World) (hs : DSrc w v l) :
    Calls Try.prog 3 #[v, .int .i64 who0] w fun e w' => e = .returned (.bool true) ∧ Kept w w' := by
  have HS := Lib.hid hs
  obtain ⟨oa, cap, rfl, hcap, hmax, _⟩ := hs
  unfold maxLen at hmax
  obtain ⟨y, hy, hyl⟩ := and_low who0 16 (by decide) (m := 65535) (by decide)
  have hym : (y : Int) % 3 = ((y % 3 : Nat) : Int) := by omega
  have hw3 : y % 3 < 3 := by omega
  generalize y % 3 = who at *
  have HSH := Lib.hid (law_shown03 w)
  go_enter Try.func3, Try.ntmps3
  go_wp2_with fail
  refine Calls.mono HSH.out ?_
  rintro e w1 ⟨rfl, hk1⟩
  have HL := Lib.hid (law_laid w w1 (fun _ => False) hk1 (fun _ h => h.elim))
  clear hk1 HSH
  go_wp2_with fail
  refine Calls.mono HL.out ?_
  rintro e w2 ⟨q, rfl, hb, _⟩
  have HB2 := Lib.hid hb
  clear hb HL
  go_wp2_with (refine stop_at (o := ⟨some 7, _, _, _, _, _⟩) ?_)
  refine Stop.mk ?_
  refine wpList_alloc_abs rfl _ rfl _ zero_24 ?_
  intro w3 hz3 hs3 hn3 hk3
  have HB3 := Lib.hid ((HB2.out.more hk3 w2.heap.size (Nat.le_refl _) hs3).less (R' := fun k => k = w2.heap.size) (fun k h => .inr h))
  have HBL : w.heap.size ≤ w2.heap.size := HB2.out.keeps.size
  generalize w2.heap.size = bl at *
  clear hs3 hn3 hk3 HB2
  go_upto_block 0 with fail
  go_cut [] (fun wc => ∃ (T : BankT) (ls : List (List Int)), Hid (FlI T ls) ∧ T.clock ≤ 60 ∧ T.writes ≤ 60 ∧ Hid (BK w (fun k => k = bl) wc q T) ∧ Hid (wc.heap[bl]? = some (.cells (secs ls).toArray 28 (0, 0))))
  case first =>
    go_wp2
    go_loopw [8] (fun i wr => ∃ (k : Nat) (T : BankT) (ls : List (List Int)), k ≤ l.length ∧ k ≤ 60 ∧ i = .int .i64 k ∧ Hid (FlI T ls) ∧ T.clock ≤ k ∧ T.writes = k ∧ Hid (BK w (fun k => k = bl) wr q T) ∧ Hid (wr.heap[bl]? = some (.cells (secs ls).toArray 28 (0, 0)))) (fun i _ => l.length - (intOf i).toNat)
    case atStart => exact ⟨0, _, _, Nat.zero_le _, by decide, rfl, Lib.hid FlI.start, by rw [(addN_rest 3).2.2.1]; exact Int.le_refl _, (addN_rest 3).2.2.2, HB3, hz3⟩
    case round =>
      obtain ⟨k, T, ls, hk, hk60, rfl, HI, hclk, hwri, HB, HBl⟩ := hrel
      by_cases hlt : k < l.length ∧ k < 60
      · obtain ⟨hlt, h60⟩ := hlt
        obtain ⟨b, off, rfl, _, g1, g2, g3, _⟩ := HS.out.at k hlt
        obtain ⟨y1, hy1, hyl1⟩ := and_low l[k].disk 16 (by decide) (m := 65535) (by decide)
        obtain ⟨a, ha, hal⟩ := and_low l[k].at_ 3 (by decide) (m := 7) (by decide)
        have hym1 : (y1 : Int) % 3 = ((y1 % 3 : Nat) : Int) := by omega
        have hd3 : y1 % 3 < 3 := by omega
        have ha8 : a < 8 := hal
        generalize l[k].disk = xd at *
        generalize l[k].at_ = xa at *
        generalize l[k].n = xn at *
        generalize y1 % 3 = d at *
        have c1 := HB.out.keeps.cell' g1
        have c2 := HB.out.keeps.cell' g2
        have c3 := HB.out.keeps.cell' g3
        have HSN := Lib.hid (show (secN xn).length = 64 ∧ ∀ x ∈ secN xn, IsByte x from ⟨secN_len xn, secN_byte xn⟩)
        obtain ⟨T', he, hI', hc', hw'⟩ := HI.out.step hd3 ha8 HSN.out
        have HI' := Lib.hid hI'
        have HE := Lib.hid he
        have HU := Lib.hid (bk_use HI.out.still (by decide) hclk (Int.le_of_eq hwri) (by omega) (by omega))
        have hj : (8 : Int) * (d : Int) + (a : Int) = ((8 * d + a : Nat) : Int) := by omega
        have hjl : 8 * d + a < 24 := by omega
        have HJ : Hid (splice (secs ls) ((8 * d + a) * 64) (u8s (secN xn)) = secs (ls.set (8 * d + a) (secN xn))) := Lib.hid (splice_flat ls HI.out.l64 _ (by rw [HI.out.len]; exact hjl) _ (secN_len xn))
        have HQ : Hid ((secs ls).length = 24 * 64) := Lib.hid (by rw [secs_length ls HI.out.l64, HI.out.len])
        generalize 8 * d + a = j at *
        clear hI' he
        go_wp2_with fail
        refine Calls.mono (law_sector xn wr) ?_
        rintro e w4 ⟨rfl, hk4⟩
        have HB4 := Lib.hid (HB.out.kept hk4).1
        have HBl4 := Lib.hid (hk4.block HBl.out)
        clear hk4
        go_wp2_with fail
        refine Calls.mono (st_write HB4.out HU.out (d : Int) (a : Int) (s := secN xn) (secN_len xn) (by rw [HE.out]) (by rw [HE.out])) ?_
        rintro e w5 ⟨rfl, hb5, hr5⟩
        have HB5 := Lib.hid hb5
        have HBl5 := Lib.hid ((hr5 bl rfl).trans HBl4.out)
        have c35 := hb5.keeps.cell' g3
        clear hb5 hr5 HB4 HBl4
        go_wp2_with fail
        refine Calls.mono (law_sector xn w5) ?_
        rintro e w6 ⟨rfl, hk6⟩
        have HB6 := Lib.hid (HB5.out.kept hk6).1
        have HBl6 := Lib.hid (hk6.block HBl5.out)
        clear hk6 HB5 HBl5
        go_wp2_with (refine stop_at (o := ⟨none, .store _ _ _, _, _, _, _⟩) ?_)
        refine Stop.mk ?_
        refine wpList_store_agg rfl _ _ rfl ty_sec bl (j * 64) rfl (u8s (secN xn)) rfl (by rw [u8s_length, secN_len]) (u8s_one _) (secs ls) 28 HBl6.out (by rw [HQ.out]; omega) ?_
        intro w7 hw7
        rw [HJ.out] at hw7
        have HB7 := Lib.hid (HB6.out.wrote hw7 rfl HBL)
        have HBl7 := Lib.hid hw7.blk
        clear hw7 HB6 HBl6
        go_wp2
        go_roundw
        case rel => exact ⟨k + 1, T', _, hlt, h60, by go_num, HI', by omega, by omega, HB7, HBl7⟩
        case measure => simp [intOf]; omega
      · have hkk : l.length ≤ k ∨ (k < l.length ∧ 60 ≤ k) := by omega
        clear hlt
        rcases hkk with hkk | ⟨hkk, h60⟩
        all_goals
          go_wp2
          go_meet
          case rel => exact ⟨T, ls, HI, by omega, by omega, HB, HBl⟩
  case rest =>
    obtain ⟨T, ls, HI, hclk, hwri, HB, HBl⟩ := hcut
    obtain ⟨T1, he, i1, l1, cl1, wr1, st1, cl2, wr2, i2, hr⟩ := HI.out.fin hw3
    have HE := Lib.hid he; have HR := Lib.hid hr; have HST := Lib.hid st1; have HI2 := Lib.hid i2
    have HU := Lib.hid (bk_use HI.out.still (by decide) hclk hwri (by decide) (by decide))
    have HU1 : Hid T1.Use := Lib.hid ⟨i1, by rw [l1]; decide, by omega, by omega⟩
    have HU2 : Hid (T1.crash 0).start.Use := Lib.hid (bk_use st1 (by decide) (c := 60) (x := 60) (by show (T1.crash 0).clock ≤ 60; omega) (by show (T1.crash 0).writes ≤ 60; omega) (by decide) (by decide))
    clear he hr st1 i1 i2 HS HB3 hz3
    go_wp2_with fail
    refine Calls.mono (st_flush HB.out HU.out (who : Int) (c := 0) (by rw [HE.out]) (T' := T1) (by rw [HE.out])) ?_
    rintro e w4 ⟨rfl, hb4, hr4⟩
    have HB4 := Lib.hid hb4
    have HBl4 := Lib.hid ((hr4 bl rfl).trans HBl.out)
    clear hb4 hr4 HB HBl
    go_wp2_with fail
    refine Calls.mono (bk_Crash HB4.out HU1.out 0 (by decide) (by decide)) ?_
    rintro e w5 ⟨rfl, hb5, hr5⟩
    have HB5 := Lib.hid hb5
    have HBl5 := Lib.hid ((hr5 bl rfl).trans HBl4.out)
    clear hb5 hr5 HB4 HBl4
    go_wp2_with fail
    refine Calls.mono (bk_Start HB5.out) ?_
    rintro e w6 ⟨rfl, hb6, hr6⟩
    have HB6 := Lib.hid hb6
    have HBl6 := Lib.hid ((hr6 bl rfl).trans HBl5.out)
    clear hb6 hr6 HB5 HBl5
    have HLL := Lib.hid (And.intro HI.out.len HI.out.l64)
    generalize (T1.crash 0).start = T2 at *
    clear HI hclk hwri HE HU HU1 HI2 l1 cl1 wr1 cl2 wr2
    go_wp2
    go_loopw [11] (fun i wr => ∃ (k : Nat) (ls' : List (List Int)), k ≤ 24 ∧ i = .int .i64 k ∧ Hid (ls'.length = 24 ∧ ∀ s ∈ ls', s.length = 64) ∧ Hid (∀ j, k ≤ j → ls'.getD j [] = ls.getD j []) ∧ Hid (BK w (fun k => k = bl) wr q T2) ∧ Hid (wr.heap[bl]? = some (.cells (secs ls').toArray 28 (0, 0)))) (fun i _ => 24 - (intOf i).toNat)
    case atStart => exact ⟨0, ls, Nat.zero_le _, rfl, HLL, Lib.hid (fun _ _ => rfl), HB6, HBl6⟩
    case round =>
      obtain ⟨k, ls', hk, rfl, HL', HG, HB, HBl⟩ := hrel
      by_cases hlt : k < 24
      · have hdq : ((k : Int) / 8) = ((k / 8 : Nat) : Int) := by omega
        obtain ⟨a, ha, hal⟩ := and_low (k : Int) 3 (by decide) (m := 7) (by decide)
        have ha2 : a = k % 8 := by
          have h1 := i64_and_mask (k : Int) 3 (by decide)
          rw [show (2 : Int) ^ 3 - 1 = 7 by decide, ha] at h1
          omega
        have hd3 : k / 8 < 3 := by omega
        have hka : 8 * (k / 8) + a = k := by omega
        have hrd := HR.out (k / 8) a hd3 (by omega)
        rw [hka] at hrd
        have HRD := Lib.hid hrd
        have hx64 : (if k / 8 = who then ls.getD k [] else zeroB).length = 64 := by
          split
          · have h1 : k < ls.length := by rw [HLL.out.1]; exact hlt
            rw [List.getD_eq_getElem?_getD, List.getElem?_eq_getElem h1]
            exact HLL.out.2 _ (List.getElem_mem h1)
          · exact zeroB_length
        have HX64 := Lib.hid hx64
        generalize hd : k / 8 = d at *
        have HD := Lib.hid hd
        generalize hxs : (if d = who then ls.getD k [] else zeroB) = xs at *
        have HXS := Lib.hid hxs
        clear hrd hx64 hd ha2 hka hxs
        go_wp2_with fail
        refine Calls.mono (st_read HB.out HU2.out (d : Int) (a : Int) HRD.out) ?_
        rintro e w7 ⟨rfl, hb7, hk7⟩
        have HB7 := Lib.hid hb7
        have HBl7 := Lib.hid (hk7.block HBl.out)
        clear hb7 hk7
        go_wp2_with (refine stop_at (o := ⟨some 12, _, _, _, _, _⟩) ?_)
        refine Stop.mk ?_
        refine wpList_new_row rfl rfl _ _ rfl rfl ty_sec (u8s zeroB) zero_sec (by rw [u8s_length, zeroB_length]) (u8s xs) rfl (by rw [u8s_length, HX64.out]) (u8s_one _) rfl ?_
        intro w8 hz8 hs8 hk8
        have HB8 := Lib.hid (HB7.out.kept hk8).1
        have HBl8 := Lib.hid (hk8.block HBl7.out)
        have hxn : w7.heap.size ≠ bl := fun e => by
          have := (Array.getElem?_eq_some_iff.1 HBl7.out).1
          omega
        clear hs8 hk8 HB7 HBl7 HB HBl
        have HX := hz8; clear hz8
        have cx : Hid (Cells w8 w7.heap.size 0 (u8s xs)) := Lib.hid (by simpa using Cells.of_block HX.out)
        by_cases hw : d = who
        · have hxl := Lib.hid (show xs = ls.getD k [] by rw [← HXS.out, if_pos hw])
          have hwn : ((d : Int) == (who : Int)) = true := by simp [hw]
          have HSL := Lib.hid (cells_sec (Cells.of_block HBl8.out) HL'.out.2 (a := k) (by rw [HL'.out.1]; exact hlt))
          rw [HG.out k (Nat.le_refl _), ← hxl.out] at HSL
          go_wp2
          refine wp_still_all (by kernel_rfl) (by kernel_rfl) fun ws hks hhs => ?_
          iterate 3 still_step
          refine still_load_agg rfl _ rfl ty_sec w7.heap.size 0 rfl _ (cx.out.kept hks) (by rw [u8s_length, HX64.out]) ?_
          iterate 2 still_step
          refine still_load_agg rfl _ rfl ty_sec bl (k * 64) rfl _ (HSL.out.kept hks) (by rw [u8s_length, HX64.out]) ?_
          refine still_neq_sec rfl _ _ rfl xs xs rfl rfl HX64.out HX64.out ?_
          rw [show (xs == xs) = true by simp]
          iterate 1 still_step
          refine wpStill_nil ?_
          have HB9 := Lib.hid (HB8.out.kept hks).1
          have HBl9 := Lib.hid (hks.block HBl8.out)
          have HG9 : Hid (∀ j, k + 1 ≤ j → ls'.getD j [] = ls.getD j []) := Lib.hid fun j hj => HG.out j (by omega)
          clear hks hhs HB8 HBl8
          go_wp2
          go_roundw
          case rel => exact ⟨k + 1, ls', hlt, by go_num, HL', HG9, HB9, HBl9⟩
          case measure => simp [intOf]; omega
        · have hxl := Lib.hid (show xs = zeroB by rw [← HXS.out, if_neg hw])
          have hwn : ((d : Int) == (who : Int)) = false := by simp; omega
          have hkl : k < ls'.length := by rw [HL'.out.1]; exact hlt
          have HJ : Hid (splice (secs ls') (k * 64) (u8s zeroB) = secs (ls'.set k zeroB)) := Lib.hid (splice_flat ls' HL'.out.2 k hkl _ zeroB_length)
          have HQ : Hid ((secs ls').length = 24 * 64) := Lib.hid (by rw [secs_length ls' HL'.out.2, HL'.out.1])
          go_wp2_with (refine stop_at (o := ⟨none, .store _ _ _, _, _, _, _⟩) ?_)
          refine Stop.mk ?_
          refine wpList_store_agg rfl _ _ rfl ty_sec bl (k * 64) rfl (u8s zeroB) rfl (by rw [u8s_length, zeroB_length]) (u8s_one _) (secs ls') 28 HBl8.out (by rw [HQ.out]; omega) ?_
          intro w9 hw9
          rw [HJ.out] at hw9
          have HB9 := Lib.hid (HB8.out.wrote hw9 rfl HBL)
          have HBl9 := Lib.hid hw9.blk
          have cx9 : Hid (Cells w9 w7.heap.size 0 (u8s xs)) := Lib.hid (fun j hj => by rw [← cx.out j hj]; exact World.cell?_of_block (hw9.oth _ hxn))
          have HL9 : Hid ((ls'.set k zeroB).length = 24 ∧ ∀ s ∈ ls'.set k zeroB, s.length = 64) := Lib.hid ⟨by rw [List.length_set]; exact HL'.out.1, fun s hs => by
            rcases List.mem_or_eq_of_mem_set hs with h' | h'
            · exact HL'.out.2 s h'
            · rw [h']; exact zeroB_length⟩
          have HG9 : Hid (∀ j, k + 1 ≤ j → (ls'.set k zeroB).getD j [] = ls.getD j []) := Lib.hid fun j hj => by rw [getD_set hkl, if_neg (by omega)]; exact HG.out j (by omega)
          have HSL := Lib.hid (cells_sec (Cells.of_block HBl9.out) HL9.out.2 (a := k) (by rw [List.length_set]; exact hkl))
          rw [getD_set hkl, if_pos rfl, ← hxl.out] at HSL
          clear hw9 HB8 HBl8 HJ HQ
          go_wp2
          refine wp_still_all (by kernel_rfl) (by kernel_rfl) fun ws hks hhs => ?_
          iterate 3 still_step
          refine still_load_agg rfl _ rfl ty_sec w7.heap.size 0 rfl _ (cx9.out.kept hks) (by rw [u8s_length, HX64.out]) ?_
          iterate 2 still_step
          refine still_load_agg rfl _ rfl ty_sec bl (k * 64) rfl _ (HSL.out.kept hks) (by rw [u8s_length, HX64.out]) ?_
          refine still_neq_sec rfl _ _ rfl xs xs rfl rfl HX64.out HX64.out ?_
          rw [show (xs == xs) = true by simp]
          iterate 1 still_step
          refine wpStill_nil ?_
          have HB10 := Lib.hid (HB9.out.kept hks).1
          have HBl10 := Lib.hid (hks.block HBl9.out)
          clear hks hhs HB9 HBl9
          go_wp2
          go_roundw
          case rel => exact ⟨k + 1, _, hlt, by go_num, HL9, HG9, HB10, HBl10⟩
          case measure => simp [intOf]; omega
      · have hk24 : k = 24 := by omega
        have HK := Lib.hid HB.out.keeps
        go_wp2
        go_ret
        exact ⟨rfl, HK.out⟩
end
end Go.Proofs.Ytfnjgcmghfnjhaa
