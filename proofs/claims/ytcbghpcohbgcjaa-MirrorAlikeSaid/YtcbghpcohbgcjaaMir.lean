/- MirrorAlike: the walk (gen_alike.py). -/
import Derived.Test.YtcbghpcohbgcjaaMil
import Derived.Test.YtcbghpcohbgcjaaMio
import Derived.Test.YtcbghpcohbgcjaaMiq
namespace Go.Proofs.Ytcbghpcohbgcjaa
open Go.RowKit
set_option linter.unusedVariables false
set_option linter.unusedSimpArgs false

section
variable {P : Program} {ops : Array Oper} {Q : Exit → Act → World → Prop} {md : Region.Mode} {S : World → Prop} {s : Nat}
/-- Just one may come up, and its guard says no. -/
theorem wpAnyE_none {i : Nat} {oi : Oper} {fuel : Nat} {listed listed' : Array Bool} {a : Act} {w : World} (hi : ops[i]? = some oi) (hr : Region.ready md ops listed = [i]) (hl : listed.setIfInBounds i true = listed')
    (hw : Region.wanted oi (yielded ops a.tmps) = false) (hS : i ≠ s → S w) (h : wpAnyE P md ops Q S s fuel listed' (a.put oi.dst undef) w) : wpAnyE P md ops Q S s (fuel + 1) listed a w := by
  subst hl
  refine ⟨fun h0 => (by rw [h0] at hr; cases hr), fun j hj => ?_⟩
  rw [hr] at hj
  obtain rfl : j = i := by simpa using hj
  unfold wpOp
  simp only [hi, hw, Bool.false_eq_true, if_false]
  exact ⟨hS, h⟩
end
theorem exec_neq_secB {W : World} {a : Act} {o : Oper} (x y : Operand) {t' : TypeId} (ho : o.op = .binOp .neq 36 x y t') (xs ys : List Int) (hxl : xs.length = 64) (hyl : ys.length = 64) (b : Bool) (hb : (!(xs == ys)) = b) (hx : a.eval x = .agg (u8s xs).toArray) (hy : a.eval y = .agg (u8s ys).toArray) :
    (execOp a.eval o).run Try.prog W = .ok (.value (.bool b)) W := by
  have heq := run_equal_secA xs ys hxl hyl W
  unfold execOp
  simp only [ho, hx, hy, Sem.run_bind]
  rw [run_eqGuard_agg _ _ _ _ _ _ _ eqg_sec]
  simp only [Result.andThen_ok]
  rw [run_neq_struct, heq]
  simp only [Result.andThen_ok, Sem.run_pure, hb]
theorem ty_arr8 : AggT Try.prog 55 8 := ⟨⟨_, (show Try.prog.underlying 55 = some (.array 8 3) by kernel_rfl), rfl⟩, by kernel_rfl⟩
theorem ints_one' (l : List Int) : ∀ u ∈ ints l, u.oneCell' = true := by intro u hu; simp only [ints, List.mem_map] at hu; obtain ⟨x, _, rfl⟩ := hu; rfl
theorem two_of {s a b : List Int} (h : s = a ∨ s = b) : ((!(s == a)) = false) ∨ ((!(s == a)) = true ∧ (!(s == b)) = false) := by
  by_cases e : s = a
  · exact .inl (by simp [e])
  · have e' : s = b := h.resolve_left e
    refine .inr ⟨by simpa using e, by simp [e']⟩
section
variable {w W : World}
set_option maxHeartbeats 4000000
set_option maxRecDepth 100000
theorem law_alike (v : Value) (l : List Int) (mask : Int) (turned : Bool) (w : World) (hs : ISrc w v l) (hm : 0 ≤ mask ∧ mask < 18446744073709551616) :
    Calls Try.prog 8 #[v, .int .u64 mask, .bool turned] w fun e w' => e = .returned (.bool true) ∧ Kept w w' := by
  have HSL := Lib.hid hs
  have HM := Lib.hid hm
  obtain ⟨oa, cap, rfl, hcap, hmax, hrest⟩ := hs
  clear hrest hm
  unfold maxLen at hmax
  go_enter Try.func8, Try.ntmps8
  go_wp2_with fail
  refine Calls.mono (m_shown _) ?_
  rintro e w1 ⟨rfl, hk⟩
  have HK1 := Lib.hid hk
  clear hk
  go_wp2_with fail
  refine Calls.mono (m_laid 2 (by decide) w w1 (fun _ => False) HK1.out (fun _ h => h.elim)) ?_
  rintro e w2 ⟨q, rfl, hb, hr⟩
  have HB2 : Hid (BK w (fun _ => False) w2 q (addZ 12 2)) := Lib.hid hb
  have HI2 : Hid (AlI (fun k => secN ((List.replicate 8 (0 : Int)).getD k 0)) (fun k => secN ((List.replicate 8 (0 : Int)).getD k 0)) (addZ 12 2)) := by
    have hf0 : (fun k => secN ((List.replicate 8 (0 : Int)).getD k 0)) = fun _ => secN 0 := by
      funext k; rw [List.getD_eq_getElem?_getD, List.getElem?_replicate]; split <;> rfl
    rw [hf0]; exact Lib.hid AlI.start
  have HC : Hid ((addZ 12 2).clock ≤ 0 ∧ (addZ 12 2).writes ≤ 0) := Lib.hid ⟨Int.le_of_eq (addZ_rest 12 2).2.2.1, Int.le_of_eq (addZ_rest 12 2).2.2.2⟩
  clear hb hr HK1
  generalize addZ 12 2 = T0 at *
  go_wp2_with (refine stop_at (o := ⟨some 9, _, _, _, _, _⟩) ?_)
  refine Stop.mk ?_
  refine wpList_alloc_abs rfl 55 rfl (ints (List.replicate 8 0)) zero_8 ?_
  intro w3 hz hs hn hk
  have HB3 := Lib.hid (HB2.out.box hk (by omega))
  have HA3 := hz
  have HBA : Hid (w.heap.size ≤ w2.heap.size) := Lib.hid HB2.out.keeps.size
  generalize w2.heap.size = BA at *
  clear hz hs hn hk HB2
  go_wp2_with (refine stop_at (o := ⟨some 10, _, _, _, _, _⟩) ?_)
  refine Stop.mk ?_
  refine wpList_alloc_abs rfl 55 rfl (ints (List.replicate 8 0)) zero_8 ?_
  intro w4 hz hs hn hk
  have HB4 := Lib.hid (HB3.out.box hk (by omega))
  have HA4 := Lib.hid (hk.block HA3.out)
  have HL4 := hz
  have HBB : Hid (w.heap.size ≤ w3.heap.size ∧ w3.heap.size ≠ BA) := Lib.hid ⟨HB3.out.keeps.size, fun e => by obtain ⟨_, _, hb⟩ := HB3.out; have := (hb.off BA (.inr rfl)).1; omega⟩
  generalize w3.heap.size = BB at *
  clear hz hs hn hk HB3 HA3
  go_upto_block 0 with fail
  go_cut [] (fun wc => ∃ (La Lb : List Int) (T : BankT), La.length = 8 ∧ Lb.length = 8 ∧ T.clock ≤ 160 ∧ T.writes ≤ 160 ∧ Hid (AlI (fun k => secN (La.getD k 0)) (fun k => secN (Lb.getD k 0)) T) ∧ Hid (wc.heap[BA]? = some (.cells (ints La).toArray 55 (0, 0))) ∧ Hid (wc.heap[BB]? = some (.cells (ints Lb).toArray 55 (0, 0))) ∧ Hid (BK w (fun k => (False ∨ k = BA) ∨ k = BB) wc q T))
  case first =>
    go_wp2
    go_loopw [11] (fun i wr => ∃ (c : Nat) (La Lb : List Int) (T : BankT), c ≤ l.length ∧ c ≤ 80 ∧ i = .int .i64 c ∧ La.length = 8 ∧ Lb.length = 8 ∧ T.clock ≤ 2 * c ∧ T.writes ≤ 2 * c ∧ Hid (AlI (fun k => secN (La.getD k 0)) (fun k => secN (Lb.getD k 0)) T) ∧ Hid (wr.heap[BA]? = some (.cells (ints La).toArray 55 (0, 0))) ∧ Hid (wr.heap[BB]? = some (.cells (ints Lb).toArray 55 (0, 0))) ∧ Hid (BK w (fun k => (False ∨ k = BA) ∨ k = BB) wr q T)) (fun i _ => l.length - (intOf i).toNat)
    case atStart => exact ⟨0, List.replicate 8 0, List.replicate 8 0, _, Nat.zero_le _, by decide, rfl, by simp, by simp, HC.out.1, HC.out.2, HI2, HA4, HL4, HB4⟩
    case round =>
      obtain ⟨c, La, Lb, T, hc, hc80, rfl, hLa, hLb, hclk, hwri, HI, HA, HL, HB⟩ := hrel
      by_cases hlt : c < l.length ∧ c < 80
      · obtain ⟨hlt, h80⟩ := hlt
        obtain ⟨b, off, rfl, g0⟩ := HSL.out.at c hlt
        have c0 := HB.out.keeps.cell' g0
        obtain ⟨a, ha, hal⟩ := and_low l[c] 4 (by decide) (m := 15) (by decide)
        have ha16 : a < 16 := hal
        clear hal g0
        generalize l[c] = x at *
        have HU := Lib.hid (HI.out.still.live.use (by decide) (by omega) (by omega))
        by_cases h7 : 7 < a
        · obtain ⟨T1, T2, e1, e2, h1, h2, k1, k2, v1, v2⟩ := HI.out.flush
          have HE1 := Lib.hid e1; have HE2 := Lib.hid e2; have HI3 := Lib.hid h2
          have HU1 := Lib.hid (h1.live.use (by decide) (by omega) (by omega))
          clear e1 e2 h1 h2
          go_wp2_with fail
          refine Calls.mono (st_flush HB.out HU.out 0 (c := 0) (T' := T1) (by rw [HE1.out]) (by rw [HE1.out])) ?_
          rintro e w5 ⟨rfl, hb, hr⟩
          have HB5 := Lib.hid hb
          have HA5 := Lib.hid ((hr BA (.inl (.inr rfl))).trans HA.out)
          have HL5 := Lib.hid ((hr BB (.inr rfl)).trans HL.out)
          clear hb hr HB HA HL c0 ha
          go_wp2_with fail
          refine Calls.mono (st_flush HB5.out HU1.out 1 (c := 0) (T' := T2) (by rw [HE2.out]) (by rw [HE2.out])) ?_
          rintro e w6 ⟨rfl, hb, hr⟩
          have HB6 := Lib.hid hb
          have HA6 := Lib.hid ((hr BA (.inl (.inr rfl))).trans HA5.out)
          have HL6 := Lib.hid ((hr BB (.inr rfl)).trans HL5.out)
          clear hb hr HB5 HA5 HL5
          go_wp2_with (refine stop_at (o := ⟨some 57, _, _, _, _, _⟩) ?_)
          refine Stop.mk ?_
          refine wpList_load_agg rfl _ rfl ty_arr8 BB 0 rfl (ints Lb) (by simpa using Cells.of_block HL6.out) (by rw [ints_length, hLb]) ?_
          go_wp2_with (refine stop_at (o := ⟨none, .store _ _ _, _, _, _, _⟩) ?_)
          refine Stop.mk ?_
          refine wpList_store_agg rfl _ _ rfl ty_arr8 BA 0 rfl (ints Lb) rfl (by rw [ints_length, hLb]) (ints_one' _) _ _ HA6.out (by rw [ints_length]; omega) ?_
          intro w7 hw
          replace hw := hw.all (by rw [ints_length, ints_length]; omega)
          have HB7 := Lib.hid (HB6.out.wrote hw (.inl (.inr rfl)) HBA.out)
          have HA7 := Lib.hid hw.blk
          have HL7 := Lib.hid ((hw.oth BB HBB.out.2).trans HL6.out)
          clear hw HB6 HA6 HL6
          go_wp2
          go_roundw
          case rel => exact ⟨c + 1, Lb, Lb, T2, hlt, h80, by go_num, hLb, hLb, by omega, by omega, HI3, HA7, HL7, HB7⟩
          case measure => simp [intOf]; omega
        · have ha8 : a < 8 := by omega
          obtain ⟨T1, T2, e1, e2, h1, h2, k1, k2, v1, v2⟩ := HI.out.write ha8 (secN_ok ((c : Int) + 1))
          rw [setL_eq Lb a _ (by omega)] at h2
          have HE := Lib.hid e2; have HI3 := Lib.hid h2
          have HU1 : Hid (T.write 0 (a : Int) (secN ((c : Int) + 1))).1.Use := Lib.hid (by rw [e1]; exact h1.live.use (by decide) (by omega) (by omega))
          clear e1 e2 h1 h2
          go_wp2_with fail
          refine Calls.mono (m_sector ((c : Int) + 1) _) ?_
          rintro e w5 ⟨rfl, hk⟩
          have HB5 := Lib.hid (HB.out.kept hk).1
          have HA5 := Lib.hid (hk.block HA.out)
          have HL5 := Lib.hid (hk.block HL.out)
          clear hk HB HA HL c0 ha
          go_wp2_with fail
          refine Calls.mono (m_WriteE HB5.out HU.out 0 (a : Int) 1 (a : Int) (s := secN ((c : Int) + 1)) (secN_len _) HU1.out HE.out) ?_
          rintro e w6 ⟨rfl, hb, hr⟩
          have HB6 := Lib.hid hb
          have HA6 := Lib.hid ((hr BA (.inl (.inr rfl))).trans HA5.out)
          have HL6 := Lib.hid ((hr BB (.inr rfl)).trans HL5.out)
          clear hb hr HB5 HA5 HL5
          go_wp2_with (refine stop_at (o := ⟨none, .store _ _ _, _, _, _, _⟩) ?_)
          refine Stop.mk ?_
          refine wpList_set_cell rfl _ _ rfl size_int BB a rfl (.int .i64 ((c : Int) + 1)) rfl rfl rfl _ _ HL6.out (by rw [ints_length]; omega) ?_
          intro w7 hw
          rw [ints_set] at hw
          have HB7 := Lib.hid (HB6.out.wrote hw (.inr rfl) HBB.out.1)
          have HL7 := Lib.hid hw.blk
          have HA7 := Lib.hid ((hw.oth BA HBB.out.2.symm).trans HA6.out)
          clear hw HB6 HA6 HL6
          go_wp2
          go_roundw
          case rel => exact ⟨c + 1, La, Lb.set a ((c : Int) + 1), T2, hlt, h80, by go_num, hLa, by rw [List.length_set]; exact hLb, by omega, by omega, HI3, HA7, HL7, HB7⟩
          case measure => simp [intOf]; omega
      · have hkk : l.length ≤ c ∨ (c < l.length ∧ 80 ≤ c) := by omega
        clear hlt
        rcases hkk with hkk | ⟨hkk, h80⟩
        all_goals
          go_wp2
          go_meet
          case rel => exact ⟨La, Lb, T, hLa, hLb, by omega, by omega, HI, HA, HL, HB⟩
  case rest =>
    obtain ⟨La, Lb, T, hLa, hLb, hclk, hwri, HI, HA, HL, HB⟩ := hcut
    have HU := Lib.hid (HI.out.still.live.use (by decide) (by omega) (by omega))
    obtain ⟨j1, j2, j3, j4⟩ := HI.out.crash mask
    have HJ := Lib.hid j1
    clear HSL HB4 HA4 HL4 HI2 HC j1 j4
    go_wp2_with fail
    refine Calls.mono (bk_Crash HB.out HU.out mask HM.out.1 HM.out.2) ?_
    rintro e w5 ⟨rfl, hb, hr⟩
    have HB5 := Lib.hid hb
    have HA5 := Lib.hid ((hr BA (.inl (.inr rfl))).trans HA.out)
    have HL5 := Lib.hid ((hr BB (.inr rfl)).trans HL.out)
    clear hb hr HB HA HL
    go_wp2_with fail
    refine Calls.mono (bk_Start HB5.out) ?_
    rintro e w6 ⟨rfl, hb, hr⟩
    have HB6 := Lib.hid hb
    have HA6 := Lib.hid ((hr BA (.inl (.inr rfl))).trans HA5.out)
    have HL6 := Lib.hid ((hr BB (.inr rfl)).trans HL5.out)
    have hc6 : (T.crash mask).start.clock ≤ 160 := by show (T.crash mask).clock ≤ 160; omega
    have hw6 : (T.crash mask).start.writes ≤ 160 := by show (T.crash mask).writes ≤ 160; omega
    clear hb hr HB5 HA5 HL5 HI HU j2 j3 hclk hwri
    generalize (T.crash mask).start = T6 at *
    go_wp2
    go_loopw [13] (fun i wr => ∃ (j : Nat) (T : BankT), j ≤ 8 ∧ i = .int .i64 j ∧ T.clock ≤ 160 + j ∧ T.writes ≤ 160 + j ∧ Hid (CaI (fun k => secN (La.getD k 0)) (fun k => secN (Lb.getD k 0)) j T) ∧ Hid (wr.heap[BA]? = some (.cells (ints La).toArray 55 (0, 0))) ∧ Hid (wr.heap[BB]? = some (.cells (ints Lb).toArray 55 (0, 0))) ∧ Hid (BK w (fun k => (False ∨ k = BA) ∨ k = BB) wr q T)) (fun i _ => 8 - (intOf i).toNat)
    case atStart => exact ⟨0, _, Nat.zero_le _, rfl, by omega, by omega, HJ, HA6, HL6, HB6⟩
    case round =>
      obtain ⟨j, T, hj, rfl, hclk, hwri, HI, HA, HL, HB⟩ := hrel
      by_cases hjl : j < 8
      · go_wp2_with (refine stop_at (o := ⟨some 14, _, _, _, _, _⟩) ?_)
        refine Stop.mk ?_
        refine wpList_new_row rfl rfl _ _ rfl rfl ty_plc _ zero_plc rfl [.int .i64 0, .int .i64 (j : Int)] rfl rfl (one_plc _ _) rfl ?_
        intro w7 hz hs hk
        have HB7 := Lib.hid (HB.out.box hk hs)
        have HA7 := Lib.hid (hk.block HA.out)
        have HL7 := Lib.hid (hk.block HL.out)
        have HX7 := hz
        have HBX : Hid (w.heap.size ≤ wr.heap.size) := Lib.hid HB.out.keeps.size
        have HXA : Hid (wr.heap.size ≠ BA ∧ wr.heap.size ≠ BB) := Lib.hid ⟨fun e => by obtain ⟨_, _, hb⟩ := HB.out; have := (hb.off BA (.inl (.inr rfl))).1; omega, fun e => by obtain ⟨_, _, hb⟩ := HB.out; have := (hb.off BB (.inr rfl)).1; omega⟩
        generalize wr.heap.size = X at *
        clear hz hs hk HB HA HL
        go_wp2_with (refine stop_at (o := ⟨some 15, _, _, _, _, _⟩) ?_)
        refine Stop.mk ?_
        refine wpList_new_row rfl rfl _ _ rfl rfl ty_plc _ zero_plc rfl [.int .i64 1, .int .i64 (j : Int)] rfl rfl (one_plc _ _) rfl ?_
        intro w8 hz hs hk
        have HB8 := Lib.hid (HB7.out.box hk hs)
        have HA8 := Lib.hid (hk.block HA7.out)
        have HL8 := Lib.hid (hk.block HL7.out)
        have HX8 := Lib.hid (hk.block HX7.out)
        have HY8 := hz
        have HBY : Hid (w.heap.size ≤ w7.heap.size) := Lib.hid HB7.out.keeps.size
        have HYA : Hid (w7.heap.size ≠ BA ∧ w7.heap.size ≠ BB ∧ w7.heap.size ≠ X) := Lib.hid ⟨fun e => by obtain ⟨_, _, hb⟩ := HB7.out; have := (hb.off BA (.inl (.inl (.inr rfl)))).1; omega, fun e => by obtain ⟨_, _, hb⟩ := HB7.out; have := (hb.off BB (.inl (.inr rfl))).1; omega, fun e => by obtain ⟨_, _, hb⟩ := HB7.out; have := (hb.off X (.inr rfl)).1; omega⟩
        generalize w7.heap.size = Y at *
        clear hz hs hk HB7 HA7 HL7 HX7
        go_upto_if 85 with fail
        go_cut [] from 85 to 87 (fun wc => ∃ (x y : Nat), x < 2 ∧ y < 2 ∧ x ≠ y ∧ Hid (wc.heap[BA]? = some (.cells (ints La).toArray 55 (0, 0))) ∧ Hid (wc.heap[BB]? = some (.cells (ints Lb).toArray 55 (0, 0))) ∧ Hid (wc.heap[X]? = some (.cells [Value.int .i64 (x : Int), .int .i64 (j : Int)].toArray 31 (0, 0))) ∧ Hid (wc.heap[Y]? = some (.cells [Value.int .i64 (y : Int), .int .i64 (j : Int)].toArray 31 (0, 0))) ∧ Hid (BK w (fun k => (((False ∨ k = BA) ∨ k = BB) ∨ k = X) ∨ k = Y) wc q T))
        case first =>
          rcases turned with _ | _
          · go_wp2
            go_meet
            case rel => exact ⟨0, 1, by decide, by decide, by decide, HA8, HL8, HX8, HY8, HB8⟩
          · obtain ⟨p0, p1⟩ := Pl.of HX8.out
            obtain ⟨q0, q1⟩ := Pl.of HY8.out
            go_wp2_with (refine stop_at (o := ⟨none, .store _ _ _, _, _, _, _⟩) ?_)
            refine Stop.mk ?_
            refine wpList_store_agg rfl _ _ rfl ty_plc X 0 rfl [.int .i64 1, .int .i64 (j : Int)] rfl rfl (one_plc _ _) _ _ HX8.out (by simp) ?_
            intro w9 hw
            replace hw := hw.all rfl
            have HB9 := Lib.hid (HB8.out.wrote hw (.inl (.inr rfl)) HBX.out)
            have HA9 := Lib.hid ((hw.oth BA HXA.out.1.symm).trans HA8.out)
            have HL9 := Lib.hid ((hw.oth BB HXA.out.2.symm).trans HL8.out)
            have HX9 := Lib.hid hw.blk
            have HY9 := Lib.hid ((hw.oth Y HYA.out.2.2).trans HY8.out)
            clear hw HB8 HA8 HL8 HX8 HY8 p0 p1 q0 q1
            go_wp2_with (refine stop_at (o := ⟨none, .store _ _ _, _, _, _, _⟩) ?_)
            refine Stop.mk ?_
            refine wpList_store_agg rfl _ _ rfl ty_plc Y 0 rfl [.int .i64 0, .int .i64 (j : Int)] rfl rfl (one_plc _ _) _ _ HY9.out (by simp) ?_
            intro w10 hw
            replace hw := hw.all rfl
            have HB10 := Lib.hid (HB9.out.wrote hw (.inr rfl) HBY.out)
            have HA10 := Lib.hid ((hw.oth BA HYA.out.1.symm).trans HA9.out)
            have HL10 := Lib.hid ((hw.oth BB HYA.out.2.1.symm).trans HL9.out)
            have HX10 := Lib.hid ((hw.oth X HYA.out.2.2.symm).trans HX9.out)
            have HY10 := Lib.hid hw.blk
            clear hw HB9 HA9 HL9 HX9 HY9
            go_wp2
            go_meet
            case rel => exact ⟨1, 0, by decide, by decide, by decide, HA10, HL10, HX10, HY10, HB10⟩
        case rest =>
          obtain ⟨x, y, hx2, hy2, hxy, HA, HL, HX, HY, HB⟩ := hcut
          have HU := Lib.hid (HI.out.1.live.use (by decide) (by omega) (by omega))
          obtain ⟨s, t, T', r1, r2, ls, lt, ds, dt, a1, a2, r3, r4, hI', k1, k2⟩ := HI.out.step hjl hx2 hy2 hxy
          have HU' := Lib.hid (hI'.1.live.use (by decide) (by omega) (by omega))
          have R1 := Lib.hid r1; have R2 := Lib.hid r2; have R3 := Lib.hid r3; have R4 := Lib.hid r4; have A1 := Lib.hid a1; have A2 := Lib.hid a2; have LS := Lib.hid ls.1; have LT := Lib.hid lt; have DS := Lib.hid ds; have DT := Lib.hid dt; have HI3 := Lib.hid hI'
          clear r1 r2 r3 r4 a1 a2 ls lt ds dt hI' hx2 hy2 hxy HB8 HA8 HL8 HX8 HY8
          obtain ⟨p0, p1⟩ := Pl.of HX.out
          obtain ⟨q0, q1⟩ := Pl.of HY.out
          go_wp2_with fail
          refine Calls.mono (st_read HB.out HU.out (x : Int) (j : Int) R1.out) ?_
          rintro e w11 ⟨rfl, hb, hk⟩
          have HB11 := Lib.hid (HB.out.kept hk).1
          have HA11 := Lib.hid (hk.block HA.out)
          have HL11 := Lib.hid (hk.block HL.out)
          have HX11 := Lib.hid (hk.block HX.out)
          have HY11 := Lib.hid (hk.block HY.out)
          clear hb hk HB HA HL HX HY p0 p1 q0 q1
          go_wp2_with (refine stop_at (o := ⟨some 16, _, _, _, _, _⟩) ?_)
          refine Stop.mk ?_
          refine wpList_new_row rfl rfl _ _ rfl rfl ty_sec (u8s zeroB) zero_sec (by rw [u8s_length, zeroB_length]) (u8s s) rfl (by rw [u8s_length, LS.out]) (u8s_one _) rfl ?_
          intro w12 hz hs hk
          have HB12 := Lib.hid (HB11.out.box hk hs)
          have HA12 := Lib.hid (hk.block HA11.out)
          have HL12 := Lib.hid (hk.block HL11.out)
          have HX12 := Lib.hid (hk.block HX11.out)
          have HY12 := Lib.hid (hk.block HY11.out)
          have S12 := hz
          generalize w11.heap.size = Bs at *
          clear hz hs hk HB11 HA11 HL11 HX11 HY11
          obtain ⟨p0, p1⟩ := Pl.of HX12.out
          obtain ⟨q0, q1⟩ := Pl.of HY12.out
          go_wp2_with fail
          refine Calls.mono (st_read HB12.out HU.out (y : Int) (j : Int) R2.out) ?_
          rintro e w13 ⟨rfl, hb, hk⟩
          have HB13 := Lib.hid (HB12.out.kept hk).1
          have HA13 := Lib.hid (hk.block HA12.out)
          have HL13 := Lib.hid (hk.block HL12.out)
          have HX13 := Lib.hid (hk.block HX12.out)
          have HY13 := Lib.hid (hk.block HY12.out)
          have S13 := Lib.hid (hk.block S12.out)
          clear hb hk HB12 HA12 HL12 HX12 HY12 S12 p0 p1 q0 q1
          go_wp2_with (refine stop_at (o := ⟨some 18, _, _, _, _, _⟩) ?_)
          refine Stop.mk ?_
          refine wpList_new_row rfl rfl _ _ rfl rfl ty_sec (u8s zeroB) zero_sec (by rw [u8s_length, zeroB_length]) (u8s t) rfl (by rw [u8s_length, LT.out]) (u8s_one _) rfl ?_
          intro w14 hz hs hk
          have HB14 := Lib.hid (HB13.out.box hk hs)
          have HA14 := Lib.hid (hk.block HA13.out)
          have HL14 := Lib.hid (hk.block HL13.out)
          have HX14 := Lib.hid (hk.block HX13.out)
          have HY14 := Lib.hid (hk.block HY13.out)
          have S14 := Lib.hid (hk.block S13.out)
          have Z14 := hz
          generalize w13.heap.size = Bt at *
          clear hz hs hk HB13 HA13 HL13 HX13 HY13 S13
          go_upto_region 28 with fail
          obtain ⟨lj, hlj⟩ : ∃ lj, La.getD j 0 = lj := ⟨_, rfl⟩
          obtain ⟨mj, hmj⟩ : ∃ mj, Lb.getD j 0 = mj := ⟨_, rfl⟩
          have d1 : ((!(s == secN lj)) = false) ∨ ((!(s == secN lj)) = true ∧ (!(s == secN mj)) = false) := two_of (by rw [← hlj, ← hmj]; exact DS.out)
          have d2 : ((!(t == secN lj)) = false) ∨ ((!(t == secN lj)) = true ∧ (!(t == secN mj)) = false) := two_of (by rw [← hlj, ← hmj]; exact DT.out)
          have D1 := Lib.hid d1; have D2 := Lib.hid d2
          have CL : Hid (w14.cell? ⟨BA, j, none⟩ = some (.int .i64 lj)) := Lib.hid (by rw [← hlj]; exact ints_at HA14.out (by omega))
          have CM : Hid (w14.cell? ⟨BB, j, none⟩ = some (.int .i64 mj)) := Lib.hid (by rw [← hmj]; exact ints_at HL14.out (by omega))
          have hj8i : (j : Int) < 8 := by omega
          clear d1 d2 hlj hmj
          go_cut [137] from 100 to 137 (fun v wc => v = .bool false ∧ Hid (Kept w14 wc))
          case first =>
            have hS : Kept w14 w14.drew ∧ Cells w14.drew Bs 0 (u8s s) ∧ Cells w14.drew Bt 0 (u8s t) ∧ w14.drew.cell? ⟨BA, j, none⟩ = some (.int .i64 lj) ∧ w14.drew.cell? ⟨BB, j, none⟩ = some (.int .i64 mj) := ⟨(Kept.refl _).drew, Cells.of_block S14.out, Cells.of_block Z14.out, CL.out, CM.out⟩
            rcases D1.out with hb1 | ⟨hb1, hm1⟩
            · rcases D2.out with hb2 | ⟨hb2, hm2⟩
              · refine wp_region_calm ?_
                refine wp_region_E (fun W => Kept w14 W ∧ Cells W Bs 0 (u8s s) ∧ Cells W Bt 0 (u8s t) ∧ W.cell? ⟨BA, j, none⟩ = some (.int .i64 lj) ∧ W.cell? ⟨BB, j, none⟩ = some (.int .i64 mj)) 100 (by kernel_rfl) ?_
                refine wpAnyE_take (i := 0) (v := ?_) (listed' := #[true, false, false, false, false, false, false, false, false, false, false, false, false, false, false, false, false, false, false, false, false, false, false, false, false, false, false, false, false, false, false, false, false, false, false, false, false, false]) (by rfl) (by kernel_rfl) (by kernel_rfl) calm_put hS (by rfl) ?_ ?_
                rotate_left
                · intro W hW; clear hW; go_simp; try (with_reducible rfl)
                simp only [Act.put, List.getElem_toArray, List.getElem_cons_succ, List.getElem_cons_zero, List.setIfInBounds_toArray, List.set_cons_zero, List.set_cons_succ]
                refine wpAnyE_take (i := 1) (v := ?_) (listed' := #[true, true, false, false, false, false, false, false, false, false, false, false, false, false, false, false, false, false, false, false, false, false, false, false, false, false, false, false, false, false, false, false, false, false, false, false, false, false]) (by rfl) (by kernel_rfl) (by kernel_rfl) calm_put hS (by rfl) ?_ ?_
                rotate_left
                · intro W hW; clear hW; go_simp; try (with_reducible rfl)
                simp only [Act.put, List.getElem_toArray, List.getElem_cons_succ, List.getElem_cons_zero, List.setIfInBounds_toArray, List.set_cons_zero, List.set_cons_succ]
                refine wpAnyE_take (i := 2) (v := ?_) (listed' := #[true, true, true, false, false, false, false, false, false, false, false, false, false, false, false, false, false, false, false, false, false, false, false, false, false, false, false, false, false, false, false, false, false, false, false, false, false, false]) (by rfl) (by kernel_rfl) (by kernel_rfl) calm_put hS (by rfl) ?_ ?_
                rotate_left
                · intro W hW; clear hW; go_simp; try (with_reducible rfl)
                simp only [Act.put, List.getElem_toArray, List.getElem_cons_succ, List.getElem_cons_zero, List.setIfInBounds_toArray, List.set_cons_zero, List.set_cons_succ]
                refine wpAnyE_take (i := 3) (v := ?_) (listed' := #[true, true, true, true, false, false, false, false, false, false, false, false, false, false, false, false, false, false, false, false, false, false, false, false, false, false, false, false, false, false, false, false, false, false, false, false, false, false]) (by rfl) (by kernel_rfl) (by kernel_rfl) calm_put hS (by rfl) ?_ ?_
                rotate_left
                · intro W hW; clear hW; go_simp; try (with_reducible rfl)
                simp only [Act.put, List.getElem_toArray, List.getElem_cons_succ, List.getElem_cons_zero, List.setIfInBounds_toArray, List.set_cons_zero, List.set_cons_succ]
                refine wpAnyE_take (i := 4) (v := ?_) (listed' := #[true, true, true, true, true, false, false, false, false, false, false, false, false, false, false, false, false, false, false, false, false, false, false, false, false, false, false, false, false, false, false, false, false, false, false, false, false, false]) (by rfl) (by kernel_rfl) (by kernel_rfl) calm_put hS (by rfl) ?_ ?_
                rotate_left
                · intro W hW; clear hW; go_simp; try (with_reducible rfl)
                simp only [Act.put, List.getElem_toArray, List.getElem_cons_succ, List.getElem_cons_zero, List.setIfInBounds_toArray, List.set_cons_zero, List.set_cons_succ]
                refine wpAnyE_take (i := 5) (v := ?_) (listed' := #[true, true, true, true, true, true, false, false, false, false, false, false, false, false, false, false, false, false, false, false, false, false, false, false, false, false, false, false, false, false, false, false, false, false, false, false, false, false]) (by rfl) (by kernel_rfl) (by kernel_rfl) calm_put hS (by rfl) ?_ ?_
                rotate_left
                · intro W hW; clear hW; go_simp; try (with_reducible rfl)
                simp only [Act.put, List.getElem_toArray, List.getElem_cons_succ, List.getElem_cons_zero, List.setIfInBounds_toArray, List.set_cons_zero, List.set_cons_succ]
                refine wpAnyE_take (i := 6) (v := ?_) (listed' := #[true, true, true, true, true, true, true, false, false, false, false, false, false, false, false, false, false, false, false, false, false, false, false, false, false, false, false, false, false, false, false, false, false, false, false, false, false, false]) (by rfl) (by kernel_rfl) (by kernel_rfl) calm_put hS (by rfl) ?_ ?_
                rotate_left
                · intro W hW; clear hW; go_simp; try (with_reducible rfl)
                simp only [Act.put, List.getElem_toArray, List.getElem_cons_succ, List.getElem_cons_zero, List.setIfInBounds_toArray, List.set_cons_zero, List.set_cons_succ]
                refine wpAnyE_take (i := 7) (v := .agg (u8s s).toArray) (listed' := #[true, true, true, true, true, true, true, true, false, false, false, false, false, false, false, false, false, false, false, false, false, false, false, false, false, false, false, false, false, false, false, false, false, false, false, false, false, false]) (by rfl) (by kernel_rfl) (by kernel_rfl) calm_put hS (by rfl) ?_ ?_
                · intro W hW; have cl := hW.2.2.2.1; have cm := hW.2.2.2.2; exact exec_load_sec _ rfl Bs rfl s LS.out hW.2.1
                simp only [Act.put, List.getElem_toArray, List.getElem_cons_succ, List.getElem_cons_zero, List.setIfInBounds_toArray, List.set_cons_zero, List.set_cons_succ]
                refine wpAnyE_take (i := 8) (v := ?_) (listed' := #[true, true, true, true, true, true, true, true, true, false, false, false, false, false, false, false, false, false, false, false, false, false, false, false, false, false, false, false, false, false, false, false, false, false, false, false, false, false]) (by rfl) (by kernel_rfl) (by kernel_rfl) calm_put hS (by rfl) ?_ ?_
                rotate_left
                · intro W hW; clear hW; go_simp; try (with_reducible rfl)
                simp only [Act.put, List.getElem_toArray, List.getElem_cons_succ, List.getElem_cons_zero, List.setIfInBounds_toArray, List.set_cons_zero, List.set_cons_succ]
                refine wpAnyE_take (i := 9) (v := ?_) (listed' := #[true, true, true, true, true, true, true, true, true, true, false, false, false, false, false, false, false, false, false, false, false, false, false, false, false, false, false, false, false, false, false, false, false, false, false, false, false, false]) (by rfl) (by kernel_rfl) (by kernel_rfl) calm_put hS (by rfl) ?_ ?_
                rotate_left
                · intro W hW; clear hW; go_simp; try (with_reducible rfl)
                simp only [Act.put, List.getElem_toArray, List.getElem_cons_succ, List.getElem_cons_zero, List.setIfInBounds_toArray, List.set_cons_zero, List.set_cons_succ]
                refine wpAnyE_take (i := 10) (v := ?_) (listed' := #[true, true, true, true, true, true, true, true, true, true, true, false, false, false, false, false, false, false, false, false, false, false, false, false, false, false, false, false, false, false, false, false, false, false, false, false, false, false]) (by rfl) (by kernel_rfl) (by kernel_rfl) calm_put hS (by rfl) ?_ ?_
                rotate_left
                · intro W hW; have cl := hW.2.2.2.1; have cm := hW.2.2.2.2; go_simp; try (with_reducible rfl)
                simp only [Act.put, List.getElem_toArray, List.getElem_cons_succ, List.getElem_cons_zero, List.setIfInBounds_toArray, List.set_cons_zero, List.set_cons_succ]
                refine wpAnyE_one (i := 11) (listed' := #[true, true, true, true, true, true, true, true, true, true, true, true, false, false, false, false, false, false, false, false, false, false, false, false, false, false, false, false, false, false, false, false, false, false, false, false, false, false]) (by rfl) (by kernel_rfl) (by kernel_rfl) (by rfl) (fun K hK => ?_)
                simp only [Act.put, List.getElem_toArray, List.getElem_cons_succ, List.getElem_cons_zero, List.setIfInBounds_toArray, List.set_cons_zero, List.set_cons_succ]
                go_wp2_with fail
                refine Calls.mono (m_sector lj _) ?_
                rintro e wa ⟨rfl, hks⟩
                have hS := (⟨hS.1.trans hks, hS.2.1.kept hks, hS.2.2.1.kept hks, hks.cell' hS.2.2.2.1, hks.cell' hS.2.2.2.2⟩ : _ ∧ _ ∧ _ ∧ _ ∧ _)
                clear hks
                refine hK _ _ (fun _ => hS) ?_; clear hK K
                refine wpAnyE_take (i := 12) (v := .bool false) (listed' := #[true, true, true, true, true, true, true, true, true, true, true, true, true, false, false, false, false, false, false, false, false, false, false, false, false, false, false, false, false, false, false, false, false, false, false, false, false, false]) (by rfl) (by kernel_rfl) (by kernel_rfl) calm_put hS (by rfl) ?_ ?_
                · intro W hW; clear hW; exact exec_neq_secB _ _ rfl s (secN lj) LS.out (secN_len _) false hb1 rfl rfl
                simp only [Act.put, List.getElem_toArray, List.getElem_cons_succ, List.getElem_cons_zero, List.setIfInBounds_toArray, List.set_cons_zero, List.set_cons_succ]
                refine wpAnyE_take (i := 13) (v := ?_) (listed' := #[true, true, true, true, true, true, true, true, true, true, true, true, true, true, false, false, false, false, false, false, false, false, false, false, false, false, false, false, false, false, false, false, false, false, false, false, false, false]) (by rfl) (by kernel_rfl) (by kernel_rfl) calm_put hS (by rfl) ?_ ?_
                rotate_left
                · intro W hW; clear hW; go_simp; try (with_reducible rfl)
                simp only [Act.put, List.getElem_toArray, List.getElem_cons_succ, List.getElem_cons_zero, List.setIfInBounds_toArray, List.set_cons_zero, List.set_cons_succ]
                refine wpAnyE_skip (i := 14) (listed' := #[true, true, true, true, true, true, true, true, true, true, true, true, true, true, true, false, false, false, false, false, false, false, false, false, false, false, false, false, false, false, false, false, false, false, false, false, false, false]) (by rfl) (by kernel_rfl) (by kernel_rfl) calm_put hS (by rfl) ?_
                simp only [Act.put, List.getElem_toArray, List.getElem_cons_succ, List.getElem_cons_zero, List.setIfInBounds_toArray, List.set_cons_zero, List.set_cons_succ]
                refine wpAnyE_skip (i := 15) (listed' := #[true, true, true, true, true, true, true, true, true, true, true, true, true, true, true, true, false, false, false, false, false, false, false, false, false, false, false, false, false, false, false, false, false, false, false, false, false, false]) (by rfl) (by kernel_rfl) (by kernel_rfl) calm_put hS (by rfl) ?_
                simp only [Act.put, List.getElem_toArray, List.getElem_cons_succ, List.getElem_cons_zero, List.setIfInBounds_toArray, List.set_cons_zero, List.set_cons_succ]
                refine wpAnyE_skip (i := 16) (listed' := #[true, true, true, true, true, true, true, true, true, true, true, true, true, true, true, true, true, false, false, false, false, false, false, false, false, false, false, false, false, false, false, false, false, false, false, false, false, false]) (by rfl) (by kernel_rfl) (by kernel_rfl) calm_put hS (by rfl) ?_
                simp only [Act.put, List.getElem_toArray, List.getElem_cons_succ, List.getElem_cons_zero, List.setIfInBounds_toArray, List.set_cons_zero, List.set_cons_succ]
                refine wpAnyE_skip (i := 17) (listed' := #[true, true, true, true, true, true, true, true, true, true, true, true, true, true, true, true, true, true, false, false, false, false, false, false, false, false, false, false, false, false, false, false, false, false, false, false, false, false]) (by rfl) (by kernel_rfl) (by kernel_rfl) calm_put hS (by rfl) ?_
                simp only [Act.put, List.getElem_toArray, List.getElem_cons_succ, List.getElem_cons_zero, List.setIfInBounds_toArray, List.set_cons_zero, List.set_cons_succ]
                refine wpAnyE_none (i := 18) (listed' := #[true, true, true, true, true, true, true, true, true, true, true, true, true, true, true, true, true, true, true, false, false, false, false, false, false, false, false, false, false, false, false, false, false, false, false, false, false, false]) (by rfl) (by kernel_rfl) (by kernel_rfl) (by rfl) (fun _ => hS) ?_
                simp only [Act.put, List.getElem_toArray, List.getElem_cons_succ, List.getElem_cons_zero, List.setIfInBounds_toArray, List.set_cons_zero, List.set_cons_succ]
                refine wpAnyE_skip (i := 19) (listed' := #[true, true, true, true, true, true, true, true, true, true, true, true, true, true, true, true, true, true, true, true, false, false, false, false, false, false, false, false, false, false, false, false, false, false, false, false, false, false]) (by rfl) (by kernel_rfl) (by kernel_rfl) calm_put hS (by rfl) ?_
                simp only [Act.put, List.getElem_toArray, List.getElem_cons_succ, List.getElem_cons_zero, List.setIfInBounds_toArray, List.set_cons_zero, List.set_cons_succ]
                refine wpAnyE_take (i := 20) (v := ?_) (listed' := #[true, true, true, true, true, true, true, true, true, true, true, true, true, true, true, true, true, true, true, true, true, false, false, false, false, false, false, false, false, false, false, false, false, false, false, false, false, false]) (by rfl) (by kernel_rfl) (by kernel_rfl) calm_put hS (by rfl) ?_ ?_
                rotate_left
                · intro W hW; clear hW; go_simp; try (with_reducible rfl)
                simp only [Act.put, List.getElem_toArray, List.getElem_cons_succ, List.getElem_cons_zero, List.setIfInBounds_toArray, List.set_cons_zero, List.set_cons_succ]
                refine wpAnyE_take (i := 21) (v := ?_) (listed' := #[true, true, true, true, true, true, true, true, true, true, true, true, true, true, true, true, true, true, true, true, true, true, false, false, false, false, false, false, false, false, false, false, false, false, false, false, false, false]) (by rfl) (by kernel_rfl) (by kernel_rfl) calm_put hS (by rfl) ?_ ?_
                rotate_left
                · intro W hW; clear hW; go_simp; try (with_reducible rfl)
                simp only [Act.put, List.getElem_toArray, List.getElem_cons_succ, List.getElem_cons_zero, List.setIfInBounds_toArray, List.set_cons_zero, List.set_cons_succ]
                refine wpAnyE_take (i := 22) (v := ?_) (listed' := #[true, true, true, true, true, true, true, true, true, true, true, true, true, true, true, true, true, true, true, true, true, true, true, false, false, false, false, false, false, false, false, false, false, false, false, false, false, false]) (by rfl) (by kernel_rfl) (by kernel_rfl) calm_put hS (by rfl) ?_ ?_
                rotate_left
                · intro W hW; clear hW; go_simp; try (with_reducible rfl)
                simp only [Act.put, List.getElem_toArray, List.getElem_cons_succ, List.getElem_cons_zero, List.setIfInBounds_toArray, List.set_cons_zero, List.set_cons_succ]
                refine wpAnyE_take (i := 23) (v := .agg (u8s t).toArray) (listed' := #[true, true, true, true, true, true, true, true, true, true, true, true, true, true, true, true, true, true, true, true, true, true, true, true, false, false, false, false, false, false, false, false, false, false, false, false, false, false]) (by rfl) (by kernel_rfl) (by kernel_rfl) calm_put hS (by rfl) ?_ ?_
                · intro W hW; have cl := hW.2.2.2.1; have cm := hW.2.2.2.2; exact exec_load_sec _ rfl Bt rfl t LT.out hW.2.2.1
                simp only [Act.put, List.getElem_toArray, List.getElem_cons_succ, List.getElem_cons_zero, List.setIfInBounds_toArray, List.set_cons_zero, List.set_cons_succ]
                refine wpAnyE_take (i := 24) (v := ?_) (listed' := #[true, true, true, true, true, true, true, true, true, true, true, true, true, true, true, true, true, true, true, true, true, true, true, true, true, false, false, false, false, false, false, false, false, false, false, false, false, false]) (by rfl) (by kernel_rfl) (by kernel_rfl) calm_put hS (by rfl) ?_ ?_
                rotate_left
                · intro W hW; clear hW; go_simp; try (with_reducible rfl)
                simp only [Act.put, List.getElem_toArray, List.getElem_cons_succ, List.getElem_cons_zero, List.setIfInBounds_toArray, List.set_cons_zero, List.set_cons_succ]
                refine wpAnyE_take (i := 25) (v := ?_) (listed' := #[true, true, true, true, true, true, true, true, true, true, true, true, true, true, true, true, true, true, true, true, true, true, true, true, true, true, false, false, false, false, false, false, false, false, false, false, false, false]) (by rfl) (by kernel_rfl) (by kernel_rfl) calm_put hS (by rfl) ?_ ?_
                rotate_left
                · intro W hW; clear hW; go_simp; try (with_reducible rfl)
                simp only [Act.put, List.getElem_toArray, List.getElem_cons_succ, List.getElem_cons_zero, List.setIfInBounds_toArray, List.set_cons_zero, List.set_cons_succ]
                refine wpAnyE_take (i := 26) (v := ?_) (listed' := #[true, true, true, true, true, true, true, true, true, true, true, true, true, true, true, true, true, true, true, true, true, true, true, true, true, true, true, false, false, false, false, false, false, false, false, false, false, false]) (by rfl) (by kernel_rfl) (by kernel_rfl) calm_put hS (by rfl) ?_ ?_
                rotate_left
                · intro W hW; have cl := hW.2.2.2.1; have cm := hW.2.2.2.2; go_simp; try (with_reducible rfl)
                simp only [Act.put, List.getElem_toArray, List.getElem_cons_succ, List.getElem_cons_zero, List.setIfInBounds_toArray, List.set_cons_zero, List.set_cons_succ]
                refine wpAnyE_one (i := 27) (listed' := #[true, true, true, true, true, true, true, true, true, true, true, true, true, true, true, true, true, true, true, true, true, true, true, true, true, true, true, true, false, false, false, false, false, false, false, false, false, false]) (by rfl) (by kernel_rfl) (by kernel_rfl) (by rfl) (fun K hK => ?_)
                simp only [Act.put, List.getElem_toArray, List.getElem_cons_succ, List.getElem_cons_zero, List.setIfInBounds_toArray, List.set_cons_zero, List.set_cons_succ]
                go_wp2_with fail
                refine Calls.mono (m_sector lj _) ?_
                rintro e wc ⟨rfl, hks⟩
                have hS := (⟨hS.1.trans hks, hS.2.1.kept hks, hS.2.2.1.kept hks, hks.cell' hS.2.2.2.1, hks.cell' hS.2.2.2.2⟩ : _ ∧ _ ∧ _ ∧ _ ∧ _)
                clear hks
                refine hK _ _ (fun _ => hS) ?_; clear hK K
                refine wpAnyE_take (i := 28) (v := .bool false) (listed' := #[true, true, true, true, true, true, true, true, true, true, true, true, true, true, true, true, true, true, true, true, true, true, true, true, true, true, true, true, true, false, false, false, false, false, false, false, false, false]) (by rfl) (by kernel_rfl) (by kernel_rfl) calm_put hS (by rfl) ?_ ?_
                · intro W hW; clear hW; exact exec_neq_secB _ _ rfl t (secN lj) LT.out (secN_len _) false hb2 rfl rfl
                simp only [Act.put, List.getElem_toArray, List.getElem_cons_succ, List.getElem_cons_zero, List.setIfInBounds_toArray, List.set_cons_zero, List.set_cons_succ]
                refine wpAnyE_take (i := 29) (v := ?_) (listed' := #[true, true, true, true, true, true, true, true, true, true, true, true, true, true, true, true, true, true, true, true, true, true, true, true, true, true, true, true, true, true, false, false, false, false, false, false, false, false]) (by rfl) (by kernel_rfl) (by kernel_rfl) calm_put hS (by rfl) ?_ ?_
                rotate_left
                · intro W hW; clear hW; go_simp; try (with_reducible rfl)
                simp only [Act.put, List.getElem_toArray, List.getElem_cons_succ, List.getElem_cons_zero, List.setIfInBounds_toArray, List.set_cons_zero, List.set_cons_succ]
                refine wpAnyE_skip (i := 30) (listed' := #[true, true, true, true, true, true, true, true, true, true, true, true, true, true, true, true, true, true, true, true, true, true, true, true, true, true, true, true, true, true, true, false, false, false, false, false, false, false]) (by rfl) (by kernel_rfl) (by kernel_rfl) calm_put hS (by rfl) ?_
                simp only [Act.put, List.getElem_toArray, List.getElem_cons_succ, List.getElem_cons_zero, List.setIfInBounds_toArray, List.set_cons_zero, List.set_cons_succ]
                refine wpAnyE_skip (i := 31) (listed' := #[true, true, true, true, true, true, true, true, true, true, true, true, true, true, true, true, true, true, true, true, true, true, true, true, true, true, true, true, true, true, true, true, false, false, false, false, false, false]) (by rfl) (by kernel_rfl) (by kernel_rfl) calm_put hS (by rfl) ?_
                simp only [Act.put, List.getElem_toArray, List.getElem_cons_succ, List.getElem_cons_zero, List.setIfInBounds_toArray, List.set_cons_zero, List.set_cons_succ]
                refine wpAnyE_skip (i := 32) (listed' := #[true, true, true, true, true, true, true, true, true, true, true, true, true, true, true, true, true, true, true, true, true, true, true, true, true, true, true, true, true, true, true, true, true, false, false, false, false, false]) (by rfl) (by kernel_rfl) (by kernel_rfl) calm_put hS (by rfl) ?_
                simp only [Act.put, List.getElem_toArray, List.getElem_cons_succ, List.getElem_cons_zero, List.setIfInBounds_toArray, List.set_cons_zero, List.set_cons_succ]
                refine wpAnyE_skip (i := 33) (listed' := #[true, true, true, true, true, true, true, true, true, true, true, true, true, true, true, true, true, true, true, true, true, true, true, true, true, true, true, true, true, true, true, true, true, true, false, false, false, false]) (by rfl) (by kernel_rfl) (by kernel_rfl) calm_put hS (by rfl) ?_
                simp only [Act.put, List.getElem_toArray, List.getElem_cons_succ, List.getElem_cons_zero, List.setIfInBounds_toArray, List.set_cons_zero, List.set_cons_succ]
                refine wpAnyE_none (i := 34) (listed' := #[true, true, true, true, true, true, true, true, true, true, true, true, true, true, true, true, true, true, true, true, true, true, true, true, true, true, true, true, true, true, true, true, true, true, true, false, false, false]) (by rfl) (by kernel_rfl) (by kernel_rfl) (by rfl) (fun _ => hS) ?_
                simp only [Act.put, List.getElem_toArray, List.getElem_cons_succ, List.getElem_cons_zero, List.setIfInBounds_toArray, List.set_cons_zero, List.set_cons_succ]
                refine wpAnyE_skip (i := 35) (listed' := #[true, true, true, true, true, true, true, true, true, true, true, true, true, true, true, true, true, true, true, true, true, true, true, true, true, true, true, true, true, true, true, true, true, true, true, true, false, false]) (by rfl) (by kernel_rfl) (by kernel_rfl) calm_put hS (by rfl) ?_
                simp only [Act.put, List.getElem_toArray, List.getElem_cons_succ, List.getElem_cons_zero, List.setIfInBounds_toArray, List.set_cons_zero, List.set_cons_succ]
                refine wpAnyE_take (i := 36) (v := ?_) (listed' := #[true, true, true, true, true, true, true, true, true, true, true, true, true, true, true, true, true, true, true, true, true, true, true, true, true, true, true, true, true, true, true, true, true, true, true, true, true, false]) (by rfl) (by kernel_rfl) (by kernel_rfl) calm_put hS (by rfl) ?_ ?_
                rotate_left
                · intro W hW; clear hW; go_simp; try (with_reducible rfl)
                simp only [Act.put, List.getElem_toArray, List.getElem_cons_succ, List.getElem_cons_zero, List.setIfInBounds_toArray, List.set_cons_zero, List.set_cons_succ]
                refine wpAnyE_take (i := 37) (v := ?_) (listed' := #[true, true, true, true, true, true, true, true, true, true, true, true, true, true, true, true, true, true, true, true, true, true, true, true, true, true, true, true, true, true, true, true, true, true, true, true, true, true]) (by rfl) (by kernel_rfl) (by kernel_rfl) calm_put hS (by rfl) ?_ ?_
                rotate_left
                · intro W hW; clear hW; go_simp; try (with_reducible rfl)
                simp only [Act.put, List.getElem_toArray, List.getElem_cons_succ, List.getElem_cons_zero, List.setIfInBounds_toArray, List.set_cons_zero, List.set_cons_succ]
                refine wpAnyE_done (by kernel_rfl) ?_ _
                refine calm_normal ?_
                go_wp2
                go_meet
                case rel => exact ⟨rfl, Lib.hid hS.1⟩
              · refine wp_region_calm ?_
                refine wp_region_E (fun W => Kept w14 W ∧ Cells W Bs 0 (u8s s) ∧ Cells W Bt 0 (u8s t) ∧ W.cell? ⟨BA, j, none⟩ = some (.int .i64 lj) ∧ W.cell? ⟨BB, j, none⟩ = some (.int .i64 mj)) 100 (by kernel_rfl) ?_
                refine wpAnyE_take (i := 0) (v := ?_) (listed' := #[true, false, false, false, false, false, false, false, false, false, false, false, false, false, false, false, false, false, false, false, false, false, false, false, false, false, false, false, false, false, false, false, false, false, false, false, false, false]) (by rfl) (by kernel_rfl) (by kernel_rfl) calm_put hS (by rfl) ?_ ?_
                rotate_left
                · intro W hW; clear hW; go_simp; try (with_reducible rfl)
                simp only [Act.put, List.getElem_toArray, List.getElem_cons_succ, List.getElem_cons_zero, List.setIfInBounds_toArray, List.set_cons_zero, List.set_cons_succ]
                refine wpAnyE_take (i := 1) (v := ?_) (listed' := #[true, true, false, false, false, false, false, false, false, false, false, false, false, false, false, false, false, false, false, false, false, false, false, false, false, false, false, false, false, false, false, false, false, false, false, false, false, false]) (by rfl) (by kernel_rfl) (by kernel_rfl) calm_put hS (by rfl) ?_ ?_
                rotate_left
                · intro W hW; clear hW; go_simp; try (with_reducible rfl)
                simp only [Act.put, List.getElem_toArray, List.getElem_cons_succ, List.getElem_cons_zero, List.setIfInBounds_toArray, List.set_cons_zero, List.set_cons_succ]
                refine wpAnyE_take (i := 2) (v := ?_) (listed' := #[true, true, true, false, false, false, false, false, false, false, false, false, false, false, false, false, false, false, false, false, false, false, false, false, false, false, false, false, false, false, false, false, false, false, false, false, false, false]) (by rfl) (by kernel_rfl) (by kernel_rfl) calm_put hS (by rfl) ?_ ?_
                rotate_left
                · intro W hW; clear hW; go_simp; try (with_reducible rfl)
                simp only [Act.put, List.getElem_toArray, List.getElem_cons_succ, List.getElem_cons_zero, List.setIfInBounds_toArray, List.set_cons_zero, List.set_cons_succ]
                refine wpAnyE_take (i := 3) (v := ?_) (listed' := #[true, true, true, true, false, false, false, false, false, false, false, false, false, false, false, false, false, false, false, false, false, false, false, false, false, false, false, false, false, false, false, false, false, false, false, false, false, false]) (by rfl) (by kernel_rfl) (by kernel_rfl) calm_put hS (by rfl) ?_ ?_
                rotate_left
                · intro W hW; clear hW; go_simp; try (with_reducible rfl)
                simp only [Act.put, List.getElem_toArray, List.getElem_cons_succ, List.getElem_cons_zero, List.setIfInBounds_toArray, List.set_cons_zero, List.set_cons_succ]
                refine wpAnyE_take (i := 4) (v := ?_) (listed' := #[true, true, true, true, true, false, false, false, false, false, false, false, false, false, false, false, false, false, false, false, false, false, false, false, false, false, false, false, false, false, false, false, false, false, false, false, false, false]) (by rfl) (by kernel_rfl) (by kernel_rfl) calm_put hS (by rfl) ?_ ?_
                rotate_left
                · intro W hW; clear hW; go_simp; try (with_reducible rfl)
                simp only [Act.put, List.getElem_toArray, List.getElem_cons_succ, List.getElem_cons_zero, List.setIfInBounds_toArray, List.set_cons_zero, List.set_cons_succ]
                refine wpAnyE_take (i := 5) (v := ?_) (listed' := #[true, true, true, true, true, true, false, false, false, false, false, false, false, false, false, false, false, false, false, false, false, false, false, false, false, false, false, false, false, false, false, false, false, false, false, false, false, false]) (by rfl) (by kernel_rfl) (by kernel_rfl) calm_put hS (by rfl) ?_ ?_
                rotate_left
                · intro W hW; clear hW; go_simp; try (with_reducible rfl)
                simp only [Act.put, List.getElem_toArray, List.getElem_cons_succ, List.getElem_cons_zero, List.setIfInBounds_toArray, List.set_cons_zero, List.set_cons_succ]
                refine wpAnyE_take (i := 6) (v := ?_) (listed' := #[true, true, true, true, true, true, true, false, false, false, false, false, false, false, false, false, false, false, false, false, false, false, false, false, false, false, false, false, false, false, false, false, false, false, false, false, false, false]) (by rfl) (by kernel_rfl) (by kernel_rfl) calm_put hS (by rfl) ?_ ?_
                rotate_left
                · intro W hW; clear hW; go_simp; try (with_reducible rfl)
                simp only [Act.put, List.getElem_toArray, List.getElem_cons_succ, List.getElem_cons_zero, List.setIfInBounds_toArray, List.set_cons_zero, List.set_cons_succ]
                refine wpAnyE_take (i := 7) (v := .agg (u8s s).toArray) (listed' := #[true, true, true, true, true, true, true, true, false, false, false, false, false, false, false, false, false, false, false, false, false, false, false, false, false, false, false, false, false, false, false, false, false, false, false, false, false, false]) (by rfl) (by kernel_rfl) (by kernel_rfl) calm_put hS (by rfl) ?_ ?_
                · intro W hW; have cl := hW.2.2.2.1; have cm := hW.2.2.2.2; exact exec_load_sec _ rfl Bs rfl s LS.out hW.2.1
                simp only [Act.put, List.getElem_toArray, List.getElem_cons_succ, List.getElem_cons_zero, List.setIfInBounds_toArray, List.set_cons_zero, List.set_cons_succ]
                refine wpAnyE_take (i := 8) (v := ?_) (listed' := #[true, true, true, true, true, true, true, true, true, false, false, false, false, false, false, false, false, false, false, false, false, false, false, false, false, false, false, false, false, false, false, false, false, false, false, false, false, false]) (by rfl) (by kernel_rfl) (by kernel_rfl) calm_put hS (by rfl) ?_ ?_
                rotate_left
                · intro W hW; clear hW; go_simp; try (with_reducible rfl)
                simp only [Act.put, List.getElem_toArray, List.getElem_cons_succ, List.getElem_cons_zero, List.setIfInBounds_toArray, List.set_cons_zero, List.set_cons_succ]
                refine wpAnyE_take (i := 9) (v := ?_) (listed' := #[true, true, true, true, true, true, true, true, true, true, false, false, false, false, false, false, false, false, false, false, false, false, false, false, false, false, false, false, false, false, false, false, false, false, false, false, false, false]) (by rfl) (by kernel_rfl) (by kernel_rfl) calm_put hS (by rfl) ?_ ?_
                rotate_left
                · intro W hW; clear hW; go_simp; try (with_reducible rfl)
                simp only [Act.put, List.getElem_toArray, List.getElem_cons_succ, List.getElem_cons_zero, List.setIfInBounds_toArray, List.set_cons_zero, List.set_cons_succ]
                refine wpAnyE_take (i := 10) (v := ?_) (listed' := #[true, true, true, true, true, true, true, true, true, true, true, false, false, false, false, false, false, false, false, false, false, false, false, false, false, false, false, false, false, false, false, false, false, false, false, false, false, false]) (by rfl) (by kernel_rfl) (by kernel_rfl) calm_put hS (by rfl) ?_ ?_
                rotate_left
                · intro W hW; have cl := hW.2.2.2.1; have cm := hW.2.2.2.2; go_simp; try (with_reducible rfl)
                simp only [Act.put, List.getElem_toArray, List.getElem_cons_succ, List.getElem_cons_zero, List.setIfInBounds_toArray, List.set_cons_zero, List.set_cons_succ]
                refine wpAnyE_one (i := 11) (listed' := #[true, true, true, true, true, true, true, true, true, true, true, true, false, false, false, false, false, false, false, false, false, false, false, false, false, false, false, false, false, false, false, false, false, false, false, false, false, false]) (by rfl) (by kernel_rfl) (by kernel_rfl) (by rfl) (fun K hK => ?_)
                simp only [Act.put, List.getElem_toArray, List.getElem_cons_succ, List.getElem_cons_zero, List.setIfInBounds_toArray, List.set_cons_zero, List.set_cons_succ]
                go_wp2_with fail
                refine Calls.mono (m_sector lj _) ?_
                rintro e wa ⟨rfl, hks⟩
                have hS := (⟨hS.1.trans hks, hS.2.1.kept hks, hS.2.2.1.kept hks, hks.cell' hS.2.2.2.1, hks.cell' hS.2.2.2.2⟩ : _ ∧ _ ∧ _ ∧ _ ∧ _)
                clear hks
                refine hK _ _ (fun _ => hS) ?_; clear hK K
                refine wpAnyE_take (i := 12) (v := .bool false) (listed' := #[true, true, true, true, true, true, true, true, true, true, true, true, true, false, false, false, false, false, false, false, false, false, false, false, false, false, false, false, false, false, false, false, false, false, false, false, false, false]) (by rfl) (by kernel_rfl) (by kernel_rfl) calm_put hS (by rfl) ?_ ?_
                · intro W hW; clear hW; exact exec_neq_secB _ _ rfl s (secN lj) LS.out (secN_len _) false hb1 rfl rfl
                simp only [Act.put, List.getElem_toArray, List.getElem_cons_succ, List.getElem_cons_zero, List.setIfInBounds_toArray, List.set_cons_zero, List.set_cons_succ]
                refine wpAnyE_take (i := 13) (v := ?_) (listed' := #[true, true, true, true, true, true, true, true, true, true, true, true, true, true, false, false, false, false, false, false, false, false, false, false, false, false, false, false, false, false, false, false, false, false, false, false, false, false]) (by rfl) (by kernel_rfl) (by kernel_rfl) calm_put hS (by rfl) ?_ ?_
                rotate_left
                · intro W hW; clear hW; go_simp; try (with_reducible rfl)
                simp only [Act.put, List.getElem_toArray, List.getElem_cons_succ, List.getElem_cons_zero, List.setIfInBounds_toArray, List.set_cons_zero, List.set_cons_succ]
                refine wpAnyE_skip (i := 14) (listed' := #[true, true, true, true, true, true, true, true, true, true, true, true, true, true, true, false, false, false, false, false, false, false, false, false, false, false, false, false, false, false, false, false, false, false, false, false, false, false]) (by rfl) (by kernel_rfl) (by kernel_rfl) calm_put hS (by rfl) ?_
                simp only [Act.put, List.getElem_toArray, List.getElem_cons_succ, List.getElem_cons_zero, List.setIfInBounds_toArray, List.set_cons_zero, List.set_cons_succ]
                refine wpAnyE_skip (i := 15) (listed' := #[true, true, true, true, true, true, true, true, true, true, true, true, true, true, true, true, false, false, false, false, false, false, false, false, false, false, false, false, false, false, false, false, false, false, false, false, false, false]) (by rfl) (by kernel_rfl) (by kernel_rfl) calm_put hS (by rfl) ?_
                simp only [Act.put, List.getElem_toArray, List.getElem_cons_succ, List.getElem_cons_zero, List.setIfInBounds_toArray, List.set_cons_zero, List.set_cons_succ]
                refine wpAnyE_skip (i := 16) (listed' := #[true, true, true, true, true, true, true, true, true, true, true, true, true, true, true, true, true, false, false, false, false, false, false, false, false, false, false, false, false, false, false, false, false, false, false, false, false, false]) (by rfl) (by kernel_rfl) (by kernel_rfl) calm_put hS (by rfl) ?_
                simp only [Act.put, List.getElem_toArray, List.getElem_cons_succ, List.getElem_cons_zero, List.setIfInBounds_toArray, List.set_cons_zero, List.set_cons_succ]
                refine wpAnyE_skip (i := 17) (listed' := #[true, true, true, true, true, true, true, true, true, true, true, true, true, true, true, true, true, true, false, false, false, false, false, false, false, false, false, false, false, false, false, false, false, false, false, false, false, false]) (by rfl) (by kernel_rfl) (by kernel_rfl) calm_put hS (by rfl) ?_
                simp only [Act.put, List.getElem_toArray, List.getElem_cons_succ, List.getElem_cons_zero, List.setIfInBounds_toArray, List.set_cons_zero, List.set_cons_succ]
                refine wpAnyE_none (i := 18) (listed' := #[true, true, true, true, true, true, true, true, true, true, true, true, true, true, true, true, true, true, true, false, false, false, false, false, false, false, false, false, false, false, false, false, false, false, false, false, false, false]) (by rfl) (by kernel_rfl) (by kernel_rfl) (by rfl) (fun _ => hS) ?_
                simp only [Act.put, List.getElem_toArray, List.getElem_cons_succ, List.getElem_cons_zero, List.setIfInBounds_toArray, List.set_cons_zero, List.set_cons_succ]
                refine wpAnyE_skip (i := 19) (listed' := #[true, true, true, true, true, true, true, true, true, true, true, true, true, true, true, true, true, true, true, true, false, false, false, false, false, false, false, false, false, false, false, false, false, false, false, false, false, false]) (by rfl) (by kernel_rfl) (by kernel_rfl) calm_put hS (by rfl) ?_
                simp only [Act.put, List.getElem_toArray, List.getElem_cons_succ, List.getElem_cons_zero, List.setIfInBounds_toArray, List.set_cons_zero, List.set_cons_succ]
                refine wpAnyE_take (i := 20) (v := ?_) (listed' := #[true, true, true, true, true, true, true, true, true, true, true, true, true, true, true, true, true, true, true, true, true, false, false, false, false, false, false, false, false, false, false, false, false, false, false, false, false, false]) (by rfl) (by kernel_rfl) (by kernel_rfl) calm_put hS (by rfl) ?_ ?_
                rotate_left
                · intro W hW; clear hW; go_simp; try (with_reducible rfl)
                simp only [Act.put, List.getElem_toArray, List.getElem_cons_succ, List.getElem_cons_zero, List.setIfInBounds_toArray, List.set_cons_zero, List.set_cons_succ]
                refine wpAnyE_take (i := 21) (v := ?_) (listed' := #[true, true, true, true, true, true, true, true, true, true, true, true, true, true, true, true, true, true, true, true, true, true, false, false, false, false, false, false, false, false, false, false, false, false, false, false, false, false]) (by rfl) (by kernel_rfl) (by kernel_rfl) calm_put hS (by rfl) ?_ ?_
                rotate_left
                · intro W hW; clear hW; go_simp; try (with_reducible rfl)
                simp only [Act.put, List.getElem_toArray, List.getElem_cons_succ, List.getElem_cons_zero, List.setIfInBounds_toArray, List.set_cons_zero, List.set_cons_succ]
                refine wpAnyE_take (i := 22) (v := ?_) (listed' := #[true, true, true, true, true, true, true, true, true, true, true, true, true, true, true, true, true, true, true, true, true, true, true, false, false, false, false, false, false, false, false, false, false, false, false, false, false, false]) (by rfl) (by kernel_rfl) (by kernel_rfl) calm_put hS (by rfl) ?_ ?_
                rotate_left
                · intro W hW; clear hW; go_simp; try (with_reducible rfl)
                simp only [Act.put, List.getElem_toArray, List.getElem_cons_succ, List.getElem_cons_zero, List.setIfInBounds_toArray, List.set_cons_zero, List.set_cons_succ]
                refine wpAnyE_take (i := 23) (v := .agg (u8s t).toArray) (listed' := #[true, true, true, true, true, true, true, true, true, true, true, true, true, true, true, true, true, true, true, true, true, true, true, true, false, false, false, false, false, false, false, false, false, false, false, false, false, false]) (by rfl) (by kernel_rfl) (by kernel_rfl) calm_put hS (by rfl) ?_ ?_
                · intro W hW; have cl := hW.2.2.2.1; have cm := hW.2.2.2.2; exact exec_load_sec _ rfl Bt rfl t LT.out hW.2.2.1
                simp only [Act.put, List.getElem_toArray, List.getElem_cons_succ, List.getElem_cons_zero, List.setIfInBounds_toArray, List.set_cons_zero, List.set_cons_succ]
                refine wpAnyE_take (i := 24) (v := ?_) (listed' := #[true, true, true, true, true, true, true, true, true, true, true, true, true, true, true, true, true, true, true, true, true, true, true, true, true, false, false, false, false, false, false, false, false, false, false, false, false, false]) (by rfl) (by kernel_rfl) (by kernel_rfl) calm_put hS (by rfl) ?_ ?_
                rotate_left
                · intro W hW; clear hW; go_simp; try (with_reducible rfl)
                simp only [Act.put, List.getElem_toArray, List.getElem_cons_succ, List.getElem_cons_zero, List.setIfInBounds_toArray, List.set_cons_zero, List.set_cons_succ]
                refine wpAnyE_take (i := 25) (v := ?_) (listed' := #[true, true, true, true, true, true, true, true, true, true, true, true, true, true, true, true, true, true, true, true, true, true, true, true, true, true, false, false, false, false, false, false, false, false, false, false, false, false]) (by rfl) (by kernel_rfl) (by kernel_rfl) calm_put hS (by rfl) ?_ ?_
                rotate_left
                · intro W hW; clear hW; go_simp; try (with_reducible rfl)
                simp only [Act.put, List.getElem_toArray, List.getElem_cons_succ, List.getElem_cons_zero, List.setIfInBounds_toArray, List.set_cons_zero, List.set_cons_succ]
                refine wpAnyE_take (i := 26) (v := ?_) (listed' := #[true, true, true, true, true, true, true, true, true, true, true, true, true, true, true, true, true, true, true, true, true, true, true, true, true, true, true, false, false, false, false, false, false, false, false, false, false, false]) (by rfl) (by kernel_rfl) (by kernel_rfl) calm_put hS (by rfl) ?_ ?_
                rotate_left
                · intro W hW; have cl := hW.2.2.2.1; have cm := hW.2.2.2.2; go_simp; try (with_reducible rfl)
                simp only [Act.put, List.getElem_toArray, List.getElem_cons_succ, List.getElem_cons_zero, List.setIfInBounds_toArray, List.set_cons_zero, List.set_cons_succ]
                refine wpAnyE_one (i := 27) (listed' := #[true, true, true, true, true, true, true, true, true, true, true, true, true, true, true, true, true, true, true, true, true, true, true, true, true, true, true, true, false, false, false, false, false, false, false, false, false, false]) (by rfl) (by kernel_rfl) (by kernel_rfl) (by rfl) (fun K hK => ?_)
                simp only [Act.put, List.getElem_toArray, List.getElem_cons_succ, List.getElem_cons_zero, List.setIfInBounds_toArray, List.set_cons_zero, List.set_cons_succ]
                go_wp2_with fail
                refine Calls.mono (m_sector lj _) ?_
                rintro e wc ⟨rfl, hks⟩
                have hS := (⟨hS.1.trans hks, hS.2.1.kept hks, hS.2.2.1.kept hks, hks.cell' hS.2.2.2.1, hks.cell' hS.2.2.2.2⟩ : _ ∧ _ ∧ _ ∧ _ ∧ _)
                clear hks
                refine hK _ _ (fun _ => hS) ?_; clear hK K
                refine wpAnyE_take (i := 28) (v := .bool true) (listed' := #[true, true, true, true, true, true, true, true, true, true, true, true, true, true, true, true, true, true, true, true, true, true, true, true, true, true, true, true, true, false, false, false, false, false, false, false, false, false]) (by rfl) (by kernel_rfl) (by kernel_rfl) calm_put hS (by rfl) ?_ ?_
                · intro W hW; clear hW; exact exec_neq_secB _ _ rfl t (secN lj) LT.out (secN_len _) true hb2 rfl rfl
                simp only [Act.put, List.getElem_toArray, List.getElem_cons_succ, List.getElem_cons_zero, List.setIfInBounds_toArray, List.set_cons_zero, List.set_cons_succ]
                refine wpAnyE_take (i := 29) (v := ?_) (listed' := #[true, true, true, true, true, true, true, true, true, true, true, true, true, true, true, true, true, true, true, true, true, true, true, true, true, true, true, true, true, true, false, false, false, false, false, false, false, false]) (by rfl) (by kernel_rfl) (by kernel_rfl) calm_put hS (by rfl) ?_ ?_
                rotate_left
                · intro W hW; clear hW; go_simp; try (with_reducible rfl)
                simp only [Act.put, List.getElem_toArray, List.getElem_cons_succ, List.getElem_cons_zero, List.setIfInBounds_toArray, List.set_cons_zero, List.set_cons_succ]
                refine wpAnyE_take (i := 30) (v := .agg (u8s t).toArray) (listed' := #[true, true, true, true, true, true, true, true, true, true, true, true, true, true, true, true, true, true, true, true, true, true, true, true, true, true, true, true, true, true, true, false, false, false, false, false, false, false]) (by rfl) (by kernel_rfl) (by kernel_rfl) calm_put hS (by rfl) ?_ ?_
                · intro W hW; have cl := hW.2.2.2.1; have cm := hW.2.2.2.2; exact exec_load_sec _ rfl Bt rfl t LT.out hW.2.2.1
                simp only [Act.put, List.getElem_toArray, List.getElem_cons_succ, List.getElem_cons_zero, List.setIfInBounds_toArray, List.set_cons_zero, List.set_cons_succ]
                refine wpAnyE_take (i := 31) (v := ?_) (listed' := #[true, true, true, true, true, true, true, true, true, true, true, true, true, true, true, true, true, true, true, true, true, true, true, true, true, true, true, true, true, true, true, true, false, false, false, false, false, false]) (by rfl) (by kernel_rfl) (by kernel_rfl) calm_put hS (by rfl) ?_ ?_
                rotate_left
                · intro W hW; clear hW; go_simp; try (with_reducible rfl)
                simp only [Act.put, List.getElem_toArray, List.getElem_cons_succ, List.getElem_cons_zero, List.setIfInBounds_toArray, List.set_cons_zero, List.set_cons_succ]
                refine wpAnyE_take (i := 32) (v := ?_) (listed' := #[true, true, true, true, true, true, true, true, true, true, true, true, true, true, true, true, true, true, true, true, true, true, true, true, true, true, true, true, true, true, true, true, true, false, false, false, false, false]) (by rfl) (by kernel_rfl) (by kernel_rfl) calm_put hS (by rfl) ?_ ?_
                rotate_left
                · intro W hW; clear hW; go_simp; try (with_reducible rfl)
                simp only [Act.put, List.getElem_toArray, List.getElem_cons_succ, List.getElem_cons_zero, List.setIfInBounds_toArray, List.set_cons_zero, List.set_cons_succ]
                refine wpAnyE_take (i := 33) (v := ?_) (listed' := #[true, true, true, true, true, true, true, true, true, true, true, true, true, true, true, true, true, true, true, true, true, true, true, true, true, true, true, true, true, true, true, true, true, true, false, false, false, false]) (by rfl) (by kernel_rfl) (by kernel_rfl) calm_put hS (by rfl) ?_ ?_
                rotate_left
                · intro W hW; have cl := hW.2.2.2.1; have cm := hW.2.2.2.2; go_simp; try (with_reducible rfl)
                simp only [Act.put, List.getElem_toArray, List.getElem_cons_succ, List.getElem_cons_zero, List.setIfInBounds_toArray, List.set_cons_zero, List.set_cons_succ]
                refine wpAnyE_one (i := 34) (listed' := #[true, true, true, true, true, true, true, true, true, true, true, true, true, true, true, true, true, true, true, true, true, true, true, true, true, true, true, true, true, true, true, true, true, true, true, false, false, false]) (by rfl) (by kernel_rfl) (by kernel_rfl) (by rfl) (fun K hK => ?_)
                simp only [Act.put, List.getElem_toArray, List.getElem_cons_succ, List.getElem_cons_zero, List.setIfInBounds_toArray, List.set_cons_zero, List.set_cons_succ]
                go_wp2_with fail
                refine Calls.mono (m_sector mj _) ?_
                rintro e wd ⟨rfl, hks⟩
                have hS := (⟨hS.1.trans hks, hS.2.1.kept hks, hS.2.2.1.kept hks, hks.cell' hS.2.2.2.1, hks.cell' hS.2.2.2.2⟩ : _ ∧ _ ∧ _ ∧ _ ∧ _)
                clear hks
                refine hK _ _ (fun _ => hS) ?_; clear hK K
                refine wpAnyE_take (i := 35) (v := .bool false) (listed' := #[true, true, true, true, true, true, true, true, true, true, true, true, true, true, true, true, true, true, true, true, true, true, true, true, true, true, true, true, true, true, true, true, true, true, true, true, false, false]) (by rfl) (by kernel_rfl) (by kernel_rfl) calm_put hS (by rfl) ?_ ?_
                · intro W hW; clear hW; exact exec_neq_secB _ _ rfl t (secN mj) LT.out (secN_len _) false hm2 rfl rfl
                simp only [Act.put, List.getElem_toArray, List.getElem_cons_succ, List.getElem_cons_zero, List.setIfInBounds_toArray, List.set_cons_zero, List.set_cons_succ]
                refine wpAnyE_take (i := 36) (v := ?_) (listed' := #[true, true, true, true, true, true, true, true, true, true, true, true, true, true, true, true, true, true, true, true, true, true, true, true, true, true, true, true, true, true, true, true, true, true, true, true, true, false]) (by rfl) (by kernel_rfl) (by kernel_rfl) calm_put hS (by rfl) ?_ ?_
                rotate_left
                · intro W hW; clear hW; go_simp; try (with_reducible rfl)
                simp only [Act.put, List.getElem_toArray, List.getElem_cons_succ, List.getElem_cons_zero, List.setIfInBounds_toArray, List.set_cons_zero, List.set_cons_succ]
                refine wpAnyE_take (i := 37) (v := ?_) (listed' := #[true, true, true, true, true, true, true, true, true, true, true, true, true, true, true, true, true, true, true, true, true, true, true, true, true, true, true, true, true, true, true, true, true, true, true, true, true, true]) (by rfl) (by kernel_rfl) (by kernel_rfl) calm_put hS (by rfl) ?_ ?_
                rotate_left
                · intro W hW; clear hW; go_simp; try (with_reducible rfl)
                simp only [Act.put, List.getElem_toArray, List.getElem_cons_succ, List.getElem_cons_zero, List.setIfInBounds_toArray, List.set_cons_zero, List.set_cons_succ]
                refine wpAnyE_done (by kernel_rfl) ?_ _
                refine calm_normal ?_
                go_wp2
                go_meet
                case rel => exact ⟨rfl, Lib.hid hS.1⟩
            · rcases D2.out with hb2 | ⟨hb2, hm2⟩
              · refine wp_region_calm ?_
                refine wp_region_E (fun W => Kept w14 W ∧ Cells W Bs 0 (u8s s) ∧ Cells W Bt 0 (u8s t) ∧ W.cell? ⟨BA, j, none⟩ = some (.int .i64 lj) ∧ W.cell? ⟨BB, j, none⟩ = some (.int .i64 mj)) 100 (by kernel_rfl) ?_
                refine wpAnyE_take (i := 0) (v := ?_) (listed' := #[true, false, false, false, false, false, false, false, false, false, false, false, false, false, false, false, false, false, false, false, false, false, false, false, false, false, false, false, false, false, false, false, false, false, false, false, false, false]) (by rfl) (by kernel_rfl) (by kernel_rfl) calm_put hS (by rfl) ?_ ?_
                rotate_left
                · intro W hW; clear hW; go_simp; try (with_reducible rfl)
                simp only [Act.put, List.getElem_toArray, List.getElem_cons_succ, List.getElem_cons_zero, List.setIfInBounds_toArray, List.set_cons_zero, List.set_cons_succ]
                refine wpAnyE_take (i := 1) (v := ?_) (listed' := #[true, true, false, false, false, false, false, false, false, false, false, false, false, false, false, false, false, false, false, false, false, false, false, false, false, false, false, false, false, false, false, false, false, false, false, false, false, false]) (by rfl) (by kernel_rfl) (by kernel_rfl) calm_put hS (by rfl) ?_ ?_
                rotate_left
                · intro W hW; clear hW; go_simp; try (with_reducible rfl)
                simp only [Act.put, List.getElem_toArray, List.getElem_cons_succ, List.getElem_cons_zero, List.setIfInBounds_toArray, List.set_cons_zero, List.set_cons_succ]
                refine wpAnyE_take (i := 2) (v := ?_) (listed' := #[true, true, true, false, false, false, false, false, false, false, false, false, false, false, false, false, false, false, false, false, false, false, false, false, false, false, false, false, false, false, false, false, false, false, false, false, false, false]) (by rfl) (by kernel_rfl) (by kernel_rfl) calm_put hS (by rfl) ?_ ?_
                rotate_left
                · intro W hW; clear hW; go_simp; try (with_reducible rfl)
                simp only [Act.put, List.getElem_toArray, List.getElem_cons_succ, List.getElem_cons_zero, List.setIfInBounds_toArray, List.set_cons_zero, List.set_cons_succ]
                refine wpAnyE_take (i := 3) (v := ?_) (listed' := #[true, true, true, true, false, false, false, false, false, false, false, false, false, false, false, false, false, false, false, false, false, false, false, false, false, false, false, false, false, false, false, false, false, false, false, false, false, false]) (by rfl) (by kernel_rfl) (by kernel_rfl) calm_put hS (by rfl) ?_ ?_
                rotate_left
                · intro W hW; clear hW; go_simp; try (with_reducible rfl)
                simp only [Act.put, List.getElem_toArray, List.getElem_cons_succ, List.getElem_cons_zero, List.setIfInBounds_toArray, List.set_cons_zero, List.set_cons_succ]
                refine wpAnyE_take (i := 4) (v := ?_) (listed' := #[true, true, true, true, true, false, false, false, false, false, false, false, false, false, false, false, false, false, false, false, false, false, false, false, false, false, false, false, false, false, false, false, false, false, false, false, false, false]) (by rfl) (by kernel_rfl) (by kernel_rfl) calm_put hS (by rfl) ?_ ?_
                rotate_left
                · intro W hW; clear hW; go_simp; try (with_reducible rfl)
                simp only [Act.put, List.getElem_toArray, List.getElem_cons_succ, List.getElem_cons_zero, List.setIfInBounds_toArray, List.set_cons_zero, List.set_cons_succ]
                refine wpAnyE_take (i := 5) (v := ?_) (listed' := #[true, true, true, true, true, true, false, false, false, false, false, false, false, false, false, false, false, false, false, false, false, false, false, false, false, false, false, false, false, false, false, false, false, false, false, false, false, false]) (by rfl) (by kernel_rfl) (by kernel_rfl) calm_put hS (by rfl) ?_ ?_
                rotate_left
                · intro W hW; clear hW; go_simp; try (with_reducible rfl)
                simp only [Act.put, List.getElem_toArray, List.getElem_cons_succ, List.getElem_cons_zero, List.setIfInBounds_toArray, List.set_cons_zero, List.set_cons_succ]
                refine wpAnyE_take (i := 6) (v := ?_) (listed' := #[true, true, true, true, true, true, true, false, false, false, false, false, false, false, false, false, false, false, false, false, false, false, false, false, false, false, false, false, false, false, false, false, false, false, false, false, false, false]) (by rfl) (by kernel_rfl) (by kernel_rfl) calm_put hS (by rfl) ?_ ?_
                rotate_left
                · intro W hW; clear hW; go_simp; try (with_reducible rfl)
                simp only [Act.put, List.getElem_toArray, List.getElem_cons_succ, List.getElem_cons_zero, List.setIfInBounds_toArray, List.set_cons_zero, List.set_cons_succ]
                refine wpAnyE_take (i := 7) (v := .agg (u8s s).toArray) (listed' := #[true, true, true, true, true, true, true, true, false, false, false, false, false, false, false, false, false, false, false, false, false, false, false, false, false, false, false, false, false, false, false, false, false, false, false, false, false, false]) (by rfl) (by kernel_rfl) (by kernel_rfl) calm_put hS (by rfl) ?_ ?_
                · intro W hW; have cl := hW.2.2.2.1; have cm := hW.2.2.2.2; exact exec_load_sec _ rfl Bs rfl s LS.out hW.2.1
                simp only [Act.put, List.getElem_toArray, List.getElem_cons_succ, List.getElem_cons_zero, List.setIfInBounds_toArray, List.set_cons_zero, List.set_cons_succ]
                refine wpAnyE_take (i := 8) (v := ?_) (listed' := #[true, true, true, true, true, true, true, true, true, false, false, false, false, false, false, false, false, false, false, false, false, false, false, false, false, false, false, false, false, false, false, false, false, false, false, false, false, false]) (by rfl) (by kernel_rfl) (by kernel_rfl) calm_put hS (by rfl) ?_ ?_
                rotate_left
                · intro W hW; clear hW; go_simp; try (with_reducible rfl)
                simp only [Act.put, List.getElem_toArray, List.getElem_cons_succ, List.getElem_cons_zero, List.setIfInBounds_toArray, List.set_cons_zero, List.set_cons_succ]
                refine wpAnyE_take (i := 9) (v := ?_) (listed' := #[true, true, true, true, true, true, true, true, true, true, false, false, false, false, false, false, false, false, false, false, false, false, false, false, false, false, false, false, false, false, false, false, false, false, false, false, false, false]) (by rfl) (by kernel_rfl) (by kernel_rfl) calm_put hS (by rfl) ?_ ?_
                rotate_left
                · intro W hW; clear hW; go_simp; try (with_reducible rfl)
                simp only [Act.put, List.getElem_toArray, List.getElem_cons_succ, List.getElem_cons_zero, List.setIfInBounds_toArray, List.set_cons_zero, List.set_cons_succ]
                refine wpAnyE_take (i := 10) (v := ?_) (listed' := #[true, true, true, true, true, true, true, true, true, true, true, false, false, false, false, false, false, false, false, false, false, false, false, false, false, false, false, false, false, false, false, false, false, false, false, false, false, false]) (by rfl) (by kernel_rfl) (by kernel_rfl) calm_put hS (by rfl) ?_ ?_
                rotate_left
                · intro W hW; have cl := hW.2.2.2.1; have cm := hW.2.2.2.2; go_simp; try (with_reducible rfl)
                simp only [Act.put, List.getElem_toArray, List.getElem_cons_succ, List.getElem_cons_zero, List.setIfInBounds_toArray, List.set_cons_zero, List.set_cons_succ]
                refine wpAnyE_one (i := 11) (listed' := #[true, true, true, true, true, true, true, true, true, true, true, true, false, false, false, false, false, false, false, false, false, false, false, false, false, false, false, false, false, false, false, false, false, false, false, false, false, false]) (by rfl) (by kernel_rfl) (by kernel_rfl) (by rfl) (fun K hK => ?_)
                simp only [Act.put, List.getElem_toArray, List.getElem_cons_succ, List.getElem_cons_zero, List.setIfInBounds_toArray, List.set_cons_zero, List.set_cons_succ]
                go_wp2_with fail
                refine Calls.mono (m_sector lj _) ?_
                rintro e wa ⟨rfl, hks⟩
                have hS := (⟨hS.1.trans hks, hS.2.1.kept hks, hS.2.2.1.kept hks, hks.cell' hS.2.2.2.1, hks.cell' hS.2.2.2.2⟩ : _ ∧ _ ∧ _ ∧ _ ∧ _)
                clear hks
                refine hK _ _ (fun _ => hS) ?_; clear hK K
                refine wpAnyE_take (i := 12) (v := .bool true) (listed' := #[true, true, true, true, true, true, true, true, true, true, true, true, true, false, false, false, false, false, false, false, false, false, false, false, false, false, false, false, false, false, false, false, false, false, false, false, false, false]) (by rfl) (by kernel_rfl) (by kernel_rfl) calm_put hS (by rfl) ?_ ?_
                · intro W hW; clear hW; exact exec_neq_secB _ _ rfl s (secN lj) LS.out (secN_len _) true hb1 rfl rfl
                simp only [Act.put, List.getElem_toArray, List.getElem_cons_succ, List.getElem_cons_zero, List.setIfInBounds_toArray, List.set_cons_zero, List.set_cons_succ]
                refine wpAnyE_take (i := 13) (v := ?_) (listed' := #[true, true, true, true, true, true, true, true, true, true, true, true, true, true, false, false, false, false, false, false, false, false, false, false, false, false, false, false, false, false, false, false, false, false, false, false, false, false]) (by rfl) (by kernel_rfl) (by kernel_rfl) calm_put hS (by rfl) ?_ ?_
                rotate_left
                · intro W hW; clear hW; go_simp; try (with_reducible rfl)
                simp only [Act.put, List.getElem_toArray, List.getElem_cons_succ, List.getElem_cons_zero, List.setIfInBounds_toArray, List.set_cons_zero, List.set_cons_succ]
                refine wpAnyE_take (i := 14) (v := .agg (u8s s).toArray) (listed' := #[true, true, true, true, true, true, true, true, true, true, true, true, true, true, true, false, false, false, false, false, false, false, false, false, false, false, false, false, false, false, false, false, false, false, false, false, false, false]) (by rfl) (by kernel_rfl) (by kernel_rfl) calm_put hS (by rfl) ?_ ?_
                · intro W hW; have cl := hW.2.2.2.1; have cm := hW.2.2.2.2; exact exec_load_sec _ rfl Bs rfl s LS.out hW.2.1
                simp only [Act.put, List.getElem_toArray, List.getElem_cons_succ, List.getElem_cons_zero, List.setIfInBounds_toArray, List.set_cons_zero, List.set_cons_succ]
                refine wpAnyE_take (i := 15) (v := ?_) (listed' := #[true, true, true, true, true, true, true, true, true, true, true, true, true, true, true, true, false, false, false, false, false, false, false, false, false, false, false, false, false, false, false, false, false, false, false, false, false, false]) (by rfl) (by kernel_rfl) (by kernel_rfl) calm_put hS (by rfl) ?_ ?_
                rotate_left
                · intro W hW; clear hW; go_simp; try (with_reducible rfl)
                simp only [Act.put, List.getElem_toArray, List.getElem_cons_succ, List.getElem_cons_zero, List.setIfInBounds_toArray, List.set_cons_zero, List.set_cons_succ]
                refine wpAnyE_take (i := 16) (v := ?_) (listed' := #[true, true, true, true, true, true, true, true, true, true, true, true, true, true, true, true, true, false, false, false, false, false, false, false, false, false, false, false, false, false, false, false, false, false, false, false, false, false]) (by rfl) (by kernel_rfl) (by kernel_rfl) calm_put hS (by rfl) ?_ ?_
                rotate_left
                · intro W hW; clear hW; go_simp; try (with_reducible rfl)
                simp only [Act.put, List.getElem_toArray, List.getElem_cons_succ, List.getElem_cons_zero, List.setIfInBounds_toArray, List.set_cons_zero, List.set_cons_succ]
                refine wpAnyE_take (i := 17) (v := ?_) (listed' := #[true, true, true, true, true, true, true, true, true, true, true, true, true, true, true, true, true, true, false, false, false, false, false, false, false, false, false, false, false, false, false, false, false, false, false, false, false, false]) (by rfl) (by kernel_rfl) (by kernel_rfl) calm_put hS (by rfl) ?_ ?_
                rotate_left
                · intro W hW; have cl := hW.2.2.2.1; have cm := hW.2.2.2.2; go_simp; try (with_reducible rfl)
                simp only [Act.put, List.getElem_toArray, List.getElem_cons_succ, List.getElem_cons_zero, List.setIfInBounds_toArray, List.set_cons_zero, List.set_cons_succ]
                refine wpAnyE_one (i := 18) (listed' := #[true, true, true, true, true, true, true, true, true, true, true, true, true, true, true, true, true, true, true, false, false, false, false, false, false, false, false, false, false, false, false, false, false, false, false, false, false, false]) (by rfl) (by kernel_rfl) (by kernel_rfl) (by rfl) (fun K hK => ?_)
                simp only [Act.put, List.getElem_toArray, List.getElem_cons_succ, List.getElem_cons_zero, List.setIfInBounds_toArray, List.set_cons_zero, List.set_cons_succ]
                go_wp2_with fail
                refine Calls.mono (m_sector mj _) ?_
                rintro e wb ⟨rfl, hks⟩
                have hS := (⟨hS.1.trans hks, hS.2.1.kept hks, hS.2.2.1.kept hks, hks.cell' hS.2.2.2.1, hks.cell' hS.2.2.2.2⟩ : _ ∧ _ ∧ _ ∧ _ ∧ _)
                clear hks
                refine hK _ _ (fun _ => hS) ?_; clear hK K
                refine wpAnyE_take (i := 19) (v := .bool false) (listed' := #[true, true, true, true, true, true, true, true, true, true, true, true, true, true, true, true, true, true, true, true, false, false, false, false, false, false, false, false, false, false, false, false, false, false, false, false, false, false]) (by rfl) (by kernel_rfl) (by kernel_rfl) calm_put hS (by rfl) ?_ ?_
                · intro W hW; clear hW; exact exec_neq_secB _ _ rfl s (secN mj) LS.out (secN_len _) false hm1 rfl rfl
                simp only [Act.put, List.getElem_toArray, List.getElem_cons_succ, List.getElem_cons_zero, List.setIfInBounds_toArray, List.set_cons_zero, List.set_cons_succ]
                refine wpAnyE_take (i := 20) (v := ?_) (listed' := #[true, true, true, true, true, true, true, true, true, true, true, true, true, true, true, true, true, true, true, true, true, false, false, false, false, false, false, false, false, false, false, false, false, false, false, false, false, false]) (by rfl) (by kernel_rfl) (by kernel_rfl) calm_put hS (by rfl) ?_ ?_
                rotate_left
                · intro W hW; clear hW; go_simp; try (with_reducible rfl)
                simp only [Act.put, List.getElem_toArray, List.getElem_cons_succ, List.getElem_cons_zero, List.setIfInBounds_toArray, List.set_cons_zero, List.set_cons_succ]
                refine wpAnyE_take (i := 21) (v := ?_) (listed' := #[true, true, true, true, true, true, true, true, true, true, true, true, true, true, true, true, true, true, true, true, true, true, false, false, false, false, false, false, false, false, false, false, false, false, false, false, false, false]) (by rfl) (by kernel_rfl) (by kernel_rfl) calm_put hS (by rfl) ?_ ?_
                rotate_left
                · intro W hW; clear hW; go_simp; try (with_reducible rfl)
                simp only [Act.put, List.getElem_toArray, List.getElem_cons_succ, List.getElem_cons_zero, List.setIfInBounds_toArray, List.set_cons_zero, List.set_cons_succ]
                refine wpAnyE_take (i := 22) (v := ?_) (listed' := #[true, true, true, true, true, true, true, true, true, true, true, true, true, true, true, true, true, true, true, true, true, true, true, false, false, false, false, false, false, false, false, false, false, false, false, false, false, false]) (by rfl) (by kernel_rfl) (by kernel_rfl) calm_put hS (by rfl) ?_ ?_
                rotate_left
                · intro W hW; clear hW; go_simp; try (with_reducible rfl)
                simp only [Act.put, List.getElem_toArray, List.getElem_cons_succ, List.getElem_cons_zero, List.setIfInBounds_toArray, List.set_cons_zero, List.set_cons_succ]
                refine wpAnyE_take (i := 23) (v := .agg (u8s t).toArray) (listed' := #[true, true, true, true, true, true, true, true, true, true, true, true, true, true, true, true, true, true, true, true, true, true, true, true, false, false, false, false, false, false, false, false, false, false, false, false, false, false]) (by rfl) (by kernel_rfl) (by kernel_rfl) calm_put hS (by rfl) ?_ ?_
                · intro W hW; have cl := hW.2.2.2.1; have cm := hW.2.2.2.2; exact exec_load_sec _ rfl Bt rfl t LT.out hW.2.2.1
                simp only [Act.put, List.getElem_toArray, List.getElem_cons_succ, List.getElem_cons_zero, List.setIfInBounds_toArray, List.set_cons_zero, List.set_cons_succ]
                refine wpAnyE_take (i := 24) (v := ?_) (listed' := #[true, true, true, true, true, true, true, true, true, true, true, true, true, true, true, true, true, true, true, true, true, true, true, true, true, false, false, false, false, false, false, false, false, false, false, false, false, false]) (by rfl) (by kernel_rfl) (by kernel_rfl) calm_put hS (by rfl) ?_ ?_
                rotate_left
                · intro W hW; clear hW; go_simp; try (with_reducible rfl)
                simp only [Act.put, List.getElem_toArray, List.getElem_cons_succ, List.getElem_cons_zero, List.setIfInBounds_toArray, List.set_cons_zero, List.set_cons_succ]
                refine wpAnyE_take (i := 25) (v := ?_) (listed' := #[true, true, true, true, true, true, true, true, true, true, true, true, true, true, true, true, true, true, true, true, true, true, true, true, true, true, false, false, false, false, false, false, false, false, false, false, false, false]) (by rfl) (by kernel_rfl) (by kernel_rfl) calm_put hS (by rfl) ?_ ?_
                rotate_left
                · intro W hW; clear hW; go_simp; try (with_reducible rfl)
                simp only [Act.put, List.getElem_toArray, List.getElem_cons_succ, List.getElem_cons_zero, List.setIfInBounds_toArray, List.set_cons_zero, List.set_cons_succ]
                refine wpAnyE_take (i := 26) (v := ?_) (listed' := #[true, true, true, true, true, true, true, true, true, true, true, true, true, true, true, true, true, true, true, true, true, true, true, true, true, true, true, false, false, false, false, false, false, false, false, false, false, false]) (by rfl) (by kernel_rfl) (by kernel_rfl) calm_put hS (by rfl) ?_ ?_
                rotate_left
                · intro W hW; have cl := hW.2.2.2.1; have cm := hW.2.2.2.2; go_simp; try (with_reducible rfl)
                simp only [Act.put, List.getElem_toArray, List.getElem_cons_succ, List.getElem_cons_zero, List.setIfInBounds_toArray, List.set_cons_zero, List.set_cons_succ]
                refine wpAnyE_one (i := 27) (listed' := #[true, true, true, true, true, true, true, true, true, true, true, true, true, true, true, true, true, true, true, true, true, true, true, true, true, true, true, true, false, false, false, false, false, false, false, false, false, false]) (by rfl) (by kernel_rfl) (by kernel_rfl) (by rfl) (fun K hK => ?_)
                simp only [Act.put, List.getElem_toArray, List.getElem_cons_succ, List.getElem_cons_zero, List.setIfInBounds_toArray, List.set_cons_zero, List.set_cons_succ]
                go_wp2_with fail
                refine Calls.mono (m_sector lj _) ?_
                rintro e wc ⟨rfl, hks⟩
                have hS := (⟨hS.1.trans hks, hS.2.1.kept hks, hS.2.2.1.kept hks, hks.cell' hS.2.2.2.1, hks.cell' hS.2.2.2.2⟩ : _ ∧ _ ∧ _ ∧ _ ∧ _)
                clear hks
                refine hK _ _ (fun _ => hS) ?_; clear hK K
                refine wpAnyE_take (i := 28) (v := .bool false) (listed' := #[true, true, true, true, true, true, true, true, true, true, true, true, true, true, true, true, true, true, true, true, true, true, true, true, true, true, true, true, true, false, false, false, false, false, false, false, false, false]) (by rfl) (by kernel_rfl) (by kernel_rfl) calm_put hS (by rfl) ?_ ?_
                · intro W hW; clear hW; exact exec_neq_secB _ _ rfl t (secN lj) LT.out (secN_len _) false hb2 rfl rfl
                simp only [Act.put, List.getElem_toArray, List.getElem_cons_succ, List.getElem_cons_zero, List.setIfInBounds_toArray, List.set_cons_zero, List.set_cons_succ]
                refine wpAnyE_take (i := 29) (v := ?_) (listed' := #[true, true, true, true, true, true, true, true, true, true, true, true, true, true, true, true, true, true, true, true, true, true, true, true, true, true, true, true, true, true, false, false, false, false, false, false, false, false]) (by rfl) (by kernel_rfl) (by kernel_rfl) calm_put hS (by rfl) ?_ ?_
                rotate_left
                · intro W hW; clear hW; go_simp; try (with_reducible rfl)
                simp only [Act.put, List.getElem_toArray, List.getElem_cons_succ, List.getElem_cons_zero, List.setIfInBounds_toArray, List.set_cons_zero, List.set_cons_succ]
                refine wpAnyE_skip (i := 30) (listed' := #[true, true, true, true, true, true, true, true, true, true, true, true, true, true, true, true, true, true, true, true, true, true, true, true, true, true, true, true, true, true, true, false, false, false, false, false, false, false]) (by rfl) (by kernel_rfl) (by kernel_rfl) calm_put hS (by rfl) ?_
                simp only [Act.put, List.getElem_toArray, List.getElem_cons_succ, List.getElem_cons_zero, List.setIfInBounds_toArray, List.set_cons_zero, List.set_cons_succ]
                refine wpAnyE_skip (i := 31) (listed' := #[true, true, true, true, true, true, true, true, true, true, true, true, true, true, true, true, true, true, true, true, true, true, true, true, true, true, true, true, true, true, true, true, false, false, false, false, false, false]) (by rfl) (by kernel_rfl) (by kernel_rfl) calm_put hS (by rfl) ?_
                simp only [Act.put, List.getElem_toArray, List.getElem_cons_succ, List.getElem_cons_zero, List.setIfInBounds_toArray, List.set_cons_zero, List.set_cons_succ]
                refine wpAnyE_skip (i := 32) (listed' := #[true, true, true, true, true, true, true, true, true, true, true, true, true, true, true, true, true, true, true, true, true, true, true, true, true, true, true, true, true, true, true, true, true, false, false, false, false, false]) (by rfl) (by kernel_rfl) (by kernel_rfl) calm_put hS (by rfl) ?_
                simp only [Act.put, List.getElem_toArray, List.getElem_cons_succ, List.getElem_cons_zero, List.setIfInBounds_toArray, List.set_cons_zero, List.set_cons_succ]
                refine wpAnyE_skip (i := 33) (listed' := #[true, true, true, true, true, true, true, true, true, true, true, true, true, true, true, true, true, true, true, true, true, true, true, true, true, true, true, true, true, true, true, true, true, true, false, false, false, false]) (by rfl) (by kernel_rfl) (by kernel_rfl) calm_put hS (by rfl) ?_
                simp only [Act.put, List.getElem_toArray, List.getElem_cons_succ, List.getElem_cons_zero, List.setIfInBounds_toArray, List.set_cons_zero, List.set_cons_succ]
                refine wpAnyE_none (i := 34) (listed' := #[true, true, true, true, true, true, true, true, true, true, true, true, true, true, true, true, true, true, true, true, true, true, true, true, true, true, true, true, true, true, true, true, true, true, true, false, false, false]) (by rfl) (by kernel_rfl) (by kernel_rfl) (by rfl) (fun _ => hS) ?_
                simp only [Act.put, List.getElem_toArray, List.getElem_cons_succ, List.getElem_cons_zero, List.setIfInBounds_toArray, List.set_cons_zero, List.set_cons_succ]
                refine wpAnyE_skip (i := 35) (listed' := #[true, true, true, true, true, true, true, true, true, true, true, true, true, true, true, true, true, true, true, true, true, true, true, true, true, true, true, true, true, true, true, true, true, true, true, true, false, false]) (by rfl) (by kernel_rfl) (by kernel_rfl) calm_put hS (by rfl) ?_
                simp only [Act.put, List.getElem_toArray, List.getElem_cons_succ, List.getElem_cons_zero, List.setIfInBounds_toArray, List.set_cons_zero, List.set_cons_succ]
                refine wpAnyE_take (i := 36) (v := ?_) (listed' := #[true, true, true, true, true, true, true, true, true, true, true, true, true, true, true, true, true, true, true, true, true, true, true, true, true, true, true, true, true, true, true, true, true, true, true, true, true, false]) (by rfl) (by kernel_rfl) (by kernel_rfl) calm_put hS (by rfl) ?_ ?_
                rotate_left
                · intro W hW; clear hW; go_simp; try (with_reducible rfl)
                simp only [Act.put, List.getElem_toArray, List.getElem_cons_succ, List.getElem_cons_zero, List.setIfInBounds_toArray, List.set_cons_zero, List.set_cons_succ]
                refine wpAnyE_take (i := 37) (v := ?_) (listed' := #[true, true, true, true, true, true, true, true, true, true, true, true, true, true, true, true, true, true, true, true, true, true, true, true, true, true, true, true, true, true, true, true, true, true, true, true, true, true]) (by rfl) (by kernel_rfl) (by kernel_rfl) calm_put hS (by rfl) ?_ ?_
                rotate_left
                · intro W hW; clear hW; go_simp; try (with_reducible rfl)
                simp only [Act.put, List.getElem_toArray, List.getElem_cons_succ, List.getElem_cons_zero, List.setIfInBounds_toArray, List.set_cons_zero, List.set_cons_succ]
                refine wpAnyE_done (by kernel_rfl) ?_ _
                refine calm_normal ?_
                go_wp2
                go_meet
                case rel => exact ⟨rfl, Lib.hid hS.1⟩
              · refine wp_region_calm ?_
                refine wp_region_E (fun W => Kept w14 W ∧ Cells W Bs 0 (u8s s) ∧ Cells W Bt 0 (u8s t) ∧ W.cell? ⟨BA, j, none⟩ = some (.int .i64 lj) ∧ W.cell? ⟨BB, j, none⟩ = some (.int .i64 mj)) 100 (by kernel_rfl) ?_
                refine wpAnyE_take (i := 0) (v := ?_) (listed' := #[true, false, false, false, false, false, false, false, false, false, false, false, false, false, false, false, false, false, false, false, false, false, false, false, false, false, false, false, false, false, false, false, false, false, false, false, false, false]) (by rfl) (by kernel_rfl) (by kernel_rfl) calm_put hS (by rfl) ?_ ?_
                rotate_left
                · intro W hW; clear hW; go_simp; try (with_reducible rfl)
                simp only [Act.put, List.getElem_toArray, List.getElem_cons_succ, List.getElem_cons_zero, List.setIfInBounds_toArray, List.set_cons_zero, List.set_cons_succ]
                refine wpAnyE_take (i := 1) (v := ?_) (listed' := #[true, true, false, false, false, false, false, false, false, false, false, false, false, false, false, false, false, false, false, false, false, false, false, false, false, false, false, false, false, false, false, false, false, false, false, false, false, false]) (by rfl) (by kernel_rfl) (by kernel_rfl) calm_put hS (by rfl) ?_ ?_
                rotate_left
                · intro W hW; clear hW; go_simp; try (with_reducible rfl)
                simp only [Act.put, List.getElem_toArray, List.getElem_cons_succ, List.getElem_cons_zero, List.setIfInBounds_toArray, List.set_cons_zero, List.set_cons_succ]
                refine wpAnyE_take (i := 2) (v := ?_) (listed' := #[true, true, true, false, false, false, false, false, false, false, false, false, false, false, false, false, false, false, false, false, false, false, false, false, false, false, false, false, false, false, false, false, false, false, false, false, false, false]) (by rfl) (by kernel_rfl) (by kernel_rfl) calm_put hS (by rfl) ?_ ?_
                rotate_left
                · intro W hW; clear hW; go_simp; try (with_reducible rfl)
                simp only [Act.put, List.getElem_toArray, List.getElem_cons_succ, List.getElem_cons_zero, List.setIfInBounds_toArray, List.set_cons_zero, List.set_cons_succ]
                refine wpAnyE_take (i := 3) (v := ?_) (listed' := #[true, true, true, true, false, false, false, false, false, false, false, false, false, false, false, false, false, false, false, false, false, false, false, false, false, false, false, false, false, false, false, false, false, false, false, false, false, false]) (by rfl) (by kernel_rfl) (by kernel_rfl) calm_put hS (by rfl) ?_ ?_
                rotate_left
                · intro W hW; clear hW; go_simp; try (with_reducible rfl)
                simp only [Act.put, List.getElem_toArray, List.getElem_cons_succ, List.getElem_cons_zero, List.setIfInBounds_toArray, List.set_cons_zero, List.set_cons_succ]
                refine wpAnyE_take (i := 4) (v := ?_) (listed' := #[true, true, true, true, true, false, false, false, false, false, false, false, false, false, false, false, false, false, false, false, false, false, false, false, false, false, false, false, false, false, false, false, false, false, false, false, false, false]) (by rfl) (by kernel_rfl) (by kernel_rfl) calm_put hS (by rfl) ?_ ?_
                rotate_left
                · intro W hW; clear hW; go_simp; try (with_reducible rfl)
                simp only [Act.put, List.getElem_toArray, List.getElem_cons_succ, List.getElem_cons_zero, List.setIfInBounds_toArray, List.set_cons_zero, List.set_cons_succ]
                refine wpAnyE_take (i := 5) (v := ?_) (listed' := #[true, true, true, true, true, true, false, false, false, false, false, false, false, false, false, false, false, false, false, false, false, false, false, false, false, false, false, false, false, false, false, false, false, false, false, false, false, false]) (by rfl) (by kernel_rfl) (by kernel_rfl) calm_put hS (by rfl) ?_ ?_
                rotate_left
                · intro W hW; clear hW; go_simp; try (with_reducible rfl)
                simp only [Act.put, List.getElem_toArray, List.getElem_cons_succ, List.getElem_cons_zero, List.setIfInBounds_toArray, List.set_cons_zero, List.set_cons_succ]
                refine wpAnyE_take (i := 6) (v := ?_) (listed' := #[true, true, true, true, true, true, true, false, false, false, false, false, false, false, false, false, false, false, false, false, false, false, false, false, false, false, false, false, false, false, false, false, false, false, false, false, false, false]) (by rfl) (by kernel_rfl) (by kernel_rfl) calm_put hS (by rfl) ?_ ?_
                rotate_left
                · intro W hW; clear hW; go_simp; try (with_reducible rfl)
                simp only [Act.put, List.getElem_toArray, List.getElem_cons_succ, List.getElem_cons_zero, List.setIfInBounds_toArray, List.set_cons_zero, List.set_cons_succ]
                refine wpAnyE_take (i := 7) (v := .agg (u8s s).toArray) (listed' := #[true, true, true, true, true, true, true, true, false, false, false, false, false, false, false, false, false, false, false, false, false, false, false, false, false, false, false, false, false, false, false, false, false, false, false, false, false, false]) (by rfl) (by kernel_rfl) (by kernel_rfl) calm_put hS (by rfl) ?_ ?_
                · intro W hW; have cl := hW.2.2.2.1; have cm := hW.2.2.2.2; exact exec_load_sec _ rfl Bs rfl s LS.out hW.2.1
                simp only [Act.put, List.getElem_toArray, List.getElem_cons_succ, List.getElem_cons_zero, List.setIfInBounds_toArray, List.set_cons_zero, List.set_cons_succ]
                refine wpAnyE_take (i := 8) (v := ?_) (listed' := #[true, true, true, true, true, true, true, true, true, false, false, false, false, false, false, false, false, false, false, false, false, false, false, false, false, false, false, false, false, false, false, false, false, false, false, false, false, false]) (by rfl) (by kernel_rfl) (by kernel_rfl) calm_put hS (by rfl) ?_ ?_
                rotate_left
                · intro W hW; clear hW; go_simp; try (with_reducible rfl)
                simp only [Act.put, List.getElem_toArray, List.getElem_cons_succ, List.getElem_cons_zero, List.setIfInBounds_toArray, List.set_cons_zero, List.set_cons_succ]
                refine wpAnyE_take (i := 9) (v := ?_) (listed' := #[true, true, true, true, true, true, true, true, true, true, false, false, false, false, false, false, false, false, false, false, false, false, false, false, false, false, false, false, false, false, false, false, false, false, false, false, false, false]) (by rfl) (by kernel_rfl) (by kernel_rfl) calm_put hS (by rfl) ?_ ?_
                rotate_left
                · intro W hW; clear hW; go_simp; try (with_reducible rfl)
                simp only [Act.put, List.getElem_toArray, List.getElem_cons_succ, List.getElem_cons_zero, List.setIfInBounds_toArray, List.set_cons_zero, List.set_cons_succ]
                refine wpAnyE_take (i := 10) (v := ?_) (listed' := #[true, true, true, true, true, true, true, true, true, true, true, false, false, false, false, false, false, false, false, false, false, false, false, false, false, false, false, false, false, false, false, false, false, false, false, false, false, false]) (by rfl) (by kernel_rfl) (by kernel_rfl) calm_put hS (by rfl) ?_ ?_
                rotate_left
                · intro W hW; have cl := hW.2.2.2.1; have cm := hW.2.2.2.2; go_simp; try (with_reducible rfl)
                simp only [Act.put, List.getElem_toArray, List.getElem_cons_succ, List.getElem_cons_zero, List.setIfInBounds_toArray, List.set_cons_zero, List.set_cons_succ]
                refine wpAnyE_one (i := 11) (listed' := #[true, true, true, true, true, true, true, true, true, true, true, true, false, false, false, false, false, false, false, false, false, false, false, false, false, false, false, false, false, false, false, false, false, false, false, false, false, false]) (by rfl) (by kernel_rfl) (by kernel_rfl) (by rfl) (fun K hK => ?_)
                simp only [Act.put, List.getElem_toArray, List.getElem_cons_succ, List.getElem_cons_zero, List.setIfInBounds_toArray, List.set_cons_zero, List.set_cons_succ]
                go_wp2_with fail
                refine Calls.mono (m_sector lj _) ?_
                rintro e wa ⟨rfl, hks⟩
                have hS := (⟨hS.1.trans hks, hS.2.1.kept hks, hS.2.2.1.kept hks, hks.cell' hS.2.2.2.1, hks.cell' hS.2.2.2.2⟩ : _ ∧ _ ∧ _ ∧ _ ∧ _)
                clear hks
                refine hK _ _ (fun _ => hS) ?_; clear hK K
                refine wpAnyE_take (i := 12) (v := .bool true) (listed' := #[true, true, true, true, true, true, true, true, true, true, true, true, true, false, false, false, false, false, false, false, false, false, false, false, false, false, false, false, false, false, false, false, false, false, false, false, false, false]) (by rfl) (by kernel_rfl) (by kernel_rfl) calm_put hS (by rfl) ?_ ?_
                · intro W hW; clear hW; exact exec_neq_secB _ _ rfl s (secN lj) LS.out (secN_len _) true hb1 rfl rfl
                simp only [Act.put, List.getElem_toArray, List.getElem_cons_succ, List.getElem_cons_zero, List.setIfInBounds_toArray, List.set_cons_zero, List.set_cons_succ]
                refine wpAnyE_take (i := 13) (v := ?_) (listed' := #[true, true, true, true, true, true, true, true, true, true, true, true, true, true, false, false, false, false, false, false, false, false, false, false, false, false, false, false, false, false, false, false, false, false, false, false, false, false]) (by rfl) (by kernel_rfl) (by kernel_rfl) calm_put hS (by rfl) ?_ ?_
                rotate_left
                · intro W hW; clear hW; go_simp; try (with_reducible rfl)
                simp only [Act.put, List.getElem_toArray, List.getElem_cons_succ, List.getElem_cons_zero, List.setIfInBounds_toArray, List.set_cons_zero, List.set_cons_succ]
                refine wpAnyE_take (i := 14) (v := .agg (u8s s).toArray) (listed' := #[true, true, true, true, true, true, true, true, true, true, true, true, true, true, true, false, false, false, false, false, false, false, false, false, false, false, false, false, false, false, false, false, false, false, false, false, false, false]) (by rfl) (by kernel_rfl) (by kernel_rfl) calm_put hS (by rfl) ?_ ?_
                · intro W hW; have cl := hW.2.2.2.1; have cm := hW.2.2.2.2; exact exec_load_sec _ rfl Bs rfl s LS.out hW.2.1
                simp only [Act.put, List.getElem_toArray, List.getElem_cons_succ, List.getElem_cons_zero, List.setIfInBounds_toArray, List.set_cons_zero, List.set_cons_succ]
                refine wpAnyE_take (i := 15) (v := ?_) (listed' := #[true, true, true, true, true, true, true, true, true, true, true, true, true, true, true, true, false, false, false, false, false, false, false, false, false, false, false, false, false, false, false, false, false, false, false, false, false, false]) (by rfl) (by kernel_rfl) (by kernel_rfl) calm_put hS (by rfl) ?_ ?_
                rotate_left
                · intro W hW; clear hW; go_simp; try (with_reducible rfl)
                simp only [Act.put, List.getElem_toArray, List.getElem_cons_succ, List.getElem_cons_zero, List.setIfInBounds_toArray, List.set_cons_zero, List.set_cons_succ]
                refine wpAnyE_take (i := 16) (v := ?_) (listed' := #[true, true, true, true, true, true, true, true, true, true, true, true, true, true, true, true, true, false, false, false, false, false, false, false, false, false, false, false, false, false, false, false, false, false, false, false, false, false]) (by rfl) (by kernel_rfl) (by kernel_rfl) calm_put hS (by rfl) ?_ ?_
                rotate_left
                · intro W hW; clear hW; go_simp; try (with_reducible rfl)
                simp only [Act.put, List.getElem_toArray, List.getElem_cons_succ, List.getElem_cons_zero, List.setIfInBounds_toArray, List.set_cons_zero, List.set_cons_succ]
                refine wpAnyE_take (i := 17) (v := ?_) (listed' := #[true, true, true, true, true, true, true, true, true, true, true, true, true, true, true, true, true, true, false, false, false, false, false, false, false, false, false, false, false, false, false, false, false, false, false, false, false, false]) (by rfl) (by kernel_rfl) (by kernel_rfl) calm_put hS (by rfl) ?_ ?_
                rotate_left
                · intro W hW; have cl := hW.2.2.2.1; have cm := hW.2.2.2.2; go_simp; try (with_reducible rfl)
                simp only [Act.put, List.getElem_toArray, List.getElem_cons_succ, List.getElem_cons_zero, List.setIfInBounds_toArray, List.set_cons_zero, List.set_cons_succ]
                refine wpAnyE_one (i := 18) (listed' := #[true, true, true, true, true, true, true, true, true, true, true, true, true, true, true, true, true, true, true, false, false, false, false, false, false, false, false, false, false, false, false, false, false, false, false, false, false, false]) (by rfl) (by kernel_rfl) (by kernel_rfl) (by rfl) (fun K hK => ?_)
                simp only [Act.put, List.getElem_toArray, List.getElem_cons_succ, List.getElem_cons_zero, List.setIfInBounds_toArray, List.set_cons_zero, List.set_cons_succ]
                go_wp2_with fail
                refine Calls.mono (m_sector mj _) ?_
                rintro e wb ⟨rfl, hks⟩
                have hS := (⟨hS.1.trans hks, hS.2.1.kept hks, hS.2.2.1.kept hks, hks.cell' hS.2.2.2.1, hks.cell' hS.2.2.2.2⟩ : _ ∧ _ ∧ _ ∧ _ ∧ _)
                clear hks
                refine hK _ _ (fun _ => hS) ?_; clear hK K
                refine wpAnyE_take (i := 19) (v := .bool false) (listed' := #[true, true, true, true, true, true, true, true, true, true, true, true, true, true, true, true, true, true, true, true, false, false, false, false, false, false, false, false, false, false, false, false, false, false, false, false, false, false]) (by rfl) (by kernel_rfl) (by kernel_rfl) calm_put hS (by rfl) ?_ ?_
                · intro W hW; clear hW; exact exec_neq_secB _ _ rfl s (secN mj) LS.out (secN_len _) false hm1 rfl rfl
                simp only [Act.put, List.getElem_toArray, List.getElem_cons_succ, List.getElem_cons_zero, List.setIfInBounds_toArray, List.set_cons_zero, List.set_cons_succ]
                refine wpAnyE_take (i := 20) (v := ?_) (listed' := #[true, true, true, true, true, true, true, true, true, true, true, true, true, true, true, true, true, true, true, true, true, false, false, false, false, false, false, false, false, false, false, false, false, false, false, false, false, false]) (by rfl) (by kernel_rfl) (by kernel_rfl) calm_put hS (by rfl) ?_ ?_
                rotate_left
                · intro W hW; clear hW; go_simp; try (with_reducible rfl)
                simp only [Act.put, List.getElem_toArray, List.getElem_cons_succ, List.getElem_cons_zero, List.setIfInBounds_toArray, List.set_cons_zero, List.set_cons_succ]
                refine wpAnyE_take (i := 21) (v := ?_) (listed' := #[true, true, true, true, true, true, true, true, true, true, true, true, true, true, true, true, true, true, true, true, true, true, false, false, false, false, false, false, false, false, false, false, false, false, false, false, false, false]) (by rfl) (by kernel_rfl) (by kernel_rfl) calm_put hS (by rfl) ?_ ?_
                rotate_left
                · intro W hW; clear hW; go_simp; try (with_reducible rfl)
                simp only [Act.put, List.getElem_toArray, List.getElem_cons_succ, List.getElem_cons_zero, List.setIfInBounds_toArray, List.set_cons_zero, List.set_cons_succ]
                refine wpAnyE_take (i := 22) (v := ?_) (listed' := #[true, true, true, true, true, true, true, true, true, true, true, true, true, true, true, true, true, true, true, true, true, true, true, false, false, false, false, false, false, false, false, false, false, false, false, false, false, false]) (by rfl) (by kernel_rfl) (by kernel_rfl) calm_put hS (by rfl) ?_ ?_
                rotate_left
                · intro W hW; clear hW; go_simp; try (with_reducible rfl)
                simp only [Act.put, List.getElem_toArray, List.getElem_cons_succ, List.getElem_cons_zero, List.setIfInBounds_toArray, List.set_cons_zero, List.set_cons_succ]
                refine wpAnyE_take (i := 23) (v := .agg (u8s t).toArray) (listed' := #[true, true, true, true, true, true, true, true, true, true, true, true, true, true, true, true, true, true, true, true, true, true, true, true, false, false, false, false, false, false, false, false, false, false, false, false, false, false]) (by rfl) (by kernel_rfl) (by kernel_rfl) calm_put hS (by rfl) ?_ ?_
                · intro W hW; have cl := hW.2.2.2.1; have cm := hW.2.2.2.2; exact exec_load_sec _ rfl Bt rfl t LT.out hW.2.2.1
                simp only [Act.put, List.getElem_toArray, List.getElem_cons_succ, List.getElem_cons_zero, List.setIfInBounds_toArray, List.set_cons_zero, List.set_cons_succ]
                refine wpAnyE_take (i := 24) (v := ?_) (listed' := #[true, true, true, true, true, true, true, true, true, true, true, true, true, true, true, true, true, true, true, true, true, true, true, true, true, false, false, false, false, false, false, false, false, false, false, false, false, false]) (by rfl) (by kernel_rfl) (by kernel_rfl) calm_put hS (by rfl) ?_ ?_
                rotate_left
                · intro W hW; clear hW; go_simp; try (with_reducible rfl)
                simp only [Act.put, List.getElem_toArray, List.getElem_cons_succ, List.getElem_cons_zero, List.setIfInBounds_toArray, List.set_cons_zero, List.set_cons_succ]
                refine wpAnyE_take (i := 25) (v := ?_) (listed' := #[true, true, true, true, true, true, true, true, true, true, true, true, true, true, true, true, true, true, true, true, true, true, true, true, true, true, false, false, false, false, false, false, false, false, false, false, false, false]) (by rfl) (by kernel_rfl) (by kernel_rfl) calm_put hS (by rfl) ?_ ?_
                rotate_left
                · intro W hW; clear hW; go_simp; try (with_reducible rfl)
                simp only [Act.put, List.getElem_toArray, List.getElem_cons_succ, List.getElem_cons_zero, List.setIfInBounds_toArray, List.set_cons_zero, List.set_cons_succ]
                refine wpAnyE_take (i := 26) (v := ?_) (listed' := #[true, true, true, true, true, true, true, true, true, true, true, true, true, true, true, true, true, true, true, true, true, true, true, true, true, true, true, false, false, false, false, false, false, false, false, false, false, false]) (by rfl) (by kernel_rfl) (by kernel_rfl) calm_put hS (by rfl) ?_ ?_
                rotate_left
                · intro W hW; have cl := hW.2.2.2.1; have cm := hW.2.2.2.2; go_simp; try (with_reducible rfl)
                simp only [Act.put, List.getElem_toArray, List.getElem_cons_succ, List.getElem_cons_zero, List.setIfInBounds_toArray, List.set_cons_zero, List.set_cons_succ]
                refine wpAnyE_one (i := 27) (listed' := #[true, true, true, true, true, true, true, true, true, true, true, true, true, true, true, true, true, true, true, true, true, true, true, true, true, true, true, true, false, false, false, false, false, false, false, false, false, false]) (by rfl) (by kernel_rfl) (by kernel_rfl) (by rfl) (fun K hK => ?_)
                simp only [Act.put, List.getElem_toArray, List.getElem_cons_succ, List.getElem_cons_zero, List.setIfInBounds_toArray, List.set_cons_zero, List.set_cons_succ]
                go_wp2_with fail
                refine Calls.mono (m_sector lj _) ?_
                rintro e wc ⟨rfl, hks⟩
                have hS := (⟨hS.1.trans hks, hS.2.1.kept hks, hS.2.2.1.kept hks, hks.cell' hS.2.2.2.1, hks.cell' hS.2.2.2.2⟩ : _ ∧ _ ∧ _ ∧ _ ∧ _)
                clear hks
                refine hK _ _ (fun _ => hS) ?_; clear hK K
                refine wpAnyE_take (i := 28) (v := .bool true) (listed' := #[true, true, true, true, true, true, true, true, true, true, true, true, true, true, true, true, true, true, true, true, true, true, true, true, true, true, true, true, true, false, false, false, false, false, false, false, false, false]) (by rfl) (by kernel_rfl) (by kernel_rfl) calm_put hS (by rfl) ?_ ?_
                · intro W hW; clear hW; exact exec_neq_secB _ _ rfl t (secN lj) LT.out (secN_len _) true hb2 rfl rfl
                simp only [Act.put, List.getElem_toArray, List.getElem_cons_succ, List.getElem_cons_zero, List.setIfInBounds_toArray, List.set_cons_zero, List.set_cons_succ]
                refine wpAnyE_take (i := 29) (v := ?_) (listed' := #[true, true, true, true, true, true, true, true, true, true, true, true, true, true, true, true, true, true, true, true, true, true, true, true, true, true, true, true, true, true, false, false, false, false, false, false, false, false]) (by rfl) (by kernel_rfl) (by kernel_rfl) calm_put hS (by rfl) ?_ ?_
                rotate_left
                · intro W hW; clear hW; go_simp; try (with_reducible rfl)
                simp only [Act.put, List.getElem_toArray, List.getElem_cons_succ, List.getElem_cons_zero, List.setIfInBounds_toArray, List.set_cons_zero, List.set_cons_succ]
                refine wpAnyE_take (i := 30) (v := .agg (u8s t).toArray) (listed' := #[true, true, true, true, true, true, true, true, true, true, true, true, true, true, true, true, true, true, true, true, true, true, true, true, true, true, true, true, true, true, true, false, false, false, false, false, false, false]) (by rfl) (by kernel_rfl) (by kernel_rfl) calm_put hS (by rfl) ?_ ?_
                · intro W hW; have cl := hW.2.2.2.1; have cm := hW.2.2.2.2; exact exec_load_sec _ rfl Bt rfl t LT.out hW.2.2.1
                simp only [Act.put, List.getElem_toArray, List.getElem_cons_succ, List.getElem_cons_zero, List.setIfInBounds_toArray, List.set_cons_zero, List.set_cons_succ]
                refine wpAnyE_take (i := 31) (v := ?_) (listed' := #[true, true, true, true, true, true, true, true, true, true, true, true, true, true, true, true, true, true, true, true, true, true, true, true, true, true, true, true, true, true, true, true, false, false, false, false, false, false]) (by rfl) (by kernel_rfl) (by kernel_rfl) calm_put hS (by rfl) ?_ ?_
                rotate_left
                · intro W hW; clear hW; go_simp; try (with_reducible rfl)
                simp only [Act.put, List.getElem_toArray, List.getElem_cons_succ, List.getElem_cons_zero, List.setIfInBounds_toArray, List.set_cons_zero, List.set_cons_succ]
                refine wpAnyE_take (i := 32) (v := ?_) (listed' := #[true, true, true, true, true, true, true, true, true, true, true, true, true, true, true, true, true, true, true, true, true, true, true, true, true, true, true, true, true, true, true, true, true, false, false, false, false, false]) (by rfl) (by kernel_rfl) (by kernel_rfl) calm_put hS (by rfl) ?_ ?_
                rotate_left
                · intro W hW; clear hW; go_simp; try (with_reducible rfl)
                simp only [Act.put, List.getElem_toArray, List.getElem_cons_succ, List.getElem_cons_zero, List.setIfInBounds_toArray, List.set_cons_zero, List.set_cons_succ]
                refine wpAnyE_take (i := 33) (v := ?_) (listed' := #[true, true, true, true, true, true, true, true, true, true, true, true, true, true, true, true, true, true, true, true, true, true, true, true, true, true, true, true, true, true, true, true, true, true, false, false, false, false]) (by rfl) (by kernel_rfl) (by kernel_rfl) calm_put hS (by rfl) ?_ ?_
                rotate_left
                · intro W hW; have cl := hW.2.2.2.1; have cm := hW.2.2.2.2; go_simp; try (with_reducible rfl)
                simp only [Act.put, List.getElem_toArray, List.getElem_cons_succ, List.getElem_cons_zero, List.setIfInBounds_toArray, List.set_cons_zero, List.set_cons_succ]
                refine wpAnyE_one (i := 34) (listed' := #[true, true, true, true, true, true, true, true, true, true, true, true, true, true, true, true, true, true, true, true, true, true, true, true, true, true, true, true, true, true, true, true, true, true, true, false, false, false]) (by rfl) (by kernel_rfl) (by kernel_rfl) (by rfl) (fun K hK => ?_)
                simp only [Act.put, List.getElem_toArray, List.getElem_cons_succ, List.getElem_cons_zero, List.setIfInBounds_toArray, List.set_cons_zero, List.set_cons_succ]
                go_wp2_with fail
                refine Calls.mono (m_sector mj _) ?_
                rintro e wd ⟨rfl, hks⟩
                have hS := (⟨hS.1.trans hks, hS.2.1.kept hks, hS.2.2.1.kept hks, hks.cell' hS.2.2.2.1, hks.cell' hS.2.2.2.2⟩ : _ ∧ _ ∧ _ ∧ _ ∧ _)
                clear hks
                refine hK _ _ (fun _ => hS) ?_; clear hK K
                refine wpAnyE_take (i := 35) (v := .bool false) (listed' := #[true, true, true, true, true, true, true, true, true, true, true, true, true, true, true, true, true, true, true, true, true, true, true, true, true, true, true, true, true, true, true, true, true, true, true, true, false, false]) (by rfl) (by kernel_rfl) (by kernel_rfl) calm_put hS (by rfl) ?_ ?_
                · intro W hW; clear hW; exact exec_neq_secB _ _ rfl t (secN mj) LT.out (secN_len _) false hm2 rfl rfl
                simp only [Act.put, List.getElem_toArray, List.getElem_cons_succ, List.getElem_cons_zero, List.setIfInBounds_toArray, List.set_cons_zero, List.set_cons_succ]
                refine wpAnyE_take (i := 36) (v := ?_) (listed' := #[true, true, true, true, true, true, true, true, true, true, true, true, true, true, true, true, true, true, true, true, true, true, true, true, true, true, true, true, true, true, true, true, true, true, true, true, true, false]) (by rfl) (by kernel_rfl) (by kernel_rfl) calm_put hS (by rfl) ?_ ?_
                rotate_left
                · intro W hW; clear hW; go_simp; try (with_reducible rfl)
                simp only [Act.put, List.getElem_toArray, List.getElem_cons_succ, List.getElem_cons_zero, List.setIfInBounds_toArray, List.set_cons_zero, List.set_cons_succ]
                refine wpAnyE_take (i := 37) (v := ?_) (listed' := #[true, true, true, true, true, true, true, true, true, true, true, true, true, true, true, true, true, true, true, true, true, true, true, true, true, true, true, true, true, true, true, true, true, true, true, true, true, true]) (by rfl) (by kernel_rfl) (by kernel_rfl) calm_put hS (by rfl) ?_ ?_
                rotate_left
                · intro W hW; clear hW; go_simp; try (with_reducible rfl)
                simp only [Act.put, List.getElem_toArray, List.getElem_cons_succ, List.getElem_cons_zero, List.setIfInBounds_toArray, List.set_cons_zero, List.set_cons_succ]
                refine wpAnyE_done (by kernel_rfl) ?_ _
                refine calm_normal ?_
                go_wp2
                go_meet
                case rel => exact ⟨rfl, Lib.hid hS.1⟩
          case rest =>
            obtain ⟨rfl, HKc⟩ := hcut
            have HBc := Lib.hid (HB14.out.kept HKc.out).1
            have HAc := Lib.hid (HKc.out.block HA14.out)
            have HLc := Lib.hid (HKc.out.block HL14.out)
            have HXc := Lib.hid (HKc.out.block HX14.out)
            have HYc := Lib.hid (HKc.out.block HY14.out)
            have Sc := Lib.hid (HKc.out.block S14.out)
            have Zc := Lib.hid (HKc.out.block Z14.out)
            clear HKc HB14 HA14 HL14 HX14 HY14 S14 Z14 CL CM D1 D2 DS DT hj8i
            obtain ⟨dz, hdz⟩ : ∃ dz, (!(s == t)) = dz := ⟨_, rfl⟩
            have A1' : Hid (T.mAlike (x : Int) (j : Int) (y : Int) (j : Int) = (T', dz, 0)) := Lib.hid (by rw [← hdz]; exact A1.out)
            have HDZ := Lib.hid hdz
            clear hdz A1
            obtain ⟨p0, p1⟩ := Pl.of HXc.out
            obtain ⟨q0, q1⟩ := Pl.of HYc.out
            go_wp2_with fail
            refine Calls.mono (m_AlikeE HBc.out HU.out (x : Int) (j : Int) (y : Int) (j : Int) A1'.out) ?_
            rintro e w15 ⟨rfl, hb, hr⟩
            have HB15 := Lib.hid hb
            have HA15 := Lib.hid ((hr BA (.inl (.inl (.inl (.inl (.inl (.inr rfl))))))).trans HAc.out)
            have HL15 := Lib.hid ((hr BB (.inl (.inl (.inl (.inl (.inr rfl)))))).trans HLc.out)
            have HX15 := Lib.hid ((hr X (.inl (.inl (.inl (.inr rfl))))).trans HXc.out)
            have HY15 := Lib.hid ((hr Y (.inl (.inl (.inr rfl)))).trans HYc.out)
            have S15 := Lib.hid ((hr Bs (.inl (.inr rfl))).trans Sc.out)
            have Z15 := Lib.hid ((hr Bt (.inr rfl)).trans Zc.out)
            clear hb hr HBc p0 p1 q0 q1 HAc HLc HXc HYc Sc Zc
            obtain ⟨p0, p1⟩ := Pl.of HX15.out
            obtain ⟨q0, q1⟩ := Pl.of HY15.out
            go_wp2_with fail
            refine Calls.mono (m_AlikeE HB15.out HU'.out (x : Int) (j : Int) (y : Int) (j : Int) A2.out) ?_
            rintro e w16 ⟨rfl, hb, hr⟩
            have HB16 := Lib.hid hb
            have HA16 := Lib.hid ((hr BA (.inl (.inl (.inl (.inl (.inl (.inr rfl))))))).trans HA15.out)
            have HL16 := Lib.hid ((hr BB (.inl (.inl (.inl (.inl (.inr rfl)))))).trans HL15.out)
            have HX16 := Lib.hid ((hr X (.inl (.inl (.inl (.inr rfl))))).trans HX15.out)
            have HY16 := Lib.hid ((hr Y (.inl (.inl (.inr rfl)))).trans HY15.out)
            have S16 := Lib.hid ((hr Bs (.inl (.inr rfl))).trans S15.out)
            have Z16 := Lib.hid ((hr Bt (.inr rfl)).trans Z15.out)
            clear hb hr HB15 p0 p1 q0 q1 HA15 HL15 HX15 HY15 S15 Z15
            obtain ⟨p0, p1⟩ := Pl.of HX16.out
            go_wp2_with fail
            refine Calls.mono (st_read HB16.out HU'.out (x : Int) (j : Int) R3.out) ?_
            rintro e w17 ⟨rfl, hb, hk⟩
            have HB17 := Lib.hid (HB16.out.kept hk).1
            have HA17 := Lib.hid (hk.block HA16.out)
            have HL17 := Lib.hid (hk.block HL16.out)
            have HX17 := Lib.hid (hk.block HX16.out)
            have HY17 := Lib.hid (hk.block HY16.out)
            have S17 := Lib.hid (hk.block S16.out)
            have Z17 := Lib.hid (hk.block Z16.out)
            clear hb hk HB16 p0 p1 HA16 HL16 HX16 HY16 S16 Z16
            go_wp2_with (refine stop_at (o := ⟨some 24, _, _, _, _, _⟩) ?_)
            refine Stop.mk ?_
            refine wpList_new_row rfl rfl _ _ rfl rfl ty_sec (u8s zeroB) zero_sec (by rw [u8s_length, zeroB_length]) (u8s s) rfl (by rw [u8s_length, LS.out]) (u8s_one _) rfl ?_
            intro w18 hz hs hk
            have HB18 := Lib.hid (HB17.out.kept hk).1
            have U18 := hz
            have HA18 := Lib.hid (hk.block HA17.out)
            have HL18 := Lib.hid (hk.block HL17.out)
            have HX18 := Lib.hid (hk.block HX17.out)
            have HY18 := Lib.hid (hk.block HY17.out)
            have S18 := Lib.hid (hk.block S17.out)
            have Z18 := Lib.hid (hk.block Z17.out)
            generalize w17.heap.size = Bu at *
            clear hz hs hk HB17 HA17 HL17 HX17 HY17 S17 Z17
            obtain ⟨q0, q1⟩ := Pl.of HY18.out
            go_wp2_with fail
            refine Calls.mono (st_read HB18.out HU'.out (y : Int) (j : Int) R4.out) ?_
            rintro e w19 ⟨rfl, hb, hk⟩
            have HB19 := Lib.hid (HB18.out.kept hk).1
            have U19 := Lib.hid (hk.block U18.out)
            have HA19 := Lib.hid (hk.block HA18.out)
            have HL19 := Lib.hid (hk.block HL18.out)
            have HX19 := Lib.hid (hk.block HX18.out)
            have HY19 := Lib.hid (hk.block HY18.out)
            have S19 := Lib.hid (hk.block S18.out)
            have Z19 := Lib.hid (hk.block Z18.out)
            clear hb hk HB18 U18 q0 q1 HA18 HL18 HX18 HY18 S18 Z18
            go_wp2_with (refine stop_at (o := ⟨some 26, _, _, _, _, _⟩) ?_)
            refine Stop.mk ?_
            refine wpList_new_row rfl rfl _ _ rfl rfl ty_sec (u8s zeroB) zero_sec (by rw [u8s_length, zeroB_length]) (u8s s) rfl (by rw [u8s_length, LS.out]) (u8s_one _) rfl ?_
            intro w20 hz hs hk
            have HB20 := Lib.hid ((HB19.out.kept hk).1.less (R' := fun k => (False ∨ k = BA) ∨ k = BB) (fun k hk => .inl (.inl (.inl (.inl hk)))))
            have U20 := Lib.hid (hk.block U19.out)
            have V20 := hz
            have HA20 := Lib.hid (hk.block HA19.out)
            have HL20 := Lib.hid (hk.block HL19.out)
            have S20 := Lib.hid (hk.block S19.out)
            have Z20 := Lib.hid (hk.block Z19.out)
            generalize w19.heap.size = Bv at *
            clear hz hs hk HB19 U19 HA19 HL19 HX19 HY19 S19 Z19
            go_wp2_with (refine stop_at (o := ⟨some 165, _, _, _, _, _⟩) ?_)
            refine Stop.mk ?_
            refine wpList_load_agg rfl _ rfl ty_sec Bs 0 rfl (u8s s) (by simpa using Cells.of_block S20.out) (by rw [u8s_length, LS.out]) ?_
            go_wp2_with (refine stop_at (o := ⟨some 166, _, _, _, _, _⟩) ?_)
            refine Stop.mk ?_
            refine wpList_load_agg rfl _ rfl ty_sec Bt 0 rfl (u8s t) (by simpa using Cells.of_block Z20.out) (by rw [u8s_length, LT.out]) ?_
            go_wp2_with (refine stop_at (o := ⟨some 167, _, _, _, _, _⟩) ?_)
            refine Stop.mk ?_
            refine wpList_neq_sec rfl _ _ rfl s t rfl rfl LS.out LT.out ?_
            rw [HDZ.out]
            clear HDZ
            rcases dz with _ | _
            all_goals
              go_wp2_with (refine stop_at (o := ⟨some 181, _, _, _, _, _⟩) ?_)
              refine Stop.mk ?_
              refine wpList_load_aggW _ rfl ty_sec Bu 0 rfl (u8s s) (by simpa using Cells.of_block U20.out) (by rw [u8s_length, LS.out]) rfl ?_
              go_wp2_with (refine stop_at (o := ⟨some 182, _, _, _, _, _⟩) ?_)
              refine Stop.mk ?_
              refine wpList_load_aggW _ rfl ty_sec Bs 0 rfl (u8s s) (by simpa using Cells.of_block S20.out) (by rw [u8s_length, LS.out]) rfl ?_
              go_wp2_with (refine stop_at (o := ⟨some 183, _, _, _, _, _⟩) ?_)
              refine Stop.mk ?_
              refine wpList_neq_sec rfl _ _ rfl s s rfl rfl LS.out LS.out ?_
              rw [show (s == s) = true by simp]
              go_wp2_with (refine stop_at (o := ⟨some 186, _, _, _, _, _⟩) ?_)
              refine Stop.mk ?_
              refine wpList_load_aggW _ rfl ty_sec Bv 0 rfl (u8s s) (by simpa using Cells.of_block V20.out) (by rw [u8s_length, LS.out]) rfl ?_
              go_wp2_with (refine stop_at (o := ⟨some 187, _, _, _, _, _⟩) ?_)
              refine Stop.mk ?_
              refine wpList_load_aggW _ rfl ty_sec Bs 0 rfl (u8s s) (by simpa using Cells.of_block S20.out) (by rw [u8s_length, LS.out]) rfl ?_
              go_wp2_with (refine stop_at (o := ⟨some 188, _, _, _, _, _⟩) ?_)
              refine Stop.mk ?_
              refine wpList_neq_sec rfl _ _ rfl s s rfl rfl LS.out LS.out ?_
              rw [show (s == s) = true by simp]
              go_wp2
              go_roundw
              case rel => exact ⟨j + 1, T', hjl, by go_num, by omega, by omega, HI3, HA20, HL20, HB20⟩
              case measure => simp [intOf]; omega
      · have hj8 : j = 8 := by omega
        have HK := Lib.hid HB.out.keeps
        clear HI HA HL HB
        go_wp2
        go_ret
        exact ⟨rfl, HK.out⟩
end
end Go.Proofs.Ytcbghpcohbgcjaa
