/- MirrorLives: the walk (gen_lives.py). -/
import Derived.Test.YtcbghpcohbgcjaaMil
import Derived.Test.YtcbghpcohbgcjaaMib
import Derived.Test.YtcbghpcohbgcjaaMio
namespace Go.Proofs.Ytcbghpcohbgcjaa
open Go.RowKit
set_option linter.unusedVariables false
set_option linter.unusedSimpArgs false

theorem zero_8 (w : World) : (zeroValue 55).run Try.prog w = .ok (.agg (ints (List.replicate 8 0)).toArray) w := by kernel_rfl
theorem exec_cmp_secNN {W : World} {a : Act} {o : Oper} (x y : Operand) {t' : TypeId} (ho : o.op = .binOp .neq 36 x y t') (xs : List Int) (hl : xs.length = 64) (hx : a.eval x = .agg (u8s xs).toArray) (hy : a.eval y = .agg (u8s xs).toArray) :
    (execOp a.eval o).run Try.prog W = .ok (.value (.bool false)) W := exec_cmp_secN x y ho xs hl hx hy
theorem ints_at {l : List Int} {W : World} {b : Nat} {t : TypeId} (h : W.heap[b]? = some (.cells (ints l).toArray t (0, 0))) {k : Nat} (hk : k < l.length) : W.cell? ⟨b, k, none⟩ = some (.int .i64 (l.getD k 0)) := by
  have := Cells.of_block h k (by rw [ints_length]; exact hk)
  rw [Nat.zero_add] at this
  rw [this]
  simp [ints, List.getD_eq_getElem?_getD, List.getElem?_eq_getElem hk]
theorem ints_set (l : List Int) (k : Nat) (x : Int) : (ints l).set k (.int .i64 x) = ints (l.set k x) := by simp [ints]
theorem setL_eq (l : List Int) (a : Nat) (x : Int) (ha : a < l.length) : setL (fun k => secN (l.getD k 0)) a (secN x) = fun k => secN ((l.set a x).getD k 0) := by
  funext k
  unfold setL
  by_cases e : k = a
  · subst e
    rw [if_pos rfl]
    show secN x = secN ((l.set k x).getD k 0)
    rw [List.getD_eq_getElem?_getD, List.getElem?_set_self ha]; rfl
  · rw [if_neg e]
    show secN (l.getD k 0) = secN ((l.set a x).getD k 0)
    rw [List.getD_eq_getElem?_getD, List.getD_eq_getElem?_getD, List.getElem?_set_ne (Ne.symm e)]
section
variable {w W : World}
set_option maxHeartbeats 4000000
set_option maxRecDepth 100000
theorem law_lives (v : Value) (l : List Int) (who0 when0 : Int) (w : World) (hs : ISrc w v l) :
    Calls Try.prog 7 #[v, .int .i64 who0, .int .i64 when0] w fun e w' => e = .returned (.bool true) ∧ Kept w w' := by
  have HSL := Lib.hid hs
  obtain ⟨oa, cap, rfl, hcap, hmax, hrest⟩ := hs
  clear hrest
  unfold maxLen at hmax
  obtain ⟨b0, hb0, hb0l⟩ := and_low who0 1 (by decide) (m := 1) (by decide)
  obtain ⟨b1, hb1, hb1l⟩ := and_low (who0 / 2) 1 (by decide) (m := 1) (by decide)
  obtain ⟨b2, hb2, hb2l⟩ := and_low when0 6 (by decide) (m := 63) (by decide)
  have hb0l' : b0 < 2 := hb0l
  have hb1l' : b1 < 2 := hb1l
  have hb2l' : b2 < 64 := hb2l
  clear hb0l hb1l hb2l
  obtain ⟨n, hn⟩ : ∃ n : Nat, (1 : Int) + (b2 : Int) = (n : Int) ∧ n ≤ 64 ∧ 0 < n := ⟨1 + b2, by omega, by omega, by omega⟩
  obtain ⟨hn1, hn64, hn0⟩ := hn
  go_enter Try.func7, Try.ntmps7
  go_wp2_with fail
  refine Calls.mono (m_shown _) ?_
  rintro e w1 ⟨rfl, hk⟩
  have HK1 := Lib.hid hk
  clear hk
  go_wp2_with fail
  refine Calls.mono (m_laid 2 (by decide) w w1 (fun _ => False) HK1.out (fun _ h => h.elim)) ?_
  rintro e w2 ⟨q, rfl, hb, hr⟩
  have HB2 : Hid (BK w (fun _ => False) w2 q (addZ 12 2)) := Lib.hid hb
  have HC : Hid ((addZ 12 2).clock ≤ 0 ∧ (addZ 12 2).writes = 0) := Lib.hid ⟨Int.le_of_eq (addZ_rest 12 2).2.2.1, (addZ_rest 12 2).2.2.2⟩
  clear hb hr HK1
  go_upto_if 27 with fail
  go_cut [] from 21 (fun wc => ∃ (on : Bool) (f m : Nat) (T : BankT), Hid (0 < m) ∧ Hid (LvI on f m 0 (fun k => secN ((List.replicate 8 (0 : Int)).getD k 0)) (fun k => secN ((List.replicate 8 (0 : Int)).getD k 0)) T) ∧ T.clock ≤ 0 ∧ Hid (BK w (fun _ => False) wc q T))
  case first =>
    have hf0 : (fun k => secN ((List.replicate 8 (0 : Int)).getD k 0)) = fun _ => secN 0 := by
      funext k; rw [List.getD_eq_getElem?_getD, List.getElem?_replicate]; split <;> rfl
    have hb0c : b0 = 1 ∨ b0 = 0 := by omega
    rcases hb0c with rfl | rfl
    · have HF := Lib.hid (bk_FailAt HB2.out (k := b1) (by rw [addZ_len]; exact hb1l') (n : Int))
      have HI := Lib.hid (LvI.start_at (f := b1) (m := n) hb1l' hn0 (by omega))
      rw [← hf0] at HI
      have HC2 : Hid (((addZ 12 2).up b1 { (addZ 12 2).d b1 with fail := max (n : Int) 0 }).clock ≤ 0) := Lib.hid HC.out.1
      clear hf0
      go_wp2_with fail
      refine Calls.mono HF.out ?_
      rintro e w3 ⟨rfl, hb, hr⟩
      have HB3 := Lib.hid hb
      clear hb hr HF
      generalize (addZ 12 2).up b1 { (addZ 12 2).d b1 with fail := max (n : Int) 0 } = T at *
      go_wp2
      go_meet
      case rel => exact ⟨true, b1, n, T, Lib.hid hn0, HI, HC2.out, HB3⟩
    · have HI := Lib.hid LvI.start
      rw [← hf0] at HI
      clear hf0
      go_wp2
      go_meet
      case rel => exact ⟨false, 0, 1, _, Lib.hid (by decide), HI, HC.out.1, HB2⟩
  case rest =>
    obtain ⟨on, f, m, T, HM, HI, hclk, HB⟩ := hcut
    clear hb0 hb1 hb2 hb0l' hb1l' hb2l' hn1 hn64 hn0 HB2 HC
    go_wp2_with (refine stop_at (o := ⟨some 9, _, _, _, _, _⟩) ?_)
    refine Stop.mk ?_
    refine wpList_alloc_abs rfl 55 rfl (ints (List.replicate 8 0)) zero_8 ?_
    intro w4 hz hs hn hk
    have HB4 := Lib.hid (HB.out.box hk (by omega))
    have HL4 := hz
    have HBL : Hid (w.heap.size ≤ wc.heap.size) := Lib.hid HB.out.keeps.size
    generalize wc.heap.size = BL at *
    clear hz hs hn hk HB
    go_wp2
    go_loopw [10] (fun i wr => ∃ (c : Nat) (La : List Int) (T : BankT), c ≤ l.length ∧ c ≤ 60 ∧ i = .int .i64 c ∧ La.length = 8 ∧ T.clock ≤ 2 * c ∧ Hid (LvI on f m (2 * c) (fun k => secN (La.getD k 0)) (fun k => secN (La.getD k 0)) T) ∧ Hid (wr.heap[BL]? = some (.cells (ints La).toArray 55 (0, 0))) ∧ Hid (BK w (fun k => False ∨ k = BL) wr q T)) (fun i _ => l.length - (intOf i).toNat)
    case atStart => exact ⟨0, List.replicate 8 0, T, Nat.zero_le _, by decide, rfl, by simp, by omega, HI, HL4, HB4⟩
    case round =>
      obtain ⟨c, La, T, hc, hc60, rfl, hLa, hclk, HI, HL, HB⟩ := hrel
      by_cases hlt : c < l.length ∧ c < 60
      · obtain ⟨hlt, h60⟩ := hlt
        obtain ⟨b, off, rfl, g0⟩ := HSL.out.at c hlt
        have c0 := HB.out.keeps.cell' g0
        obtain ⟨a, ha, hal⟩ := and_low l[c] 3 (by decide) (m := 7) (by decide)
        have ha8 : a < 8 := hal
        clear hal g0
        generalize l[c] = x at *
        obtain ⟨T1, T', e1, e2, HI1, HI2, hc1, hc2⟩ := HI.out.mwrite HM.out ha8 (secN_ok ((c : Int) + 1))
        rw [setL_eq La a _ (by omega)] at HI2
        have HU := Lib.hid (HI.out.use (by omega) (by omega))
        have HU1 : Hid (T.write 0 (a : Int) (secN ((c : Int) + 1))).1.Use := Lib.hid (by rw [e1]; exact HI1.use (by omega) (by omega))
        have HE := Lib.hid e2
        have HI3 := Lib.hid HI2
        have hsub : (11 : Int) - (a : Int) = ((11 - a : Nat) : Int) := by omega
        clear e1 e2 HI1 HI2 HI hc1
        go_wp2_with (refine stop_at (o := ⟨some 12, _, _, _, _, _⟩) ?_)
        refine Stop.mk ?_
        refine wpList_new_row rfl rfl _ _ rfl rfl ty_plc _ zero_plc rfl [.int .i64 0, .int .i64 (a : Int)] rfl rfl (one_plc _ _) rfl ?_
        intro w5 hz hs hk
        have HB5 := Lib.hid (HB.out.box hk hs)
        have HL5 := Lib.hid (hk.block HL.out)
        have X5 := Lib.hid (Pl.of hz.out)
        have HX5 := hz
        have HBX : Hid (w.heap.size ≤ wr.heap.size) := Lib.hid HB.out.keeps.size
        have HXL : Hid (wr.heap.size ≠ BL) := Lib.hid fun e => by obtain ⟨_, _, hb⟩ := HB.out; have := (hb.off BL (.inr rfl)).1; omega
        generalize wr.heap.size = X at *
        clear hz hs hk HB HL c0 ha
        go_wp2_with (refine stop_at (o := ⟨some 13, _, _, _, _, _⟩) ?_)
        refine Stop.mk ?_
        refine wpList_new_row rfl rfl _ _ rfl rfl ty_plc _ zero_plc rfl [.int .i64 1, .int .i64 ((11 - a : Nat) : Int)] (by first | rfl | (simp only [hsub]; rfl)) rfl (one_plc _ _) rfl ?_
        intro w6 hz hs hk
        have HB6 := Lib.hid (HB5.out.box hk hs)
        have HL6 := Lib.hid (hk.block HL5.out)
        have X6 := Lib.hid (X5.out.kept hk)
        have Y6 := Lib.hid (Pl.of hz.out)
        have HXB := Lib.hid (hk.block HX5.out)
        have HYB := hz
        have HBY : Hid (w.heap.size ≤ w5.heap.size) := Lib.hid HB5.out.keeps.size
        have HYL : Hid (w5.heap.size ≠ BL ∧ w5.heap.size ≠ X) := Lib.hid ⟨fun e => by obtain ⟨_, _, hb⟩ := HB5.out; have := (hb.off BL (.inl (.inr rfl))).1; omega, fun e => by obtain ⟨_, _, hb⟩ := HB5.out; have := (hb.off X (.inr rfl)).1; omega⟩
        generalize w5.heap.size = Y at *
        clear hz hs hk HB5 HL5 X5 HX5 hsub
        go_upto_region 14 with fail
        have hS : Pl w6.drew X 0 (a : Int) ∧ Pl w6.drew Y 1 ((11 - a : Nat) : Int) := ⟨X6.out, Y6.out⟩
        refine wp_region_calm ?_
        refine wp_region_E (fun W => Pl W X 0 (a : Int) ∧ Pl W Y 1 ((11 - a : Nat) : Int)) 100 (by kernel_rfl) ?_
        refine wpAnyE_take (i := 0) (v := ?_) (listed' := #[true, false, false, false, false, false, false, false]) (by rfl) (by kernel_rfl) (by kernel_rfl) calm_put hS (by rfl) ?_ ?_
        rotate_left
        · intro W hW; clear hW; go_simp; try (with_reducible rfl)
        simp only [Act.put, List.getElem_toArray, List.getElem_cons_succ, List.getElem_cons_zero, List.setIfInBounds_toArray, List.set_cons_zero, List.set_cons_succ]
        refine wpAnyE_take (i := 1) (v := ?_) (listed' := #[true, true, false, false, false, false, false, false]) (by rfl) (by kernel_rfl) (by kernel_rfl) calm_put hS (by rfl) ?_ ?_
        rotate_left
        · intro W hW; obtain ⟨⟨p0, p1⟩, q0, q1⟩ := hW; go_simp; try (with_reducible rfl)
        simp only [Act.put, List.getElem_toArray, List.getElem_cons_succ, List.getElem_cons_zero, List.setIfInBounds_toArray, List.set_cons_zero, List.set_cons_succ]
        refine wpAnyE_take (i := 2) (v := ?_) (listed' := #[true, true, true, false, false, false, false, false]) (by rfl) (by kernel_rfl) (by kernel_rfl) calm_put hS (by rfl) ?_ ?_
        rotate_left
        · intro W hW; obtain ⟨⟨p0, p1⟩, q0, q1⟩ := hW; go_simp; try (with_reducible rfl)
        simp only [Act.put, List.getElem_toArray, List.getElem_cons_succ, List.getElem_cons_zero, List.setIfInBounds_toArray, List.set_cons_zero, List.set_cons_succ]
        refine wpAnyE_take (i := 3) (v := ?_) (listed' := #[true, true, true, true, false, false, false, false]) (by rfl) (by kernel_rfl) (by kernel_rfl) calm_put hS (by rfl) ?_ ?_
        rotate_left
        · intro W hW; clear hW; go_simp; try (with_reducible rfl)
        simp only [Act.put, List.getElem_toArray, List.getElem_cons_succ, List.getElem_cons_zero, List.setIfInBounds_toArray, List.set_cons_zero, List.set_cons_succ]
        refine wpAnyE_take (i := 4) (v := ?_) (listed' := #[true, true, true, true, true, false, false, false]) (by rfl) (by kernel_rfl) (by kernel_rfl) calm_put hS (by rfl) ?_ ?_
        rotate_left
        · intro W hW; clear hW; go_simp; try (with_reducible rfl)
        simp only [Act.put, List.getElem_toArray, List.getElem_cons_succ, List.getElem_cons_zero, List.setIfInBounds_toArray, List.set_cons_zero, List.set_cons_succ]
        refine wpAnyE_one (i := 5) (listed' := #[true, true, true, true, true, true, false, false]) (by rfl) (by kernel_rfl) (by kernel_rfl) (by rfl) (fun K hK => ?_)
        simp only [Act.put, List.getElem_toArray, List.getElem_cons_succ, List.getElem_cons_zero, List.setIfInBounds_toArray, List.set_cons_zero, List.set_cons_succ]
        go_wp2_with fail
        refine Calls.mono (m_sector ((c : Int) + 1) _) ?_
        rintro e w7 ⟨rfl, hks⟩
        have hS := (⟨hS.1.kept hks, hS.2.kept hks⟩ : _ ∧ _)
        refine hK _ _ (fun _ => hS) ?_; clear hK K
        refine wpAnyE_one (i := 6) (listed' := #[true, true, true, true, true, true, true, false]) (by rfl) (by kernel_rfl) (by kernel_rfl) (by rfl) (fun K hK => ?_)
        simp only [Act.put, List.getElem_toArray, List.getElem_cons_succ, List.getElem_cons_zero, List.setIfInBounds_toArray, List.set_cons_zero, List.set_cons_succ]
        go_wp2_with fail
        refine Calls.mono (m_WriteE (HB6.out.kept ((Kept.refl _).drew.trans hks)).1 HU.out 0 (a : Int) 1 ((11 - a : Nat) : Int) (s := secN ((c : Int) + 1)) (secN_len _) HU1.out HE.out) ?_
        rintro e w8 ⟨rfl, hb, hr⟩
        have HB8 := Lib.hid hb
        have HL8 := Lib.hid ((hr BL (.inl (.inl (.inr rfl)))).trans (((Kept.refl _).drew.trans hks).block HL6.out))
        have hS := (⟨hS.1.same (hr X (.inl (.inr rfl))), hS.2.same (hr Y (.inr rfl))⟩ : _ ∧ _)
        have HX8 := Lib.hid ((hr X (.inl (.inr rfl))).trans (((Kept.refl _).drew.trans hks).block HXB.out))
        have HY8 := Lib.hid ((hr Y (.inr rfl)).trans (((Kept.refl _).drew.trans hks).block HYB.out))
        clear hb hr hks
        refine hK _ _ (fun _ => hS) ?_; clear hK K
        refine wpAnyE_take (i := 7) (v := ?_) (listed' := #[true, true, true, true, true, true, true, true]) (by rfl) (by kernel_rfl) (by kernel_rfl) calm_put hS (by rfl) ?_ ?_
        rotate_left
        · intro W hW; clear hW; go_simp; try (with_reducible rfl)
        simp only [Act.put, List.getElem_toArray, List.getElem_cons_succ, List.getElem_cons_zero, List.setIfInBounds_toArray, List.set_cons_zero, List.set_cons_succ]
        refine wpAnyE_done (by kernel_rfl) ?_ _
        refine calm_normal ?_
        clear hS X6 Y6 HXB HYB HB6 HL6 HU1 HE
        go_wp2_with (refine stop_at (o := ⟨none, .store _ _ _, _, _, _, _⟩) ?_)
        refine Stop.mk ?_
        refine wpList_set_cell rfl _ _ rfl size_int BL a rfl (.int .i64 ((c : Int) + 1)) rfl rfl rfl _ _ HL8.out (by rw [ints_length]; omega) ?_
        intro w9 hw9
        rw [ints_set] at hw9
        have HB9 := Lib.hid (HB8.out.wrote hw9 (.inl (.inl (.inr rfl))) HBL.out)
        have HL9 := Lib.hid hw9.blk
        have HX9 := Lib.hid ((hw9.oth X HXL.out).trans HX8.out)
        have HY9 := Lib.hid ((hw9.oth Y HYL.out.1).trans HY8.out)
        have hLa' : (La.set a ((c : Int) + 1)).length = 8 := by rw [List.length_set]; exact hLa
        generalize La.set a ((c : Int) + 1) = Lb at *
        have HU3 := Lib.hid (HI3.out.use (by omega) (by omega))
        clear hw9 HB8 HL8 HX8 HY8 HU hLa
        go_wp2
        go_loopw [14] (fun i wr => ∃ (j : Nat) (x0 x1 y0 y1 : Int), j ≤ 8 ∧ i = .int .i64 j ∧ Hid (wr.heap[BL]? = some (.cells (ints Lb).toArray 55 (0, 0))) ∧ Hid (wr.heap[X]? = some (.cells [Value.int .i64 x0, .int .i64 x1].toArray 31 (0, 0))) ∧ Hid (wr.heap[Y]? = some (.cells [Value.int .i64 y0, .int .i64 y1].toArray 31 (0, 0))) ∧ Hid (BK w (fun k => ((False ∨ k = BL) ∨ k = X) ∨ k = Y) wr q T')) (fun i _ => 8 - (intOf i).toNat)
        case atStart => exact ⟨0, _, _, _, _, Nat.zero_le _, rfl, HL9, HX9, HY9, HB9⟩
        case round =>
          obtain ⟨j, x0, x1, y0, y1, hj, rfl, HL, HX, HY, HB⟩ := hrel
          by_cases hjl : j < 8
          · have hsub : (11 : Int) - (j : Int) = ((11 - j : Nat) : Int) := by omega
            obtain ⟨r1, r2, r3⟩ := HI3.out.reads hjl
            obtain ⟨jv, hjv⟩ : ∃ jv, Lb.getD j 0 = jv := ⟨_, rfl⟩
            have R1 : Hid (T'.mRead 0 (j : Int) 1 ((11 - j : Nat) : Int) = (secN jv, 0)) := Lib.hid (by rw [← hjv]; exact r1)
            have R2 : Hid (T'.mRead 1 ((11 - j : Nat) : Int) 0 (j : Int) = (secN jv, 0)) := Lib.hid (by rw [← hjv]; exact r2)
            have R3 := Lib.hid r3
            have HJV := Lib.hid hjv
            clear r1 r2 r3 hjv
            go_wp2_with (refine stop_at (o := ⟨none, .store _ _ _, _, _, _, _⟩) ?_)
            refine Stop.mk ?_
            refine wpList_store_agg rfl _ _ rfl ty_plc X 0 rfl [.int .i64 0, .int .i64 (j : Int)] rfl rfl (one_plc _ _) _ _ HX.out (by simp) ?_
            intro w10 hw
            replace hw := hw.all rfl
            have HB10 := Lib.hid (HB.out.wrote hw (.inl (.inr rfl)) HBX.out)
            have HL10 := Lib.hid ((hw.oth BL HXL.out.symm).trans HL.out)
            have HX10 := Lib.hid hw.blk
            have HY10 := Lib.hid ((hw.oth Y HYL.out.2).trans HY.out)
            clear hw HB HL HX HY
            go_wp2_with (refine stop_at (o := ⟨none, .store _ _ _, _, _, _, _⟩) ?_)
            refine Stop.mk ?_
            refine wpList_store_agg rfl _ _ rfl ty_plc Y 0 rfl [.int .i64 1, .int .i64 ((11 - j : Nat) : Int)] (by first | rfl | (simp only [hsub]; rfl)) rfl (one_plc _ _) _ _ HY10.out (by simp) ?_
            intro w11 hw
            replace hw := hw.all rfl
            have HB11 := Lib.hid (HB10.out.wrote hw (.inr rfl) HBY.out)
            have HL11 := Lib.hid ((hw.oth BL HYL.out.1.symm).trans HL10.out)
            have HX11 := Lib.hid ((hw.oth X HYL.out.2.symm).trans HX10.out)
            have HY11 := Lib.hid hw.blk
            clear hw HB10 HL10 HX10 HY10 hsub
            obtain ⟨p0, p1⟩ := Pl.of HX11.out
            obtain ⟨q0, q1⟩ := Pl.of HY11.out
            go_wp2_with fail
            refine Calls.mono (m_ReadE HB11.out HU3.out 0 (j : Int) 1 ((11 - j : Nat) : Int) R1.out) ?_
            rintro e w12 ⟨rfl, hk⟩
            have HB12 := Lib.hid (HB11.out.kept hk).1
            have HL12 := Lib.hid (hk.block HL11.out)
            have HX12 := Lib.hid (hk.block HX11.out)
            have HY12 := Lib.hid (hk.block HY11.out)
            clear hk HB11 HL11 HX11 HY11 p0 p1 q0 q1
            go_wp2_with (refine stop_at (o := ⟨some 15, _, _, _, _, _⟩) ?_)
            refine Stop.mk ?_
            refine wpList_new_row rfl rfl _ _ rfl rfl ty_sec (u8s zeroB) zero_sec (by rw [u8s_length, zeroB_length]) (u8s (secN jv)) rfl (by rw [u8s_length, secN_len]) (u8s_one _) rfl ?_
            intro w13 hz hs hk
            have HB13 := Lib.hid (HB12.out.box hk hs)
            have HL13 := Lib.hid (hk.block HL12.out)
            have HX13 := Lib.hid (hk.block HX12.out)
            have HY13 := Lib.hid (hk.block HY12.out)
            have S13 := hz
            generalize w12.heap.size = Bs at *
            clear hz hs hk HB12 HL12 HX12 HY12
            obtain ⟨p0, p1⟩ := Pl.of HX13.out
            obtain ⟨q0, q1⟩ := Pl.of HY13.out
            go_wp2_with fail
            refine Calls.mono (m_ReadE HB13.out HU3.out 1 ((11 - j : Nat) : Int) 0 (j : Int) R2.out) ?_
            rintro e w14 ⟨rfl, hk⟩
            have HB14 := Lib.hid (HB13.out.kept hk).1
            have HL14 := Lib.hid (hk.block HL13.out)
            have HX14 := Lib.hid (hk.block HX13.out)
            have HY14 := Lib.hid (hk.block HY13.out)
            have S14 := Lib.hid (hk.block S13.out)
            clear hk HB13 HL13 HX13 HY13 S13 p0 p1 q0 q1
            go_wp2_with (refine stop_at (o := ⟨some 17, _, _, _, _, _⟩) ?_)
            refine Stop.mk ?_
            refine wpList_new_row rfl rfl _ _ rfl rfl ty_sec (u8s zeroB) zero_sec (by rw [u8s_length, zeroB_length]) (u8s (secN jv)) rfl (by rw [u8s_length, secN_len]) (u8s_one _) rfl ?_
            intro w15 hz hs hk
            have HB15 := Lib.hid (HB14.out.box hk hs)
            have HL15 := Lib.hid (hk.block HL14.out)
            have HX15 := Lib.hid (hk.block HX14.out)
            have HY15 := Lib.hid (hk.block HY14.out)
            have S15 := Lib.hid (hk.block S14.out)
            have Z15 := hz
            generalize w14.heap.size = Bt at *
            clear hz hs hk HB14 HL14 HX14 HY14 S14
            obtain ⟨p0, p1⟩ := Pl.of HX15.out
            obtain ⟨q0, q1⟩ := Pl.of HY15.out
            go_wp2_with fail
            refine Calls.mono (m_AlikeE HB15.out HU3.out 0 (j : Int) 1 ((11 - j : Nat) : Int) R3.out) ?_
            rintro e w16 ⟨rfl, hb, hr⟩
            have HB16 := Lib.hid (hb.less (R' := fun k => ((False ∨ k = BL) ∨ k = X) ∨ k = Y) (fun k hk => .inl (.inl hk)))
            have HL16 := Lib.hid ((hr BL (.inl (.inl (.inl (.inl (.inr rfl)))))).trans HL15.out)
            have HX16 := Lib.hid ((hr X (.inl (.inl (.inl (.inr rfl))))).trans HX15.out)
            have HY16 := Lib.hid ((hr Y (.inl (.inl (.inr rfl)))).trans HY15.out)
            have S16 := Lib.hid ((hr Bs (.inl (.inr rfl))).trans S15.out)
            have Z16 := Lib.hid ((hr Bt (.inr rfl)).trans Z15.out)
            clear hb hr HB15 HL15 HX15 HY15 S15 Z15 p0 p1 q0 q1 R1 R2 R3
            go_upto_region 25 with fail
            have hS : Kept w16 w16.drew ∧ Cells w16.drew Bs 0 (u8s (secN jv)) ∧ Cells w16.drew Bt 0 (u8s (secN jv)) ∧ w16.drew.cell? ⟨BL, j, none⟩ = some (.int .i64 jv) := ⟨(Kept.refl _).drew, Cells.of_block S16.out, Cells.of_block Z16.out, by rw [← HJV.out]; exact ints_at HL16.out (by omega)⟩
            have hj8 : (j : Int) < 8 := by omega
            refine wp_region_calm ?_
            refine wp_region_E (fun W => Kept w16 W ∧ Cells W Bs 0 (u8s (secN jv)) ∧ Cells W Bt 0 (u8s (secN jv)) ∧ W.cell? ⟨BL, j, none⟩ = some (.int .i64 jv)) 100 (by kernel_rfl) ?_
            refine wpAnyE_take (i := 0) (v := .agg (u8s (secN jv)).toArray) (listed' := #[true, false, false, false, false, false, false, false, false, false, false, false, false, false, false, false, false, false, false, false, false, false, false, false, false, false]) (by rfl) (by kernel_rfl) (by kernel_rfl) calm_put hS (by rfl) ?_ ?_
            · intro W hW; have cj := hW.2.2.2; exact exec_load_sec _ rfl Bs rfl (secN jv) (secN_len _) hW.2.1
            simp only [Act.put, List.getElem_toArray, List.getElem_cons_succ, List.getElem_cons_zero, List.setIfInBounds_toArray, List.set_cons_zero, List.set_cons_succ]
            refine wpAnyE_take (i := 1) (v := ?_) (listed' := #[true, true, false, false, false, false, false, false, false, false, false, false, false, false, false, false, false, false, false, false, false, false, false, false, false, false]) (by rfl) (by kernel_rfl) (by kernel_rfl) calm_put hS (by rfl) ?_ ?_
            rotate_left
            · intro W hW; clear hW; go_simp; try (with_reducible rfl)
            simp only [Act.put, List.getElem_toArray, List.getElem_cons_succ, List.getElem_cons_zero, List.setIfInBounds_toArray, List.set_cons_zero, List.set_cons_succ]
            refine wpAnyE_take (i := 2) (v := ?_) (listed' := #[true, true, true, false, false, false, false, false, false, false, false, false, false, false, false, false, false, false, false, false, false, false, false, false, false, false]) (by rfl) (by kernel_rfl) (by kernel_rfl) calm_put hS (by rfl) ?_ ?_
            rotate_left
            · intro W hW; clear hW; go_simp; try (with_reducible rfl)
            simp only [Act.put, List.getElem_toArray, List.getElem_cons_succ, List.getElem_cons_zero, List.setIfInBounds_toArray, List.set_cons_zero, List.set_cons_succ]
            refine wpAnyE_take (i := 3) (v := ?_) (listed' := #[true, true, true, true, false, false, false, false, false, false, false, false, false, false, false, false, false, false, false, false, false, false, false, false, false, false]) (by rfl) (by kernel_rfl) (by kernel_rfl) calm_put hS (by rfl) ?_ ?_
            rotate_left
            · intro W hW; have cj := hW.2.2.2; go_simp; try (with_reducible rfl)
            simp only [Act.put, List.getElem_toArray, List.getElem_cons_succ, List.getElem_cons_zero, List.setIfInBounds_toArray, List.set_cons_zero, List.set_cons_succ]
            refine wpAnyE_one (i := 4) (listed' := #[true, true, true, true, true, false, false, false, false, false, false, false, false, false, false, false, false, false, false, false, false, false, false, false, false, false]) (by rfl) (by kernel_rfl) (by kernel_rfl) (by rfl) (fun K hK => ?_)
            simp only [Act.put, List.getElem_toArray, List.getElem_cons_succ, List.getElem_cons_zero, List.setIfInBounds_toArray, List.set_cons_zero, List.set_cons_succ]
            go_wp2_with fail
            refine Calls.mono (m_sector jv _) ?_
            rintro e w17 ⟨rfl, hks⟩
            have hS := (⟨hS.1.trans hks, hS.2.1.kept hks, hS.2.2.1.kept hks, hks.cell' hS.2.2.2⟩ : _ ∧ _ ∧ _ ∧ _)
            clear hks
            refine hK _ _ (fun _ => hS) ?_; clear hK K
            refine wpAnyE_take (i := 5) (v := .bool false) (listed' := #[true, true, true, true, true, true, false, false, false, false, false, false, false, false, false, false, false, false, false, false, false, false, false, false, false, false]) (by rfl) (by kernel_rfl) (by kernel_rfl) calm_put hS (by rfl) ?_ ?_
            · intro W hW; clear hW; exact exec_cmp_secN _ _ rfl (secN jv) (secN_len _) rfl rfl
            simp only [Act.put, List.getElem_toArray, List.getElem_cons_succ, List.getElem_cons_zero, List.setIfInBounds_toArray, List.set_cons_zero, List.set_cons_succ]
            refine wpAnyE_take (i := 6) (v := ?_) (listed' := #[true, true, true, true, true, true, true, false, false, false, false, false, false, false, false, false, false, false, false, false, false, false, false, false, false, false]) (by rfl) (by kernel_rfl) (by kernel_rfl) calm_put hS (by rfl) ?_ ?_
            rotate_left
            · intro W hW; clear hW; go_simp; try (with_reducible rfl)
            simp only [Act.put, List.getElem_toArray, List.getElem_cons_succ, List.getElem_cons_zero, List.setIfInBounds_toArray, List.set_cons_zero, List.set_cons_succ]
            refine wpAnyE_take (i := 7) (v := .agg (u8s (secN jv)).toArray) (listed' := #[true, true, true, true, true, true, true, true, false, false, false, false, false, false, false, false, false, false, false, false, false, false, false, false, false, false]) (by rfl) (by kernel_rfl) (by kernel_rfl) calm_put hS (by rfl) ?_ ?_
            · intro W hW; have cj := hW.2.2.2; exact exec_load_sec _ rfl Bt rfl (secN jv) (secN_len _) hW.2.2.1
            simp only [Act.put, List.getElem_toArray, List.getElem_cons_succ, List.getElem_cons_zero, List.setIfInBounds_toArray, List.set_cons_zero, List.set_cons_succ]
            refine wpAnyE_take (i := 8) (v := .agg (u8s (secN jv)).toArray) (listed' := #[true, true, true, true, true, true, true, true, true, false, false, false, false, false, false, false, false, false, false, false, false, false, false, false, false, false]) (by rfl) (by kernel_rfl) (by kernel_rfl) calm_put hS (by rfl) ?_ ?_
            · intro W hW; have cj := hW.2.2.2; exact exec_load_sec _ rfl Bs rfl (secN jv) (secN_len _) hW.2.1
            simp only [Act.put, List.getElem_toArray, List.getElem_cons_succ, List.getElem_cons_zero, List.setIfInBounds_toArray, List.set_cons_zero, List.set_cons_succ]
            refine wpAnyE_take (i := 9) (v := .bool false) (listed' := #[true, true, true, true, true, true, true, true, true, true, false, false, false, false, false, false, false, false, false, false, false, false, false, false, false, false]) (by rfl) (by kernel_rfl) (by kernel_rfl) calm_put hS (by rfl) ?_ ?_
            · intro W hW; clear hW; exact exec_cmp_secN _ _ rfl (secN jv) (secN_len _) rfl rfl
            simp only [Act.put, List.getElem_toArray, List.getElem_cons_succ, List.getElem_cons_zero, List.setIfInBounds_toArray, List.set_cons_zero, List.set_cons_succ]
            refine wpAnyE_take (i := 10) (v := ?_) (listed' := #[true, true, true, true, true, true, true, true, true, true, true, false, false, false, false, false, false, false, false, false, false, false, false, false, false, false]) (by rfl) (by kernel_rfl) (by kernel_rfl) calm_put hS (by rfl) ?_ ?_
            rotate_left
            · intro W hW; clear hW; go_simp; try (with_reducible rfl)
            simp only [Act.put, List.getElem_toArray, List.getElem_cons_succ, List.getElem_cons_zero, List.setIfInBounds_toArray, List.set_cons_zero, List.set_cons_succ]
            refine wpAnyE_take (i := 11) (v := ?_) (listed' := #[true, true, true, true, true, true, true, true, true, true, true, true, false, false, false, false, false, false, false, false, false, false, false, false, false, false]) (by rfl) (by kernel_rfl) (by kernel_rfl) calm_put hS (by rfl) ?_ ?_
            rotate_left
            · intro W hW; clear hW; go_simp; try (with_reducible rfl)
            simp only [Act.put, List.getElem_toArray, List.getElem_cons_succ, List.getElem_cons_zero, List.setIfInBounds_toArray, List.set_cons_zero, List.set_cons_succ]
            refine wpAnyE_take (i := 12) (v := ?_) (listed' := #[true, true, true, true, true, true, true, true, true, true, true, true, true, false, false, false, false, false, false, false, false, false, false, false, false, false]) (by rfl) (by kernel_rfl) (by kernel_rfl) calm_put hS (by rfl) ?_ ?_
            rotate_left
            · intro W hW; clear hW; go_simp; try (with_reducible rfl)
            simp only [Act.put, List.getElem_toArray, List.getElem_cons_succ, List.getElem_cons_zero, List.setIfInBounds_toArray, List.set_cons_zero, List.set_cons_succ]
            refine wpAnyE_take (i := 13) (v := ?_) (listed' := #[true, true, true, true, true, true, true, true, true, true, true, true, true, true, false, false, false, false, false, false, false, false, false, false, false, false]) (by rfl) (by kernel_rfl) (by kernel_rfl) calm_put hS (by rfl) ?_ ?_
            rotate_left
            · intro W hW; clear hW; go_simp; try (with_reducible rfl)
            simp only [Act.put, List.getElem_toArray, List.getElem_cons_succ, List.getElem_cons_zero, List.setIfInBounds_toArray, List.set_cons_zero, List.set_cons_succ]
            refine wpAnyE_take (i := 14) (v := ?_) (listed' := #[true, true, true, true, true, true, true, true, true, true, true, true, true, true, true, false, false, false, false, false, false, false, false, false, false, false]) (by rfl) (by kernel_rfl) (by kernel_rfl) calm_put hS (by rfl) ?_ ?_
            rotate_left
            · intro W hW; clear hW; go_simp; try (with_reducible rfl)
            simp only [Act.put, List.getElem_toArray, List.getElem_cons_succ, List.getElem_cons_zero, List.setIfInBounds_toArray, List.set_cons_zero, List.set_cons_succ]
            refine wpAnyE_take (i := 15) (v := ?_) (listed' := #[true, true, true, true, true, true, true, true, true, true, true, true, true, true, true, true, false, false, false, false, false, false, false, false, false, false]) (by rfl) (by kernel_rfl) (by kernel_rfl) calm_put hS (by rfl) ?_ ?_
            rotate_left
            · intro W hW; clear hW; go_simp; try (with_reducible rfl)
            simp only [Act.put, List.getElem_toArray, List.getElem_cons_succ, List.getElem_cons_zero, List.setIfInBounds_toArray, List.set_cons_zero, List.set_cons_succ]
            refine wpAnyE_take (i := 16) (v := ?_) (listed' := #[true, true, true, true, true, true, true, true, true, true, true, true, true, true, true, true, true, false, false, false, false, false, false, false, false, false]) (by rfl) (by kernel_rfl) (by kernel_rfl) calm_put hS (by rfl) ?_ ?_
            rotate_left
            · intro W hW; clear hW; go_simp; try (with_reducible rfl)
            simp only [Act.put, List.getElem_toArray, List.getElem_cons_succ, List.getElem_cons_zero, List.setIfInBounds_toArray, List.set_cons_zero, List.set_cons_succ]
            refine wpAnyE_take (i := 17) (v := ?_) (listed' := #[true, true, true, true, true, true, true, true, true, true, true, true, true, true, true, true, true, true, false, false, false, false, false, false, false, false]) (by rfl) (by kernel_rfl) (by kernel_rfl) calm_put hS (by rfl) ?_ ?_
            rotate_left
            · intro W hW; clear hW; go_simp; try (with_reducible rfl)
            simp only [Act.put, List.getElem_toArray, List.getElem_cons_succ, List.getElem_cons_zero, List.setIfInBounds_toArray, List.set_cons_zero, List.set_cons_succ]
            refine wpAnyE_take (i := 18) (v := ?_) (listed' := #[true, true, true, true, true, true, true, true, true, true, true, true, true, true, true, true, true, true, true, false, false, false, false, false, false, false]) (by rfl) (by kernel_rfl) (by kernel_rfl) calm_put hS (by rfl) ?_ ?_
            rotate_left
            · intro W hW; clear hW; go_simp; try (with_reducible rfl)
            simp only [Act.put, List.getElem_toArray, List.getElem_cons_succ, List.getElem_cons_zero, List.setIfInBounds_toArray, List.set_cons_zero, List.set_cons_succ]
            refine wpAnyE_take (i := 19) (v := ?_) (listed' := #[true, true, true, true, true, true, true, true, true, true, true, true, true, true, true, true, true, true, true, true, false, false, false, false, false, false]) (by rfl) (by kernel_rfl) (by kernel_rfl) calm_put hS (by rfl) ?_ ?_
            rotate_left
            · intro W hW; clear hW; go_simp; try (with_reducible rfl)
            simp only [Act.put, List.getElem_toArray, List.getElem_cons_succ, List.getElem_cons_zero, List.setIfInBounds_toArray, List.set_cons_zero, List.set_cons_succ]
            refine wpAnyE_take (i := 20) (v := ?_) (listed' := #[true, true, true, true, true, true, true, true, true, true, true, true, true, true, true, true, true, true, true, true, true, false, false, false, false, false]) (by rfl) (by kernel_rfl) (by kernel_rfl) calm_put hS (by rfl) ?_ ?_
            rotate_left
            · intro W hW; clear hW; go_simp; try (with_reducible rfl)
            simp only [Act.put, List.getElem_toArray, List.getElem_cons_succ, List.getElem_cons_zero, List.setIfInBounds_toArray, List.set_cons_zero, List.set_cons_succ]
            refine wpAnyE_take (i := 21) (v := ?_) (listed' := #[true, true, true, true, true, true, true, true, true, true, true, true, true, true, true, true, true, true, true, true, true, true, false, false, false, false]) (by rfl) (by kernel_rfl) (by kernel_rfl) calm_put hS (by rfl) ?_ ?_
            rotate_left
            · intro W hW; clear hW; go_simp; try (with_reducible rfl)
            simp only [Act.put, List.getElem_toArray, List.getElem_cons_succ, List.getElem_cons_zero, List.setIfInBounds_toArray, List.set_cons_zero, List.set_cons_succ]
            refine wpAnyE_take (i := 22) (v := ?_) (listed' := #[true, true, true, true, true, true, true, true, true, true, true, true, true, true, true, true, true, true, true, true, true, true, true, false, false, false]) (by rfl) (by kernel_rfl) (by kernel_rfl) calm_put hS (by rfl) ?_ ?_
            rotate_left
            · intro W hW; clear hW; go_simp; try (with_reducible rfl)
            simp only [Act.put, List.getElem_toArray, List.getElem_cons_succ, List.getElem_cons_zero, List.setIfInBounds_toArray, List.set_cons_zero, List.set_cons_succ]
            refine wpAnyE_take (i := 23) (v := ?_) (listed' := #[true, true, true, true, true, true, true, true, true, true, true, true, true, true, true, true, true, true, true, true, true, true, true, true, false, false]) (by rfl) (by kernel_rfl) (by kernel_rfl) calm_put hS (by rfl) ?_ ?_
            rotate_left
            · intro W hW; clear hW; go_simp; try (with_reducible rfl)
            simp only [Act.put, List.getElem_toArray, List.getElem_cons_succ, List.getElem_cons_zero, List.setIfInBounds_toArray, List.set_cons_zero, List.set_cons_succ]
            refine wpAnyE_take (i := 24) (v := ?_) (listed' := #[true, true, true, true, true, true, true, true, true, true, true, true, true, true, true, true, true, true, true, true, true, true, true, true, true, false]) (by rfl) (by kernel_rfl) (by kernel_rfl) calm_put hS (by rfl) ?_ ?_
            rotate_left
            · intro W hW; clear hW; go_simp; try (with_reducible rfl)
            simp only [Act.put, List.getElem_toArray, List.getElem_cons_succ, List.getElem_cons_zero, List.setIfInBounds_toArray, List.set_cons_zero, List.set_cons_succ]
            refine wpAnyE_take (i := 25) (v := ?_) (listed' := #[true, true, true, true, true, true, true, true, true, true, true, true, true, true, true, true, true, true, true, true, true, true, true, true, true, true]) (by rfl) (by kernel_rfl) (by kernel_rfl) calm_put hS (by rfl) ?_ ?_
            rotate_left
            · intro W hW; clear hW; go_simp; try (with_reducible rfl)
            simp only [Act.put, List.getElem_toArray, List.getElem_cons_succ, List.getElem_cons_zero, List.setIfInBounds_toArray, List.set_cons_zero, List.set_cons_succ]
            refine wpAnyE_done (by kernel_rfl) ?_ _
            refine calm_normal ?_
            go_wp2
            go_roundw
            case rel => exact ⟨j + 1, _, _, _, _, hjl, by go_num, Lib.hid (hS.1.block HL16.out), Lib.hid (hS.1.block HX16.out), Lib.hid (hS.1.block HY16.out), Lib.hid (HB16.out.kept hS.1).1⟩
            case measure => simp [intOf]; omega
          · have hj8 : j = 8 := by omega
            go_wp2
            go_roundw
            case rel => exact ⟨c + 1, Lb, T', hlt, h60, by go_num, hLa', by omega, HI3, HL, Lib.hid (HB.out.less (fun k hk => .inl (.inl hk)))⟩
            case measure => simp [intOf]; omega
      · have hkk : l.length ≤ c ∨ (c < l.length ∧ 60 ≤ c) := by omega
        have HK := Lib.hid HB.out.keeps
        clear hlt
        rcases hkk with hkk | ⟨hkk, h60⟩
        all_goals
          go_wp2
          go_ret
          exact ⟨rfl, HK.out⟩
end
end Go.Proofs.Ytcbghpcohbgcjaa
