/- DiskLasts: the walk (gen_lasts.py). -/
import Derived.Test.YtfnjgcmghfnjhaaDlj
import Derived.Test.YtfnjgcmghfnjhaaDlm
namespace Go.Proofs.Ytfnjgcmghfnjhaa
open Go.RowKit
set_option linter.unusedVariables false
set_option linter.unusedSimpArgs false

theorem exec_load_sec {W : World} {a : Act} {o : Oper} (x : Operand) (ho : o.op = .load 27 x) (b : Nat) (hx : a.eval x = .pointer (some ⟨b, 0, none⟩)) (xs : List Int) (hl : xs.length = 64) (hc : Cells W b 0 (u8s xs)) :
    (execOp a.eval o).run Try.prog W = .ok (.value (.agg (u8s xs).toArray)) W := by
  obtain ⟨⟨d, hd1, hd2⟩, hs⟩ := ty_sec
  unfold execOp
  simp only [ho, hx, Instr.loadAt, Instr.sureAddr, Sem.run_bind, Sem.run_pure, Result.andThen_ok, run_loadVar_mid W b 0 27 (u8s xs) d (rangeAt_of_cells hc) hd1 hd2 (by rw [hs, u8s_length, hl])]
theorem exec_cmp_secN {W : World} {a : Act} {o : Oper} (x y : Operand) {t' : TypeId} (ho : o.op = .binOp .neq 27 x y t') (xs : List Int) (hl : xs.length = 64) (hx : a.eval x = .agg (u8s xs).toArray) (hy : a.eval y = .agg (u8s xs).toArray) :
    (execOp a.eval o).run Try.prog W = .ok (.value (.bool false)) W := by
  have heq := run_equal_secA xs xs hl hl W
  unfold execOp
  simp only [ho, hx, hy, Sem.run_bind]
  rw [run_eqGuard_agg _ _ _ _ _ _ _ eqg_sec]
  simp only [Result.andThen_ok]
  rw [run_neq_struct, heq]
  simp only [Result.andThen_ok, Sem.run_pure, beq_self_eq_true, Bool.not_true]
theorem exec_cmp_secE {W : World} {a : Act} {o : Oper} (x y : Operand) {t' : TypeId} (ho : o.op = .binOp .eql 27 x y t') (xs : List Int) (hl : xs.length = 64) (hx : a.eval x = .agg (u8s xs).toArray) (hy : a.eval y = .agg (u8s xs).toArray) :
    (execOp a.eval o).run Try.prog W = .ok (.value (.bool true)) W := by
  have heq := run_equal_secA xs xs hl hl W
  unfold execOp
  simp only [ho, hx, hy, Sem.run_bind]
  rw [run_eqGuard_agg _ _ _ _ _ _ _ eqg_sec]
  simp only [Result.andThen_ok]
  rw [run_eql_struct, heq]
  simp only [Result.andThen_ok, Sem.run_pure, beq_self_eq_true]
theorem eqg_plc : Try.prog.eqGuardType Try.prog.depth 35 = false := by kernel_rfl
theorem plc_fields : (Try.prog.fieldsOf 35).toList.map (fun f => (f.name, f.type, f.offset)) = [("Disk", 3, 0), ("At", 3, 1)] := by kernel_rfl
theorem run_equal_plc (w : World) (a b c d : Int) : (Op.equalIn 10000 35 (.agg #[.int .i64 a, .int .i64 b]) (.agg #[.int .i64 c, .int .i64 d])).run Try.prog w = .ok (a == c && b == d) w := by
  have hr := run_equalIn_struct (P := Try.prog) w 9999 35 #[.int .i64 a, .int .i64 b] #[.int .i64 c, .int .i64 d] (by kernel_rfl) (by kernel_rfl)
  rw [hr]
  have hf := plc_fields
  generalize (Try.prog.fieldsOf 35).toList = fs at hf ⊢
  rcases fs with _ | ⟨f, _ | ⟨g, _ | ⟨h, fs⟩⟩⟩
  · simp at hf
  · simp at hf
  · skip
    simp only [List.map_cons, List.map_nil, List.cons.injEq, Prod.mk.injEq, and_true] at hf
    obtain ⟨⟨f1, f2, f3⟩, g1, g2, g3⟩ := hf
    have hi : Try.prog.underlying 3 = some (.int .i64) := Try.underlying3
    have pa : ∀ (x y : Int) (ww : World), (part 3 #[.int .i64 x, .int .i64 y] 0).run Try.prog ww = .ok (.int .i64 x) ww := fun x y ww => by simp [part, isAgg, run_underlying hi]
    have pb : ∀ (x y : Int) (ww : World), (part 3 #[.int .i64 x, .int .i64 y] 1).run Try.prog ww = .ok (.int .i64 y) ww := fun x y ww => by simp [part, isAgg, run_underlying hi]
    have pe : ∀ (x y : Int) (ww : World), (Op.equalIn 9999 3 (.int .i64 x) (.int .i64 y)).run Try.prog ww = .ok (x == y) ww := fun x y ww => run_equalIn_int ww 9998 3 .i64 .i64 x y hi
    simp only [Op.eqFields, f1, f2, f3, g1, g2, g3, Sem.run_bind, pa, pb, pe, Result.andThen_ok, Sem.run_ite, Sem.run_pure]
    cases (a == c) <;> cases (b == d) <;> simp
  · simp at hf
theorem flushC_rest (T : BankT) (d : Int) : (T.flushC d).1.clock ≤ T.clock + 1 ∧ (T.flushC d).1.writes ≤ T.writes + 1 := by
  unfold BankT.flushC
  split
  · exact ⟨by show T.clock ≤ T.clock + 1; omega, by show T.writes ≤ T.writes + 1; omega⟩
  · exact ⟨by show T.clock ≤ T.clock + 1; omega, by show T.writes ≤ T.writes + 1; omega⟩
theorem failC_rest (T : BankT) (d : Int) : (T.failC d).1.clock ≤ T.clock + 1 ∧ (T.failC d).1.writes ≤ T.writes + 1 := by
  unfold BankT.failC
  split
  · exact ⟨by show T.clock ≤ T.clock + 1; omega, by show T.writes ≤ T.writes + 1; omega⟩
  · exact ⟨by show T.clock ≤ T.clock + 1; omega, by show T.writes ≤ T.writes + 1; omega⟩
theorem start_rest (T : BankT) : T.start.clock ≤ T.clock + 1 ∧ T.start.writes ≤ T.writes + 1 :=
  ⟨by show T.clock ≤ T.clock + 1; omega, by show T.writes ≤ T.writes + 1; omega⟩
theorem crash_rest2 {T : BankT} (h : T.Inv) (m : Int) : (T.crash m).clock ≤ T.clock + 1 ∧ (T.crash m).writes ≤ T.writes + 1 := by
  obtain ⟨h1, h2⟩ := BankT.crash_clock h.ok m
  exact ⟨by rw [h1]; omega, by rw [h2]; omega⟩
section
variable {w W : World}
set_option maxHeartbeats 4000000
set_option maxRecDepth 100000
theorem law_lasts (v : Value) (l : List OpD) (where0 n0 : Int) (w : World) (hs : DSrc w v l) :
    Calls Try.prog 6 #[v, .int .i64 where0, .int .i64 n0] w fun e w' => e = .returned (.bool true) ∧ Kept w w' := by
  have HS := Lib.hid hs
  obtain ⟨oa, cap, rfl, hcap, hmax, hrest⟩ := hs
  clear hrest
  unfold maxLen at hmax
  obtain ⟨y, hy, hyl⟩ := and_low where0 16 (by decide) (m := 65535) (by decide)
  have hym : (y : Int) % 3 = ((y % 3 : Nat) : Int) := by omega
  have hkd3 : y % 3 < 3 := by omega
  obtain ⟨ka, hka, hkal⟩ := and_low (where0 / 65536) 3 (by decide) (m := 7) (by decide)
  have hka8 : ka < 8 := hkal
  generalize y % 3 = kd at *
  clear hkal hyl
  have HSH := Lib.hid (law_shown03 w)
  obtain ⟨T1, T2, e1, e2, i1, l1, c1, w1, k2, c2, w2⟩ := kp_begin hkd3 hka8 (s := secN n0) ⟨secN_len n0, secN_byte n0⟩
  have HE1 := Lib.hid e1; have HE2 := Lib.hid e2; have HK2 := Lib.hid k2
  have HU0 : Hid (addN 3).Use := Lib.hid (bk_use (addN_still (by decide)) (by decide) (Int.le_of_eq (addN_rest 3).2.2.1) (Int.le_of_eq (addN_rest 3).2.2.2) (by decide) (by decide))
  have HU1 : Hid T1.Use := Lib.hid ⟨i1, by rw [l1]; decide, by omega, by omega⟩
  clear e1 e2 i1 l1 c1 w1 k2
  go_enter Try.func6, Try.ntmps6
  go_wp2_with fail
  refine Calls.mono HSH.out ?_
  rintro e w1 ⟨rfl, hk1⟩
  have HL := Lib.hid (law_laid w w1 (fun _ => False) hk1 (fun _ h => h.elim))
  clear hk1 HSH
  go_wp2_with fail
  refine Calls.mono HL.out ?_
  rintro e w2 ⟨q, rfl, hb, hr⟩
  have HB2 := Lib.hid hb
  clear hb hr HL
  go_wp2_with (refine stop_at (o := ⟨some 9, _, _, _, _, _⟩) ?_)
  refine Stop.mk ?_
  refine wpList_new_row rfl rfl _ _ rfl rfl ty_plc _ zero_plc rfl [.int .i64 (kd : Int), .int .i64 (ka : Int)] rfl rfl (by intro u hu; simp at hu; rcases hu with rfl | rfl <;> rfl) rfl ?_
  intro w3 hz3 hs3 hk3
  simp only [hym]
  have HB3 := Lib.hid ((HB2.out.more hk3 w2.heap.size (Nat.le_refl _) hs3).less (R' := fun k => k = w2.heap.size) (fun k h => .inr h))
  have k0 : w3.cell? ⟨w2.heap.size, 0, none⟩ = some (.int .i64 (kd : Int)) := cell_of_row _ _ 0 _ _ _ hz3.out
  have k1 : w3.cell? ⟨w2.heap.size, 1, none⟩ = some (.int .i64 (ka : Int)) := cell_of_row _ _ 1 _ _ _ hz3.out
  generalize w2.heap.size = Bk at *
  clear hz3 hs3 hk3 HB2
  go_upto_region 6 with fail
  have hS : w3.drew.cell? ⟨Bk, 0, none⟩ = some (.int .i64 (kd : Int)) ∧ w3.drew.cell? ⟨Bk, 1, none⟩ = some (.int .i64 (ka : Int)) := ⟨k0, k1⟩
  refine wp_region_calm ?_
  refine wp_region_E (fun W => W.cell? ⟨Bk, 0, none⟩ = some (.int .i64 (kd : Int)) ∧ W.cell? ⟨Bk, 1, none⟩ = some (.int .i64 (ka : Int))) 100 (by kernel_rfl) ?_
  refine wpAnyE_take (i := 0) (v := ?_) (listed' := #[true, false, false, false, false, false, false, false, false, false, false, false, false]) (by rfl) (by kernel_rfl) (by kernel_rfl) calm_put hS (by rfl) ?_ ?_
  rotate_left
  · intro W hW; clear hW; go_simp; try (with_reducible rfl)
  simp only [Act.put, List.getElem_toArray, List.getElem_cons_succ, List.getElem_cons_zero, List.setIfInBounds_toArray, List.set_cons_zero, List.set_cons_succ]
  refine wpAnyE_take (i := 1) (v := ?_) (listed' := #[true, true, false, false, false, false, false, false, false, false, false, false, false]) (by rfl) (by kernel_rfl) (by kernel_rfl) calm_put hS (by rfl) ?_ ?_
  rotate_left
  · intro W hW; obtain ⟨p0, p1⟩ := hW; go_simp; try (with_reducible rfl)
  simp only [Act.put, List.getElem_toArray, List.getElem_cons_succ, List.getElem_cons_zero, List.setIfInBounds_toArray, List.set_cons_zero, List.set_cons_succ]
  refine wpAnyE_take (i := 2) (v := ?_) (listed' := #[true, true, true, false, false, false, false, false, false, false, false, false, false]) (by rfl) (by kernel_rfl) (by kernel_rfl) calm_put hS (by rfl) ?_ ?_
  rotate_left
  · intro W hW; clear hW; go_simp; try (with_reducible rfl)
  simp only [Act.put, List.getElem_toArray, List.getElem_cons_succ, List.getElem_cons_zero, List.setIfInBounds_toArray, List.set_cons_zero, List.set_cons_succ]
  refine wpAnyE_one (i := 3) (listed' := #[true, true, true, true, false, false, false, false, false, false, false, false, false]) (by rfl) (by kernel_rfl) (by kernel_rfl) (by rfl) (fun K hK => ?_)
  simp only [Act.put, List.getElem_toArray, List.getElem_cons_succ, List.getElem_cons_zero, List.setIfInBounds_toArray, List.set_cons_zero, List.set_cons_succ]
  go_wp2_with fail
  refine Calls.mono (law_sector n0 _) ?_
  rintro e w4 ⟨rfl, hks⟩
  have hS := (⟨hks.cell' hS.1, hks.cell' hS.2⟩ : _ ∧ _)
  refine hK _ _ (fun _ => hS) ?_; clear hK K
  refine wpAnyE_one (i := 4) (listed' := #[true, true, true, true, true, false, false, false, false, false, false, false, false]) (by rfl) (by kernel_rfl) (by kernel_rfl) (by rfl) (fun K hK => ?_)
  simp only [Act.put, List.getElem_toArray, List.getElem_cons_succ, List.getElem_cons_zero, List.setIfInBounds_toArray, List.set_cons_zero, List.set_cons_succ]
  go_wp2_with fail
  refine Calls.mono (st_writeE (HB3.out.kept ((Kept.refl _).drew.trans hks)).1 HU0.out (kd : Int) (ka : Int) (s := secN n0) (secN_len n0) HE1.out) ?_
  rintro e w5 ⟨rfl, hb5, hr5⟩
  have HB5 := Lib.hid hb5
  have hS := (⟨(World.cell?_of_block (a := ⟨Bk, 0, none⟩) (hr5 Bk rfl)).trans hS.1, (World.cell?_of_block (a := ⟨Bk, 1, none⟩) (hr5 Bk rfl)).trans hS.2⟩ : _ ∧ _)
  clear hb5 hr5 hks
  refine hK _ _ (fun _ => hS) ?_; clear hK K
  refine wpAnyE_take (i := 5) (v := ?_) (listed' := #[true, true, true, true, true, true, false, false, false, false, false, false, false]) (by rfl) (by kernel_rfl) (by kernel_rfl) calm_put hS (by rfl) ?_ ?_
  rotate_left
  · intro W hW; clear hW; go_simp; try (with_reducible rfl)
  simp only [Act.put, List.getElem_toArray, List.getElem_cons_succ, List.getElem_cons_zero, List.setIfInBounds_toArray, List.set_cons_zero, List.set_cons_succ]
  refine wpAnyE_take (i := 6) (v := ?_) (listed' := #[true, true, true, true, true, true, true, false, false, false, false, false, false]) (by rfl) (by kernel_rfl) (by kernel_rfl) calm_put hS (by rfl) ?_ ?_
  rotate_left
  · intro W hW; clear hW; go_simp; try (with_reducible rfl)
  simp only [Act.put, List.getElem_toArray, List.getElem_cons_succ, List.getElem_cons_zero, List.setIfInBounds_toArray, List.set_cons_zero, List.set_cons_succ]
  refine wpAnyE_take (i := 7) (v := ?_) (listed' := #[true, true, true, true, true, true, true, true, false, false, false, false, false]) (by rfl) (by kernel_rfl) (by kernel_rfl) calm_put hS (by rfl) ?_ ?_
  rotate_left
  · intro W hW; clear hW; go_simp; try (with_reducible rfl)
  simp only [Act.put, List.getElem_toArray, List.getElem_cons_succ, List.getElem_cons_zero, List.setIfInBounds_toArray, List.set_cons_zero, List.set_cons_succ]
  refine wpAnyE_take (i := 8) (v := ?_) (listed' := #[true, true, true, true, true, true, true, true, true, false, false, false, false]) (by rfl) (by kernel_rfl) (by kernel_rfl) calm_put hS (by rfl) ?_ ?_
  rotate_left
  · intro W hW; clear hW; go_simp; try (with_reducible rfl)
  simp only [Act.put, List.getElem_toArray, List.getElem_cons_succ, List.getElem_cons_zero, List.setIfInBounds_toArray, List.set_cons_zero, List.set_cons_succ]
  refine wpAnyE_take (i := 9) (v := ?_) (listed' := #[true, true, true, true, true, true, true, true, true, true, false, false, false]) (by rfl) (by kernel_rfl) (by kernel_rfl) calm_put hS (by rfl) ?_ ?_
  rotate_left
  · intro W hW; obtain ⟨p0, p1⟩ := hW; go_simp; try (with_reducible rfl)
  simp only [Act.put, List.getElem_toArray, List.getElem_cons_succ, List.getElem_cons_zero, List.setIfInBounds_toArray, List.set_cons_zero, List.set_cons_succ]
  refine wpAnyE_one (i := 10) (listed' := #[true, true, true, true, true, true, true, true, true, true, true, false, false]) (by rfl) (by kernel_rfl) (by kernel_rfl) (by rfl) (fun K hK => ?_)
  simp only [Act.put, List.getElem_toArray, List.getElem_cons_succ, List.getElem_cons_zero, List.setIfInBounds_toArray, List.set_cons_zero, List.set_cons_succ]
  go_wp2_with fail
  refine Calls.mono (st_flush HB5.out HU1.out (kd : Int) (c := 0) (T' := T2) (by rw [HE2.out]) (by rw [HE2.out])) ?_
  rintro e w6 ⟨rfl, hb6, hr6⟩
  have HB6 := Lib.hid hb6
  have hS := (⟨(World.cell?_of_block (a := ⟨Bk, 0, none⟩) (hr6 Bk rfl)).trans hS.1, (World.cell?_of_block (a := ⟨Bk, 1, none⟩) (hr6 Bk rfl)).trans hS.2⟩ : _ ∧ _)
  clear hb6 hr6
  refine hK _ _ (fun _ => hS) ?_; clear hK K
  refine wpAnyE_take (i := 11) (v := ?_) (listed' := #[true, true, true, true, true, true, true, true, true, true, true, true, false]) (by rfl) (by kernel_rfl) (by kernel_rfl) calm_put hS (by rfl) ?_ ?_
  rotate_left
  · intro W hW; clear hW; go_simp; try (with_reducible rfl)
  simp only [Act.put, List.getElem_toArray, List.getElem_cons_succ, List.getElem_cons_zero, List.setIfInBounds_toArray, List.set_cons_zero, List.set_cons_succ]
  refine wpAnyE_take (i := 12) (v := ?_) (listed' := #[true, true, true, true, true, true, true, true, true, true, true, true, true]) (by rfl) (by kernel_rfl) (by kernel_rfl) calm_put hS (by rfl) ?_ ?_
  rotate_left
  · intro W hW; clear hW; go_simp; try (with_reducible rfl)
  simp only [Act.put, List.getElem_toArray, List.getElem_cons_succ, List.getElem_cons_zero, List.setIfInBounds_toArray, List.set_cons_zero, List.set_cons_succ]
  refine wpAnyE_done (by kernel_rfl) ?_ _
  refine calm_normal ?_

  have HKK : Hid (w6.cell? ⟨Bk, 0, none⟩ = some (.int .i64 (kd : Int)) ∧ w6.cell? ⟨Bk, 1, none⟩ = some (.int .i64 (ka : Int))) := Lib.hid hS
  clear hS k0 k1 HB3 HB5 HE1 HE2 HU0 HU1
  go_upto_block 0 with fail
  go_cut [] (fun wc => ∃ T : BankT, Hid (KpI kd ka (secN n0) T) ∧ T.clock ≤ 81 ∧ T.writes ≤ 81 ∧ Hid (BK w (fun k => k = Bk) wc q T) ∧ Hid (wc.cell? ⟨Bk, 0, none⟩ = some (.int .i64 (kd : Int)) ∧ wc.cell? ⟨Bk, 1, none⟩ = some (.int .i64 (ka : Int))))
  case first =>
    go_wp2
    go_loopw [10] (fun i wr => ∃ (k : Nat) (T : BankT), k ≤ l.length ∧ k ≤ 80 ∧ i = .int .i64 k ∧ T.clock ≤ (k : Int) + 1 ∧ T.writes ≤ (k : Int) + 1 ∧ Hid (KpI kd ka (secN n0) T) ∧ Hid (BK w (fun k => k = Bk) wr q T) ∧ Hid (wr.cell? ⟨Bk, 0, none⟩ = some (.int .i64 (kd : Int)) ∧ wr.cell? ⟨Bk, 1, none⟩ = some (.int .i64 (ka : Int)))) (fun i _ => l.length - (intOf i).toNat)
    case atStart => exact ⟨0, T2, Nat.zero_le _, by decide, rfl, by omega, by omega, HK2, HB6, HKK⟩
    case round =>
      obtain ⟨k, T, hk, hk80, rfl, hclk, hwri, HI, HB, HKB⟩ := hrel
      by_cases hlt : k < l.length ∧ k < 80
      · obtain ⟨hlt, h80⟩ := hlt
        obtain ⟨b, off, rfl, g0, g1, g2, g3, g4, g5, g6⟩ := HS.out.at k hlt
        obtain ⟨y1, hy1, hyl1⟩ := and_low l[k].disk 16 (by decide) (m := 65535) (by decide)
        obtain ⟨a, ha, hal⟩ := and_low l[k].at_ 3 (by decide) (m := 7) (by decide)
        have hym1 : (y1 : Int) % 3 = ((y1 % 3 : Nat) : Int) := by omega
        have hd3 : y1 % 3 < 3 := by omega
        have hymt : (y1 : Int).tmod 3 = ((y1 % 3 : Nat) : Int) := by rw [Int.tmod_eq_emod_of_nonneg (by omega)]; exact hym1
        have ha8 : a < 8 := hal
        clear hal hyl1
        generalize l[k].kind = xk at *
        generalize l[k].disk = xd at *
        generalize l[k].at_ = xa at *
        generalize l[k].n = xn at *
        generalize l[k].mask = xm at *
        generalize y1 % 3 = d at *
        have HU : Hid T.Use := Lib.hid ⟨HI.out.inv, by rw [HI.out.len]; decide, by omega, by omega⟩
        have HSN := Lib.hid (show (secN xn).length = 64 ∧ ∀ x ∈ secN xn, IsByte x from ⟨secN_len xn, secN_byte xn⟩)
        have c0 := HB.out.keeps.cell' g0
        have c1 := HB.out.keeps.cell' g1
        have c2 := HB.out.keeps.cell' g2
        go_upto_region 11 with fail
        have hS : Kept wr wr.drew := (Kept.refl wr).drew
        refine wp_region_calm ?_
        refine wp_region_E (fun W => Kept wr W) 15 (by kernel_rfl) ?_
        refine wpAnyE_take (i := 0) (v := ?_) (listed' := #[true, false, false, false, false, false, false, false, false, false, false, false, false, false, false, false]) (by rfl) (by kernel_rfl) (by kernel_rfl) calm_put hS (by rfl) ?_ ?_
        rotate_left
        · intro W hW; clear hW; go_simp; try (with_reducible rfl)
        simp only [Act.put, List.getElem_toArray, List.getElem_cons_succ, List.getElem_cons_zero, List.setIfInBounds_toArray, List.set_cons_zero, List.set_cons_succ]
        refine wpAnyE_take (i := 1) (v := ?_) (listed' := #[true, true, false, false, false, false, false, false, false, false, false, false, false, false, false, false]) (by rfl) (by kernel_rfl) (by kernel_rfl) calm_put hS (by rfl) ?_ ?_
        rotate_left
        · intro W hW; clear hW; go_simp; try (with_reducible rfl)
        simp only [Act.put, List.getElem_toArray, List.getElem_cons_succ, List.getElem_cons_zero, List.setIfInBounds_toArray, List.set_cons_zero, List.set_cons_succ]
        refine wpAnyE_take (i := 2) (v := ?_) (listed' := #[true, true, true, false, false, false, false, false, false, false, false, false, false, false, false, false]) (by rfl) (by kernel_rfl) (by kernel_rfl) calm_put hS (by rfl) ?_ ?_
        rotate_left
        · intro W hW; clear hW; go_simp; try (with_reducible rfl)
        simp only [Act.put, List.getElem_toArray, List.getElem_cons_succ, List.getElem_cons_zero, List.setIfInBounds_toArray, List.set_cons_zero, List.set_cons_succ]
        refine wpAnyE_take (i := 3) (v := ?_) (listed' := #[true, true, true, true, false, false, false, false, false, false, false, false, false, false, false, false]) (by rfl) (by kernel_rfl) (by kernel_rfl) calm_put hS (by rfl) ?_ ?_
        rotate_left
        · intro W hW; clear hW; go_simp; try (with_reducible rfl)
        simp only [Act.put, List.getElem_toArray, List.getElem_cons_succ, List.getElem_cons_zero, List.setIfInBounds_toArray, List.set_cons_zero, List.set_cons_succ]
        refine wpAnyE_take (i := 4) (v := ?_) (listed' := #[true, true, true, true, true, false, false, false, false, false, false, false, false, false, false, false]) (by rfl) (by kernel_rfl) (by kernel_rfl) calm_put hS (by rfl) ?_ ?_
        rotate_left
        · intro W hW; have d1 := hW.cell' c1; have d2 := hW.cell' c2; go_simp; try (with_reducible rfl)
        simp only [Act.put, List.getElem_toArray, List.getElem_cons_succ, List.getElem_cons_zero, List.setIfInBounds_toArray, List.set_cons_zero, List.set_cons_succ]
        refine wpAnyE_take (i := 5) (v := ?_) (listed' := #[true, true, true, true, true, true, false, false, false, false, false, false, false, false, false, false]) (by rfl) (by kernel_rfl) (by kernel_rfl) calm_put hS (by rfl) ?_ ?_
        rotate_left
        · intro W hW; clear hW; go_simp; try (with_reducible rfl)
        simp only [Act.put, List.getElem_toArray, List.getElem_cons_succ, List.getElem_cons_zero, List.setIfInBounds_toArray, List.set_cons_zero, List.set_cons_succ]
        refine wpAnyE_take (i := 6) (v := ?_) (listed' := #[true, true, true, true, true, true, true, false, false, false, false, false, false, false, false, false]) (by rfl) (by kernel_rfl) (by kernel_rfl) calm_put hS (by rfl) ?_ ?_
        rotate_left
        · intro W hW; clear hW; go_simp; try (with_reducible rfl)
        simp only [Act.put, List.getElem_toArray, List.getElem_cons_succ, List.getElem_cons_zero, List.setIfInBounds_toArray, List.set_cons_zero, List.set_cons_succ]
        refine wpAnyE_take (i := 7) (v := ?_) (listed' := #[true, true, true, true, true, true, true, true, false, false, false, false, false, false, false, false]) (by rfl) (by kernel_rfl) (by kernel_rfl) calm_put hS (by rfl) ?_ ?_
        rotate_left
        · intro W hW; clear hW; go_simp; try (with_reducible rfl)
        simp only [Act.put, List.getElem_toArray, List.getElem_cons_succ, List.getElem_cons_zero, List.setIfInBounds_toArray, List.set_cons_zero, List.set_cons_succ]
        refine wpAnyE_take (i := 8) (v := ?_) (listed' := #[true, true, true, true, true, true, true, true, true, false, false, false, false, false, false, false]) (by rfl) (by kernel_rfl) (by kernel_rfl) calm_put hS (by rfl) ?_ ?_
        rotate_left
        · intro W hW; clear hW; go_simp; try (with_reducible rfl)
        simp only [Act.put, List.getElem_toArray, List.getElem_cons_succ, List.getElem_cons_zero, List.setIfInBounds_toArray, List.set_cons_zero, List.set_cons_succ]
        refine wpAnyE_take (i := 9) (v := ?_) (listed' := #[true, true, true, true, true, true, true, true, true, true, false, false, false, false, false, false]) (by rfl) (by kernel_rfl) (by kernel_rfl) calm_put hS (by rfl) ?_ ?_
        rotate_left
        · intro W hW; clear hW; go_simp; try (with_reducible rfl)
        simp only [Act.put, List.getElem_toArray, List.getElem_cons_succ, List.getElem_cons_zero, List.setIfInBounds_toArray, List.set_cons_zero, List.set_cons_succ]
        refine wpAnyE_take (i := 10) (v := ?_) (listed' := #[true, true, true, true, true, true, true, true, true, true, true, false, false, false, false, false]) (by rfl) (by kernel_rfl) (by kernel_rfl) calm_put hS (by rfl) ?_ ?_
        rotate_left
        · intro W hW; clear hW; go_simp; try (with_reducible rfl)
        simp only [Act.put, List.getElem_toArray, List.getElem_cons_succ, List.getElem_cons_zero, List.setIfInBounds_toArray, List.set_cons_zero, List.set_cons_succ]
        refine wpAnyE_take (i := 11) (v := ?_) (listed' := #[true, true, true, true, true, true, true, true, true, true, true, true, false, false, false, false]) (by rfl) (by kernel_rfl) (by kernel_rfl) calm_put hS (by rfl) ?_ ?_
        rotate_left
        · intro W hW; have d1 := hW.cell' c1; have d2 := hW.cell' c2; go_simp; try (with_reducible rfl)
        simp only [Act.put, List.getElem_toArray, List.getElem_cons_succ, List.getElem_cons_zero, List.setIfInBounds_toArray, List.set_cons_zero, List.set_cons_succ]
        refine wpAnyE_take (i := 12) (v := ?_) (listed' := #[true, true, true, true, true, true, true, true, true, true, true, true, true, false, false, false]) (by rfl) (by kernel_rfl) (by kernel_rfl) calm_put hS (by rfl) ?_ ?_
        rotate_left
        · intro W hW; clear hW; go_simp; try (with_reducible rfl)
        simp only [Act.put, List.getElem_toArray, List.getElem_cons_succ, List.getElem_cons_zero, List.setIfInBounds_toArray, List.set_cons_zero, List.set_cons_succ]
        refine wpAnyE_take (i := 13) (v := ?_) (listed' := #[true, true, true, true, true, true, true, true, true, true, true, true, true, true, false, false]) (by rfl) (by kernel_rfl) (by kernel_rfl) calm_put hS (by rfl) ?_ ?_
        rotate_left
        · intro W hW; clear hW; go_simp; try (with_reducible rfl)
        simp only [Act.put, List.getElem_toArray, List.getElem_cons_succ, List.getElem_cons_zero, List.setIfInBounds_toArray, List.set_cons_zero, List.set_cons_succ]
        refine wpAnyE_one (i := 14) (listed' := #[true, true, true, true, true, true, true, true, true, true, true, true, true, true, true, false]) (by rfl) (by kernel_rfl) (by kernel_rfl) (by rfl) (fun K hK => ?_)
        simp only [Act.put, List.getElem_toArray, List.getElem_cons_succ, List.getElem_cons_zero, List.setIfInBounds_toArray, List.set_cons_zero, List.set_cons_succ]
        refine wp_alloc_abs _ rfl _ zero_plc ?_
        intro wp hzp hsp hkp
        refine hK _ _ (fun _ => hS.trans hkp) ?_; clear hK K
        refine wpAnyE_one (i := 15) (listed' := #[true, true, true, true, true, true, true, true, true, true, true, true, true, true, true, true]) (by rfl) (by kernel_rfl) (by kernel_rfl) (by rfl) (fun K hK => ?_)
        simp only [Act.put, List.getElem_toArray, List.getElem_cons_succ, List.getElem_cons_zero, List.setIfInBounds_toArray, List.set_cons_zero, List.set_cons_succ]
        refine wp_store_agg _ _ rfl ty_plc _ 0 rfl [.int .i64 (d : Int), .int .i64 (a : Int)] rfl rfl (by intro u hu; simp at hu; rcases hu with rfl | rfl <;> rfl) _ _ hzp.out (by simp) ?_
        intro wq hwq
        refine hK _ _ (fun h => absurd rfl h) ?_; clear hK K
        refine wpAnyE_done (by kernel_rfl) ?_ _
        refine calm_normal ?_

        replace hwq := hwq.all rfl
        have hk5 : Kept wr wq := hwq.kept (hS.trans hkp) (Nat.le_refl _)
        have hBl : wr.drew.heap.size < wq.heap.size := by rw [hwq.size]; exact hsp
        have HB5 := Lib.hid (HB.out.more hk5 wr.drew.heap.size (show wr.heap.size ≤ wr.drew.heap.size from Nat.le_refl _) hBl)
        have p0 : wq.cell? ⟨wr.drew.heap.size, 0, none⟩ = some (.int .i64 (d : Int)) := cell_of_row _ _ 0 _ _ _ hwq.blk
        have p1 : wq.cell? ⟨wr.drew.heap.size, 1, none⟩ = some (.int .i64 (a : Int)) := cell_of_row _ _ 1 _ _ _ hwq.blk
        have q0 := hk5.cell' HKB.out.1
        have q1 := hk5.cell' HKB.out.2
        have c0q := hk5.cell' c0
        have c3q := hk5.cell' (HB.out.keeps.cell' g3)
        have c4q := hk5.cell' (HB.out.keeps.cell' g4)
        clear hwq hzp hsp hkp hS hk5 hBl c0 c1 c2
        generalize wr.drew.heap.size = Bp at *
        have hcs : xk = 2 ∨ xk = 4 ∨ xk = 5 ∨ xk = 6 ∨ xk = 7 ∨ (xk ≠ 2 ∧ xk ≠ 4 ∧ xk ≠ 5 ∧ xk ≠ 6 ∧ xk ≠ 7) := by omega
        rcases hcs with rfl | rfl | rfl | rfl | rfl | ⟨n2, n4, n5, n6, n7⟩
        · skip
          go_wp2_with fail
          refine Calls.mono (bk_Flush HB5.out HU.out (d : Int)) ?_
          rintro e w7 ⟨rfl, hb7, hr7⟩
          have HB7' := hb7
          have k0 := (World.cell?_of_block (a := ⟨Bk, 0, none⟩) (hr7 Bk (.inl rfl))).trans q0
          have k1 := (World.cell?_of_block (a := ⟨Bk, 1, none⟩) (hr7 Bk (.inl rfl))).trans q1
          have hkp : KpI kd ka (secN n0) ((T.flushC (d : Int)).1) := HI.out.flush hkd3 hka8 d hd3
          have hcb := flushC_rest T (d : Int)
          clear hb7 hr7
          obtain ⟨T', hT'⟩ : ∃ T', T' = (T.flushC (d : Int)).1 := ⟨_, rfl⟩
          rw [← hT'] at HB7' hkp hcb
          have HB7 := Lib.hid HB7'
          obtain ⟨hcb1, hcb2⟩ := hcb
          clear HB7' hT'
          clear p0 p1 HB5 c0q
          have HK8 := Lib.hid hkp
          have hup := KpI.read (T := T') hkp hkd3 hka8
          have HRD := Lib.hid hup
          have HU7 : Hid T'.Use := Lib.hid ⟨hkp.inv, by rw [hkp.len]; decide, by omega, by omega⟩
          clear hkp hup HI
          go_wp2_with fail
          refine Calls.mono (bk_Up HB7.out) ?_
          rintro e w8 ⟨rfl, rfl⟩
          cases hdn : T'.down with
          | true =>
            have HB9 := Lib.hid (HB7.out.less (R' := fun k => k = Bk) (fun k h => .inl h))
            clear hdn HRD
            go_wp2
            go_roundw
            case rel => exact ⟨k + 1, T', hlt, h80, by go_num, by omega, by omega, HK8, HB9, Lib.hid ⟨k0, k1⟩⟩
            case measure => simp [intOf]; omega
          | false =>
            have HR := Lib.hid (HRD.out hdn)
            clear hdn HRD
            go_wp2_with fail
            refine Calls.mono (st_read HB7.out HU7.out (kd : Int) (ka : Int) HR.out) ?_
            rintro e w8 ⟨rfl, hb8, hk8⟩
            have HB8 := Lib.hid hb8
            replace k0 := hk8.cell' k0
            replace k1 := hk8.cell' k1
            clear hb8 hk8 HB7
            go_wp2_with (refine stop_at (o := ⟨some 12, _, _, _, _, _⟩) ?_)
            refine Stop.mk ?_
            refine wpList_new_row rfl rfl _ _ rfl rfl ty_sec (u8s zeroB) zero_sec (by rw [u8s_length, zeroB_length]) (u8s (secN n0)) rfl (by rw [u8s_length, secN_len]) (u8s_one _) rfl ?_
            intro w9 hz9 hs9 hk9
            have HB9 := Lib.hid (HB8.out.kept hk9).1
            replace k0 := hk9.cell' k0
            replace k1 := hk9.cell' k1
            generalize w8.heap.size = Bx at *
            have hX : Cells w9 Bx 0 (u8s (secN n0)) := by simpa using Cells.of_block hz9.out
            clear hz9 hs9 hk9 HB8
            go_upto_region 28 with fail
            have hS : Cells w9.drew Bx 0 (u8s (secN n0)) := hX
            refine wp_region_calm ?_
            refine wp_region_E (fun W => Cells W Bx 0 (u8s (secN n0))) 100 (by kernel_rfl) ?_
            refine wpAnyE_take (i := 0) (v := .agg (u8s (secN n0)).toArray) (listed' := #[true, false, false, false, false, false, false, false]) (by rfl) (by kernel_rfl) (by kernel_rfl) calm_put hS (by rfl) ?_ ?_
            · intro W hW; skip; exact exec_load_sec _ rfl Bx rfl (secN n0) (secN_len n0) hW
            simp only [Act.put, List.getElem_toArray, List.getElem_cons_succ, List.getElem_cons_zero, List.setIfInBounds_toArray, List.set_cons_zero, List.set_cons_succ]
            refine wpAnyE_take (i := 1) (v := ?_) (listed' := #[true, true, false, false, false, false, false, false]) (by rfl) (by kernel_rfl) (by kernel_rfl) calm_put hS (by rfl) ?_ ?_
            rotate_left
            · intro W hW; clear hW; go_simp; try (with_reducible rfl)
            simp only [Act.put, List.getElem_toArray, List.getElem_cons_succ, List.getElem_cons_zero, List.setIfInBounds_toArray, List.set_cons_zero, List.set_cons_succ]
            refine wpAnyE_one (i := 2) (listed' := #[true, true, true, false, false, false, false, false]) (by rfl) (by kernel_rfl) (by kernel_rfl) (by rfl) (fun K hK => ?_)
            simp only [Act.put, List.getElem_toArray, List.getElem_cons_succ, List.getElem_cons_zero, List.setIfInBounds_toArray, List.set_cons_zero, List.set_cons_succ]
            go_wp2_with fail
            refine Calls.mono (law_sector n0 _) ?_
            rintro e w10 ⟨rfl, hks⟩
            have hS := hS.kept hks
            refine hK _ _ (fun _ => hS) ?_; clear hK K
            refine wpAnyE_take (i := 3) (v := .bool false) (listed' := #[true, true, true, true, false, false, false, false]) (by rfl) (by kernel_rfl) (by kernel_rfl) calm_put hS (by rfl) ?_ ?_
            · intro W hW; clear hW; exact exec_cmp_secN _ _ rfl (secN n0) (secN_len n0) rfl rfl
            simp only [Act.put, List.getElem_toArray, List.getElem_cons_succ, List.getElem_cons_zero, List.setIfInBounds_toArray, List.set_cons_zero, List.set_cons_succ]
            refine wpAnyE_take (i := 4) (v := ?_) (listed' := #[true, true, true, true, true, false, false, false]) (by rfl) (by kernel_rfl) (by kernel_rfl) calm_put hS (by rfl) ?_ ?_
            rotate_left
            · intro W hW; clear hW; go_simp; try (with_reducible rfl)
            simp only [Act.put, List.getElem_toArray, List.getElem_cons_succ, List.getElem_cons_zero, List.setIfInBounds_toArray, List.set_cons_zero, List.set_cons_succ]
            refine wpAnyE_take (i := 5) (v := ?_) (listed' := #[true, true, true, true, true, true, false, false]) (by rfl) (by kernel_rfl) (by kernel_rfl) calm_put hS (by rfl) ?_ ?_
            rotate_left
            · intro W hW; clear hW; go_simp; try (with_reducible rfl)
            simp only [Act.put, List.getElem_toArray, List.getElem_cons_succ, List.getElem_cons_zero, List.setIfInBounds_toArray, List.set_cons_zero, List.set_cons_succ]
            refine wpAnyE_take (i := 6) (v := ?_) (listed' := #[true, true, true, true, true, true, true, false]) (by rfl) (by kernel_rfl) (by kernel_rfl) calm_put hS (by rfl) ?_ ?_
            rotate_left
            · intro W hW; clear hW; go_simp; try (with_reducible rfl)
            simp only [Act.put, List.getElem_toArray, List.getElem_cons_succ, List.getElem_cons_zero, List.setIfInBounds_toArray, List.set_cons_zero, List.set_cons_succ]
            refine wpAnyE_take (i := 7) (v := ?_) (listed' := #[true, true, true, true, true, true, true, true]) (by rfl) (by kernel_rfl) (by kernel_rfl) calm_put hS (by rfl) ?_ ?_
            rotate_left
            · intro W hW; clear hW; go_simp; try (with_reducible rfl)
            simp only [Act.put, List.getElem_toArray, List.getElem_cons_succ, List.getElem_cons_zero, List.setIfInBounds_toArray, List.set_cons_zero, List.set_cons_succ]
            refine wpAnyE_done (by kernel_rfl) ?_ _
            refine calm_normal ?_
            have HB10 := Lib.hid ((HB9.out.kept ((Kept.refl _).drew.trans hks)).1.less (R' := fun k => k = Bk) (fun k h => .inl h))
            replace k0 := ((Kept.refl _).drew.trans hks).cell' k0
            replace k1 := ((Kept.refl _).drew.trans hks).cell' k1
            clear hks hS hX HB9
            go_wp2
            go_roundw
            case rel => exact ⟨k + 1, T', hlt, h80, by go_num, by omega, by omega, HK8, HB10, Lib.hid ⟨k0, k1⟩⟩
            case measure => simp [intOf]; omega

        · skip
          go_wp2_with fail
          refine Calls.mono (bk_Crash HB5.out HU.out xm g6.1 g6.2) ?_
          rintro e w7 ⟨rfl, hb7, hr7⟩
          have HB7' := hb7
          have k0 := (World.cell?_of_block (a := ⟨Bk, 0, none⟩) (hr7 Bk (.inl rfl))).trans q0
          have k1 := (World.cell?_of_block (a := ⟨Bk, 1, none⟩) (hr7 Bk (.inl rfl))).trans q1
          have hkp : KpI kd ka (secN n0) (T.crash xm) := HI.out.crash hkd3 xm
          have hcb := crash_rest2 HI.out.inv xm
          clear hb7 hr7
          obtain ⟨T', hT'⟩ : ∃ T', T' = T.crash xm := ⟨_, rfl⟩
          rw [← hT'] at HB7' hkp hcb
          have HB7 := Lib.hid HB7'
          obtain ⟨hcb1, hcb2⟩ := hcb
          clear HB7' hT'
          clear p0 p1 HB5 c0q
          have HK8 := Lib.hid hkp
          have hup := KpI.read (T := T') hkp hkd3 hka8
          have HRD := Lib.hid hup
          have HU7 : Hid T'.Use := Lib.hid ⟨hkp.inv, by rw [hkp.len]; decide, by omega, by omega⟩
          clear hkp hup HI
          go_wp2_with fail
          refine Calls.mono (bk_Up HB7.out) ?_
          rintro e w8 ⟨rfl, rfl⟩
          cases hdn : T'.down with
          | true =>
            have HB9 := Lib.hid (HB7.out.less (R' := fun k => k = Bk) (fun k h => .inl h))
            clear hdn HRD
            go_wp2
            go_roundw
            case rel => exact ⟨k + 1, T', hlt, h80, by go_num, by omega, by omega, HK8, HB9, Lib.hid ⟨k0, k1⟩⟩
            case measure => simp [intOf]; omega
          | false =>
            have HR := Lib.hid (HRD.out hdn)
            clear hdn HRD
            go_wp2_with fail
            refine Calls.mono (st_read HB7.out HU7.out (kd : Int) (ka : Int) HR.out) ?_
            rintro e w8 ⟨rfl, hb8, hk8⟩
            have HB8 := Lib.hid hb8
            replace k0 := hk8.cell' k0
            replace k1 := hk8.cell' k1
            clear hb8 hk8 HB7
            go_wp2_with (refine stop_at (o := ⟨some 12, _, _, _, _, _⟩) ?_)
            refine Stop.mk ?_
            refine wpList_new_row rfl rfl _ _ rfl rfl ty_sec (u8s zeroB) zero_sec (by rw [u8s_length, zeroB_length]) (u8s (secN n0)) rfl (by rw [u8s_length, secN_len]) (u8s_one _) rfl ?_
            intro w9 hz9 hs9 hk9
            have HB9 := Lib.hid (HB8.out.kept hk9).1
            replace k0 := hk9.cell' k0
            replace k1 := hk9.cell' k1
            generalize w8.heap.size = Bx at *
            have hX : Cells w9 Bx 0 (u8s (secN n0)) := by simpa using Cells.of_block hz9.out
            clear hz9 hs9 hk9 HB8
            go_upto_region 28 with fail
            have hS : Cells w9.drew Bx 0 (u8s (secN n0)) := hX
            refine wp_region_calm ?_
            refine wp_region_E (fun W => Cells W Bx 0 (u8s (secN n0))) 100 (by kernel_rfl) ?_
            refine wpAnyE_take (i := 0) (v := .agg (u8s (secN n0)).toArray) (listed' := #[true, false, false, false, false, false, false, false]) (by rfl) (by kernel_rfl) (by kernel_rfl) calm_put hS (by rfl) ?_ ?_
            · intro W hW; skip; exact exec_load_sec _ rfl Bx rfl (secN n0) (secN_len n0) hW
            simp only [Act.put, List.getElem_toArray, List.getElem_cons_succ, List.getElem_cons_zero, List.setIfInBounds_toArray, List.set_cons_zero, List.set_cons_succ]
            refine wpAnyE_take (i := 1) (v := ?_) (listed' := #[true, true, false, false, false, false, false, false]) (by rfl) (by kernel_rfl) (by kernel_rfl) calm_put hS (by rfl) ?_ ?_
            rotate_left
            · intro W hW; clear hW; go_simp; try (with_reducible rfl)
            simp only [Act.put, List.getElem_toArray, List.getElem_cons_succ, List.getElem_cons_zero, List.setIfInBounds_toArray, List.set_cons_zero, List.set_cons_succ]
            refine wpAnyE_one (i := 2) (listed' := #[true, true, true, false, false, false, false, false]) (by rfl) (by kernel_rfl) (by kernel_rfl) (by rfl) (fun K hK => ?_)
            simp only [Act.put, List.getElem_toArray, List.getElem_cons_succ, List.getElem_cons_zero, List.setIfInBounds_toArray, List.set_cons_zero, List.set_cons_succ]
            go_wp2_with fail
            refine Calls.mono (law_sector n0 _) ?_
            rintro e w10 ⟨rfl, hks⟩
            have hS := hS.kept hks
            refine hK _ _ (fun _ => hS) ?_; clear hK K
            refine wpAnyE_take (i := 3) (v := .bool false) (listed' := #[true, true, true, true, false, false, false, false]) (by rfl) (by kernel_rfl) (by kernel_rfl) calm_put hS (by rfl) ?_ ?_
            · intro W hW; clear hW; exact exec_cmp_secN _ _ rfl (secN n0) (secN_len n0) rfl rfl
            simp only [Act.put, List.getElem_toArray, List.getElem_cons_succ, List.getElem_cons_zero, List.setIfInBounds_toArray, List.set_cons_zero, List.set_cons_succ]
            refine wpAnyE_take (i := 4) (v := ?_) (listed' := #[true, true, true, true, true, false, false, false]) (by rfl) (by kernel_rfl) (by kernel_rfl) calm_put hS (by rfl) ?_ ?_
            rotate_left
            · intro W hW; clear hW; go_simp; try (with_reducible rfl)
            simp only [Act.put, List.getElem_toArray, List.getElem_cons_succ, List.getElem_cons_zero, List.setIfInBounds_toArray, List.set_cons_zero, List.set_cons_succ]
            refine wpAnyE_take (i := 5) (v := ?_) (listed' := #[true, true, true, true, true, true, false, false]) (by rfl) (by kernel_rfl) (by kernel_rfl) calm_put hS (by rfl) ?_ ?_
            rotate_left
            · intro W hW; clear hW; go_simp; try (with_reducible rfl)
            simp only [Act.put, List.getElem_toArray, List.getElem_cons_succ, List.getElem_cons_zero, List.setIfInBounds_toArray, List.set_cons_zero, List.set_cons_succ]
            refine wpAnyE_take (i := 6) (v := ?_) (listed' := #[true, true, true, true, true, true, true, false]) (by rfl) (by kernel_rfl) (by kernel_rfl) calm_put hS (by rfl) ?_ ?_
            rotate_left
            · intro W hW; clear hW; go_simp; try (with_reducible rfl)
            simp only [Act.put, List.getElem_toArray, List.getElem_cons_succ, List.getElem_cons_zero, List.setIfInBounds_toArray, List.set_cons_zero, List.set_cons_succ]
            refine wpAnyE_take (i := 7) (v := ?_) (listed' := #[true, true, true, true, true, true, true, true]) (by rfl) (by kernel_rfl) (by kernel_rfl) calm_put hS (by rfl) ?_ ?_
            rotate_left
            · intro W hW; clear hW; go_simp; try (with_reducible rfl)
            simp only [Act.put, List.getElem_toArray, List.getElem_cons_succ, List.getElem_cons_zero, List.setIfInBounds_toArray, List.set_cons_zero, List.set_cons_succ]
            refine wpAnyE_done (by kernel_rfl) ?_ _
            refine calm_normal ?_
            have HB10 := Lib.hid ((HB9.out.kept ((Kept.refl _).drew.trans hks)).1.less (R' := fun k => k = Bk) (fun k h => .inl h))
            replace k0 := ((Kept.refl _).drew.trans hks).cell' k0
            replace k1 := ((Kept.refl _).drew.trans hks).cell' k1
            clear hks hS hX HB9
            go_wp2
            go_roundw
            case rel => exact ⟨k + 1, T', hlt, h80, by go_num, by omega, by omega, HK8, HB10, Lib.hid ⟨k0, k1⟩⟩
            case measure => simp [intOf]; omega

        · skip
          go_wp2_with fail
          refine Calls.mono (bk_Start HB5.out) ?_
          rintro e w7 ⟨rfl, hb7, hr7⟩
          have HB7' := hb7
          have k0 := (World.cell?_of_block (a := ⟨Bk, 0, none⟩) (hr7 Bk (.inl rfl))).trans q0
          have k1 := (World.cell?_of_block (a := ⟨Bk, 1, none⟩) (hr7 Bk (.inl rfl))).trans q1
          have hkp : KpI kd ka (secN n0) (T.start) := HI.out.start
          have hcb := start_rest T
          clear hb7 hr7
          obtain ⟨T', hT'⟩ : ∃ T', T' = T.start := ⟨_, rfl⟩
          rw [← hT'] at HB7' hkp hcb
          have HB7 := Lib.hid HB7'
          obtain ⟨hcb1, hcb2⟩ := hcb
          clear HB7' hT'
          clear p0 p1 HB5 c0q
          have HK8 := Lib.hid hkp
          have hup := KpI.read (T := T') hkp hkd3 hka8
          have HRD := Lib.hid hup
          have HU7 : Hid T'.Use := Lib.hid ⟨hkp.inv, by rw [hkp.len]; decide, by omega, by omega⟩
          clear hkp hup HI
          go_wp2_with fail
          refine Calls.mono (bk_Up HB7.out) ?_
          rintro e w8 ⟨rfl, rfl⟩
          cases hdn : T'.down with
          | true =>
            have HB9 := Lib.hid (HB7.out.less (R' := fun k => k = Bk) (fun k h => .inl h))
            clear hdn HRD
            go_wp2
            go_roundw
            case rel => exact ⟨k + 1, T', hlt, h80, by go_num, by omega, by omega, HK8, HB9, Lib.hid ⟨k0, k1⟩⟩
            case measure => simp [intOf]; omega
          | false =>
            have HR := Lib.hid (HRD.out hdn)
            clear hdn HRD
            go_wp2_with fail
            refine Calls.mono (st_read HB7.out HU7.out (kd : Int) (ka : Int) HR.out) ?_
            rintro e w8 ⟨rfl, hb8, hk8⟩
            have HB8 := Lib.hid hb8
            replace k0 := hk8.cell' k0
            replace k1 := hk8.cell' k1
            clear hb8 hk8 HB7
            go_wp2_with (refine stop_at (o := ⟨some 12, _, _, _, _, _⟩) ?_)
            refine Stop.mk ?_
            refine wpList_new_row rfl rfl _ _ rfl rfl ty_sec (u8s zeroB) zero_sec (by rw [u8s_length, zeroB_length]) (u8s (secN n0)) rfl (by rw [u8s_length, secN_len]) (u8s_one _) rfl ?_
            intro w9 hz9 hs9 hk9
            have HB9 := Lib.hid (HB8.out.kept hk9).1
            replace k0 := hk9.cell' k0
            replace k1 := hk9.cell' k1
            generalize w8.heap.size = Bx at *
            have hX : Cells w9 Bx 0 (u8s (secN n0)) := by simpa using Cells.of_block hz9.out
            clear hz9 hs9 hk9 HB8
            go_upto_region 28 with fail
            have hS : Cells w9.drew Bx 0 (u8s (secN n0)) := hX
            refine wp_region_calm ?_
            refine wp_region_E (fun W => Cells W Bx 0 (u8s (secN n0))) 100 (by kernel_rfl) ?_
            refine wpAnyE_take (i := 0) (v := .agg (u8s (secN n0)).toArray) (listed' := #[true, false, false, false, false, false, false, false]) (by rfl) (by kernel_rfl) (by kernel_rfl) calm_put hS (by rfl) ?_ ?_
            · intro W hW; skip; exact exec_load_sec _ rfl Bx rfl (secN n0) (secN_len n0) hW
            simp only [Act.put, List.getElem_toArray, List.getElem_cons_succ, List.getElem_cons_zero, List.setIfInBounds_toArray, List.set_cons_zero, List.set_cons_succ]
            refine wpAnyE_take (i := 1) (v := ?_) (listed' := #[true, true, false, false, false, false, false, false]) (by rfl) (by kernel_rfl) (by kernel_rfl) calm_put hS (by rfl) ?_ ?_
            rotate_left
            · intro W hW; clear hW; go_simp; try (with_reducible rfl)
            simp only [Act.put, List.getElem_toArray, List.getElem_cons_succ, List.getElem_cons_zero, List.setIfInBounds_toArray, List.set_cons_zero, List.set_cons_succ]
            refine wpAnyE_one (i := 2) (listed' := #[true, true, true, false, false, false, false, false]) (by rfl) (by kernel_rfl) (by kernel_rfl) (by rfl) (fun K hK => ?_)
            simp only [Act.put, List.getElem_toArray, List.getElem_cons_succ, List.getElem_cons_zero, List.setIfInBounds_toArray, List.set_cons_zero, List.set_cons_succ]
            go_wp2_with fail
            refine Calls.mono (law_sector n0 _) ?_
            rintro e w10 ⟨rfl, hks⟩
            have hS := hS.kept hks
            refine hK _ _ (fun _ => hS) ?_; clear hK K
            refine wpAnyE_take (i := 3) (v := .bool false) (listed' := #[true, true, true, true, false, false, false, false]) (by rfl) (by kernel_rfl) (by kernel_rfl) calm_put hS (by rfl) ?_ ?_
            · intro W hW; clear hW; exact exec_cmp_secN _ _ rfl (secN n0) (secN_len n0) rfl rfl
            simp only [Act.put, List.getElem_toArray, List.getElem_cons_succ, List.getElem_cons_zero, List.setIfInBounds_toArray, List.set_cons_zero, List.set_cons_succ]
            refine wpAnyE_take (i := 4) (v := ?_) (listed' := #[true, true, true, true, true, false, false, false]) (by rfl) (by kernel_rfl) (by kernel_rfl) calm_put hS (by rfl) ?_ ?_
            rotate_left
            · intro W hW; clear hW; go_simp; try (with_reducible rfl)
            simp only [Act.put, List.getElem_toArray, List.getElem_cons_succ, List.getElem_cons_zero, List.setIfInBounds_toArray, List.set_cons_zero, List.set_cons_succ]
            refine wpAnyE_take (i := 5) (v := ?_) (listed' := #[true, true, true, true, true, true, false, false]) (by rfl) (by kernel_rfl) (by kernel_rfl) calm_put hS (by rfl) ?_ ?_
            rotate_left
            · intro W hW; clear hW; go_simp; try (with_reducible rfl)
            simp only [Act.put, List.getElem_toArray, List.getElem_cons_succ, List.getElem_cons_zero, List.setIfInBounds_toArray, List.set_cons_zero, List.set_cons_succ]
            refine wpAnyE_take (i := 6) (v := ?_) (listed' := #[true, true, true, true, true, true, true, false]) (by rfl) (by kernel_rfl) (by kernel_rfl) calm_put hS (by rfl) ?_ ?_
            rotate_left
            · intro W hW; clear hW; go_simp; try (with_reducible rfl)
            simp only [Act.put, List.getElem_toArray, List.getElem_cons_succ, List.getElem_cons_zero, List.setIfInBounds_toArray, List.set_cons_zero, List.set_cons_succ]
            refine wpAnyE_take (i := 7) (v := ?_) (listed' := #[true, true, true, true, true, true, true, true]) (by rfl) (by kernel_rfl) (by kernel_rfl) calm_put hS (by rfl) ?_ ?_
            rotate_left
            · intro W hW; clear hW; go_simp; try (with_reducible rfl)
            simp only [Act.put, List.getElem_toArray, List.getElem_cons_succ, List.getElem_cons_zero, List.setIfInBounds_toArray, List.set_cons_zero, List.set_cons_succ]
            refine wpAnyE_done (by kernel_rfl) ?_ _
            refine calm_normal ?_
            have HB10 := Lib.hid ((HB9.out.kept ((Kept.refl _).drew.trans hks)).1.less (R' := fun k => k = Bk) (fun k h => .inl h))
            replace k0 := ((Kept.refl _).drew.trans hks).cell' k0
            replace k1 := ((Kept.refl _).drew.trans hks).cell' k1
            clear hks hS hX HB9
            go_wp2
            go_roundw
            case rel => exact ⟨k + 1, T', hlt, h80, by go_num, by omega, by omega, HK8, HB10, Lib.hid ⟨k0, k1⟩⟩
            case measure => simp [intOf]; omega

        · by_cases hdk : d = kd
          · have hbe : ((d : Int) == (kd : Int)) = true := by simp [hdk]
            go_upto_region 26 with fail
            have k0 := q0
            have k1 := q1
            have HB7 := HB5
            obtain ⟨w7, hw7⟩ : ∃ w7, w7 = wq := ⟨_, rfl⟩
            obtain ⟨T', hT'⟩ : ∃ T', T' = T := ⟨_, rfl⟩
            have hkp : KpI kd ka (secN n0) T' := hT' ▸ HI.out
            have hcb1 : T'.clock ≤ T.clock + 1 := by rw [hT']; omega
            have hcb2 : T'.writes ≤ T.writes + 1 := by rw [hT']; omega
            rw [← hT'] at HB7
            clear hT'
            clear p0 p1 HB5 c0q
            have HK8 := Lib.hid hkp
            have hup := KpI.read (T := T') hkp hkd3 hka8
            have HRD := Lib.hid hup
            have HU7 : Hid T'.Use := Lib.hid ⟨hkp.inv, by rw [hkp.len]; decide, by omega, by omega⟩
            clear hkp hup HI
            go_wp2_with fail
            refine Calls.mono (bk_Up HB7.out) ?_
            rintro e w8 ⟨rfl, rfl⟩
            cases hdn : T'.down with
            | true =>
              have HB9 := Lib.hid (HB7.out.less (R' := fun k => k = Bk) (fun k h => .inl h))
              clear hdn HRD
              go_wp2
              go_roundw
              case rel => exact ⟨k + 1, T', hlt, h80, by go_num, by omega, by omega, HK8, HB9, Lib.hid ⟨k0, k1⟩⟩
              case measure => simp [intOf]; omega
            | false =>
              have HR := Lib.hid (HRD.out hdn)
              clear hdn HRD
              go_wp2_with fail
              refine Calls.mono (st_read HB7.out HU7.out (kd : Int) (ka : Int) HR.out) ?_
              rintro e w8 ⟨rfl, hb8, hk8⟩
              have HB8 := Lib.hid hb8
              replace k0 := hk8.cell' k0
              replace k1 := hk8.cell' k1
              clear hb8 hk8 HB7
              go_wp2_with (refine stop_at (o := ⟨some 12, _, _, _, _, _⟩) ?_)
              refine Stop.mk ?_
              refine wpList_new_row rfl rfl _ _ rfl rfl ty_sec (u8s zeroB) zero_sec (by rw [u8s_length, zeroB_length]) (u8s (secN n0)) rfl (by rw [u8s_length, secN_len]) (u8s_one _) rfl ?_
              intro w9 hz9 hs9 hk9
              have HB9 := Lib.hid (HB8.out.kept hk9).1
              replace k0 := hk9.cell' k0
              replace k1 := hk9.cell' k1
              generalize w8.heap.size = Bx at *
              have hX : Cells w9 Bx 0 (u8s (secN n0)) := by simpa using Cells.of_block hz9.out
              clear hz9 hs9 hk9 HB8
              go_upto_region 28 with fail
              have hS : Cells w9.drew Bx 0 (u8s (secN n0)) := hX
              refine wp_region_calm ?_
              refine wp_region_E (fun W => Cells W Bx 0 (u8s (secN n0))) 100 (by kernel_rfl) ?_
              refine wpAnyE_take (i := 0) (v := .agg (u8s (secN n0)).toArray) (listed' := #[true, false, false, false, false, false, false, false]) (by rfl) (by kernel_rfl) (by kernel_rfl) calm_put hS (by rfl) ?_ ?_
              · intro W hW; skip; exact exec_load_sec _ rfl Bx rfl (secN n0) (secN_len n0) hW
              simp only [Act.put, List.getElem_toArray, List.getElem_cons_succ, List.getElem_cons_zero, List.setIfInBounds_toArray, List.set_cons_zero, List.set_cons_succ]
              refine wpAnyE_take (i := 1) (v := ?_) (listed' := #[true, true, false, false, false, false, false, false]) (by rfl) (by kernel_rfl) (by kernel_rfl) calm_put hS (by rfl) ?_ ?_
              rotate_left
              · intro W hW; clear hW; go_simp; try (with_reducible rfl)
              simp only [Act.put, List.getElem_toArray, List.getElem_cons_succ, List.getElem_cons_zero, List.setIfInBounds_toArray, List.set_cons_zero, List.set_cons_succ]
              refine wpAnyE_one (i := 2) (listed' := #[true, true, true, false, false, false, false, false]) (by rfl) (by kernel_rfl) (by kernel_rfl) (by rfl) (fun K hK => ?_)
              simp only [Act.put, List.getElem_toArray, List.getElem_cons_succ, List.getElem_cons_zero, List.setIfInBounds_toArray, List.set_cons_zero, List.set_cons_succ]
              go_wp2_with fail
              refine Calls.mono (law_sector n0 _) ?_
              rintro e w10 ⟨rfl, hks⟩
              have hS := hS.kept hks
              refine hK _ _ (fun _ => hS) ?_; clear hK K
              refine wpAnyE_take (i := 3) (v := .bool false) (listed' := #[true, true, true, true, false, false, false, false]) (by rfl) (by kernel_rfl) (by kernel_rfl) calm_put hS (by rfl) ?_ ?_
              · intro W hW; clear hW; exact exec_cmp_secN _ _ rfl (secN n0) (secN_len n0) rfl rfl
              simp only [Act.put, List.getElem_toArray, List.getElem_cons_succ, List.getElem_cons_zero, List.setIfInBounds_toArray, List.set_cons_zero, List.set_cons_succ]
              refine wpAnyE_take (i := 4) (v := ?_) (listed' := #[true, true, true, true, true, false, false, false]) (by rfl) (by kernel_rfl) (by kernel_rfl) calm_put hS (by rfl) ?_ ?_
              rotate_left
              · intro W hW; clear hW; go_simp; try (with_reducible rfl)
              simp only [Act.put, List.getElem_toArray, List.getElem_cons_succ, List.getElem_cons_zero, List.setIfInBounds_toArray, List.set_cons_zero, List.set_cons_succ]
              refine wpAnyE_take (i := 5) (v := ?_) (listed' := #[true, true, true, true, true, true, false, false]) (by rfl) (by kernel_rfl) (by kernel_rfl) calm_put hS (by rfl) ?_ ?_
              rotate_left
              · intro W hW; clear hW; go_simp; try (with_reducible rfl)
              simp only [Act.put, List.getElem_toArray, List.getElem_cons_succ, List.getElem_cons_zero, List.setIfInBounds_toArray, List.set_cons_zero, List.set_cons_succ]
              refine wpAnyE_take (i := 6) (v := ?_) (listed' := #[true, true, true, true, true, true, true, false]) (by rfl) (by kernel_rfl) (by kernel_rfl) calm_put hS (by rfl) ?_ ?_
              rotate_left
              · intro W hW; clear hW; go_simp; try (with_reducible rfl)
              simp only [Act.put, List.getElem_toArray, List.getElem_cons_succ, List.getElem_cons_zero, List.setIfInBounds_toArray, List.set_cons_zero, List.set_cons_succ]
              refine wpAnyE_take (i := 7) (v := ?_) (listed' := #[true, true, true, true, true, true, true, true]) (by rfl) (by kernel_rfl) (by kernel_rfl) calm_put hS (by rfl) ?_ ?_
              rotate_left
              · intro W hW; clear hW; go_simp; try (with_reducible rfl)
              simp only [Act.put, List.getElem_toArray, List.getElem_cons_succ, List.getElem_cons_zero, List.setIfInBounds_toArray, List.set_cons_zero, List.set_cons_succ]
              refine wpAnyE_done (by kernel_rfl) ?_ _
              refine calm_normal ?_
              have HB10 := Lib.hid ((HB9.out.kept ((Kept.refl _).drew.trans hks)).1.less (R' := fun k => k = Bk) (fun k h => .inl h))
              replace k0 := ((Kept.refl _).drew.trans hks).cell' k0
              replace k1 := ((Kept.refl _).drew.trans hks).cell' k1
              clear hks hS hX HB9
              go_wp2
              go_roundw
              case rel => exact ⟨k + 1, T', hlt, h80, by go_num, by omega, by omega, HK8, HB10, Lib.hid ⟨k0, k1⟩⟩
              case measure => simp [intOf]; omega

          · have hbe : ((d : Int) == (kd : Int)) = false := by simp; omega
            go_wp2_with fail
            refine Calls.mono (bk_Fail HB5.out HU.out (d : Int)) ?_
            rintro e w7 ⟨rfl, hb7, hr7⟩
            have HB7' := hb7
            have k0 := (World.cell?_of_block (a := ⟨Bk, 0, none⟩) (hr7 Bk (.inl rfl))).trans q0
            have k1 := (World.cell?_of_block (a := ⟨Bk, 1, none⟩) (hr7 Bk (.inl rfl))).trans q1
            have hkp : KpI kd ka (secN n0) ((T.failC (d : Int)).1) := HI.out.fell d hd3 hdk
            have hcb := failC_rest T (d : Int)
            clear hb7 hr7
            obtain ⟨T', hT'⟩ : ∃ T', T' = (T.failC (d : Int)).1 := ⟨_, rfl⟩
            rw [← hT'] at HB7' hkp hcb
            have HB7 := Lib.hid HB7'
            obtain ⟨hcb1, hcb2⟩ := hcb
            clear HB7' hT'
            clear p0 p1 HB5 c0q
            have HK8 := Lib.hid hkp
            have hup := KpI.read (T := T') hkp hkd3 hka8
            have HRD := Lib.hid hup
            have HU7 : Hid T'.Use := Lib.hid ⟨hkp.inv, by rw [hkp.len]; decide, by omega, by omega⟩
            clear hkp hup HI
            go_wp2_with fail
            refine Calls.mono (bk_Up HB7.out) ?_
            rintro e w8 ⟨rfl, rfl⟩
            cases hdn : T'.down with
            | true =>
              have HB9 := Lib.hid (HB7.out.less (R' := fun k => k = Bk) (fun k h => .inl h))
              clear hdn HRD
              go_wp2
              go_roundw
              case rel => exact ⟨k + 1, T', hlt, h80, by go_num, by omega, by omega, HK8, HB9, Lib.hid ⟨k0, k1⟩⟩
              case measure => simp [intOf]; omega
            | false =>
              have HR := Lib.hid (HRD.out hdn)
              clear hdn HRD
              go_wp2_with fail
              refine Calls.mono (st_read HB7.out HU7.out (kd : Int) (ka : Int) HR.out) ?_
              rintro e w8 ⟨rfl, hb8, hk8⟩
              have HB8 := Lib.hid hb8
              replace k0 := hk8.cell' k0
              replace k1 := hk8.cell' k1
              clear hb8 hk8 HB7
              go_wp2_with (refine stop_at (o := ⟨some 12, _, _, _, _, _⟩) ?_)
              refine Stop.mk ?_
              refine wpList_new_row rfl rfl _ _ rfl rfl ty_sec (u8s zeroB) zero_sec (by rw [u8s_length, zeroB_length]) (u8s (secN n0)) rfl (by rw [u8s_length, secN_len]) (u8s_one _) rfl ?_
              intro w9 hz9 hs9 hk9
              have HB9 := Lib.hid (HB8.out.kept hk9).1
              replace k0 := hk9.cell' k0
              replace k1 := hk9.cell' k1
              generalize w8.heap.size = Bx at *
              have hX : Cells w9 Bx 0 (u8s (secN n0)) := by simpa using Cells.of_block hz9.out
              clear hz9 hs9 hk9 HB8
              go_upto_region 28 with fail
              have hS : Cells w9.drew Bx 0 (u8s (secN n0)) := hX
              refine wp_region_calm ?_
              refine wp_region_E (fun W => Cells W Bx 0 (u8s (secN n0))) 100 (by kernel_rfl) ?_
              refine wpAnyE_take (i := 0) (v := .agg (u8s (secN n0)).toArray) (listed' := #[true, false, false, false, false, false, false, false]) (by rfl) (by kernel_rfl) (by kernel_rfl) calm_put hS (by rfl) ?_ ?_
              · intro W hW; skip; exact exec_load_sec _ rfl Bx rfl (secN n0) (secN_len n0) hW
              simp only [Act.put, List.getElem_toArray, List.getElem_cons_succ, List.getElem_cons_zero, List.setIfInBounds_toArray, List.set_cons_zero, List.set_cons_succ]
              refine wpAnyE_take (i := 1) (v := ?_) (listed' := #[true, true, false, false, false, false, false, false]) (by rfl) (by kernel_rfl) (by kernel_rfl) calm_put hS (by rfl) ?_ ?_
              rotate_left
              · intro W hW; clear hW; go_simp; try (with_reducible rfl)
              simp only [Act.put, List.getElem_toArray, List.getElem_cons_succ, List.getElem_cons_zero, List.setIfInBounds_toArray, List.set_cons_zero, List.set_cons_succ]
              refine wpAnyE_one (i := 2) (listed' := #[true, true, true, false, false, false, false, false]) (by rfl) (by kernel_rfl) (by kernel_rfl) (by rfl) (fun K hK => ?_)
              simp only [Act.put, List.getElem_toArray, List.getElem_cons_succ, List.getElem_cons_zero, List.setIfInBounds_toArray, List.set_cons_zero, List.set_cons_succ]
              go_wp2_with fail
              refine Calls.mono (law_sector n0 _) ?_
              rintro e w10 ⟨rfl, hks⟩
              have hS := hS.kept hks
              refine hK _ _ (fun _ => hS) ?_; clear hK K
              refine wpAnyE_take (i := 3) (v := .bool false) (listed' := #[true, true, true, true, false, false, false, false]) (by rfl) (by kernel_rfl) (by kernel_rfl) calm_put hS (by rfl) ?_ ?_
              · intro W hW; clear hW; exact exec_cmp_secN _ _ rfl (secN n0) (secN_len n0) rfl rfl
              simp only [Act.put, List.getElem_toArray, List.getElem_cons_succ, List.getElem_cons_zero, List.setIfInBounds_toArray, List.set_cons_zero, List.set_cons_succ]
              refine wpAnyE_take (i := 4) (v := ?_) (listed' := #[true, true, true, true, true, false, false, false]) (by rfl) (by kernel_rfl) (by kernel_rfl) calm_put hS (by rfl) ?_ ?_
              rotate_left
              · intro W hW; clear hW; go_simp; try (with_reducible rfl)
              simp only [Act.put, List.getElem_toArray, List.getElem_cons_succ, List.getElem_cons_zero, List.setIfInBounds_toArray, List.set_cons_zero, List.set_cons_succ]
              refine wpAnyE_take (i := 5) (v := ?_) (listed' := #[true, true, true, true, true, true, false, false]) (by rfl) (by kernel_rfl) (by kernel_rfl) calm_put hS (by rfl) ?_ ?_
              rotate_left
              · intro W hW; clear hW; go_simp; try (with_reducible rfl)
              simp only [Act.put, List.getElem_toArray, List.getElem_cons_succ, List.getElem_cons_zero, List.setIfInBounds_toArray, List.set_cons_zero, List.set_cons_succ]
              refine wpAnyE_take (i := 6) (v := ?_) (listed' := #[true, true, true, true, true, true, true, false]) (by rfl) (by kernel_rfl) (by kernel_rfl) calm_put hS (by rfl) ?_ ?_
              rotate_left
              · intro W hW; clear hW; go_simp; try (with_reducible rfl)
              simp only [Act.put, List.getElem_toArray, List.getElem_cons_succ, List.getElem_cons_zero, List.setIfInBounds_toArray, List.set_cons_zero, List.set_cons_succ]
              refine wpAnyE_take (i := 7) (v := ?_) (listed' := #[true, true, true, true, true, true, true, true]) (by rfl) (by kernel_rfl) (by kernel_rfl) calm_put hS (by rfl) ?_ ?_
              rotate_left
              · intro W hW; clear hW; go_simp; try (with_reducible rfl)
              simp only [Act.put, List.getElem_toArray, List.getElem_cons_succ, List.getElem_cons_zero, List.setIfInBounds_toArray, List.set_cons_zero, List.set_cons_succ]
              refine wpAnyE_done (by kernel_rfl) ?_ _
              refine calm_normal ?_
              have HB10 := Lib.hid ((HB9.out.kept ((Kept.refl _).drew.trans hks)).1.less (R' := fun k => k = Bk) (fun k h => .inl h))
              replace k0 := ((Kept.refl _).drew.trans hks).cell' k0
              replace k1 := ((Kept.refl _).drew.trans hks).cell' k1
              clear hks hS hX HB9
              go_wp2
              go_roundw
              case rel => exact ⟨k + 1, T', hlt, h80, by go_num, by omega, by omega, HK8, HB10, Lib.hid ⟨k0, k1⟩⟩
              case measure => simp [intOf]; omega

        · go_upto_region 25 with fail
          have hS : wq.drew.cell? ⟨b, off + k * 5 + 3, none⟩ = some (.int .i64 xn) ∧ wq.drew.cell? ⟨b, off + k * 5 + 4, none⟩ = some (.int .u64 xm) := ⟨c3q, c4q⟩
          refine wp_region_calm ?_
          refine wp_region_E (fun W => W.cell? ⟨b, off + k * 5 + 3, none⟩ = some (.int .i64 xn) ∧ W.cell? ⟨b, off + k * 5 + 4, none⟩ = some (.int .u64 xm)) 100 (by kernel_rfl) ?_
          refine wpAnyE_take (i := 0) (v := ?_) (listed' := #[true, false, false, false, false, false, false, false, false, false, false, false]) (by rfl) (by kernel_rfl) (by kernel_rfl) calm_put hS (by rfl) ?_ ?_
          rotate_left
          · intro W hW; clear hW; go_simp; try (with_reducible rfl)
          simp only [Act.put, List.getElem_toArray, List.getElem_cons_succ, List.getElem_cons_zero, List.setIfInBounds_toArray, List.set_cons_zero, List.set_cons_succ]
          refine wpAnyE_take (i := 1) (v := ?_) (listed' := #[true, true, false, false, false, false, false, false, false, false, false, false]) (by rfl) (by kernel_rfl) (by kernel_rfl) calm_put hS (by rfl) ?_ ?_
          rotate_left
          · intro W hW; clear hW; go_simp; try (with_reducible rfl)
          simp only [Act.put, List.getElem_toArray, List.getElem_cons_succ, List.getElem_cons_zero, List.setIfInBounds_toArray, List.set_cons_zero, List.set_cons_succ]
          refine wpAnyE_take (i := 2) (v := ?_) (listed' := #[true, true, true, false, false, false, false, false, false, false, false, false]) (by rfl) (by kernel_rfl) (by kernel_rfl) calm_put hS (by rfl) ?_ ?_
          rotate_left
          · intro W hW; clear hW; go_simp; try (with_reducible rfl)
          simp only [Act.put, List.getElem_toArray, List.getElem_cons_succ, List.getElem_cons_zero, List.setIfInBounds_toArray, List.set_cons_zero, List.set_cons_succ]
          refine wpAnyE_take (i := 3) (v := ?_) (listed' := #[true, true, true, true, false, false, false, false, false, false, false, false]) (by rfl) (by kernel_rfl) (by kernel_rfl) calm_put hS (by rfl) ?_ ?_
          rotate_left
          · intro W hW; clear hW; go_simp; try (with_reducible rfl)
          simp only [Act.put, List.getElem_toArray, List.getElem_cons_succ, List.getElem_cons_zero, List.setIfInBounds_toArray, List.set_cons_zero, List.set_cons_succ]
          refine wpAnyE_take (i := 4) (v := ?_) (listed' := #[true, true, true, true, true, false, false, false, false, false, false, false]) (by rfl) (by kernel_rfl) (by kernel_rfl) calm_put hS (by rfl) ?_ ?_
          rotate_left
          · intro W hW; clear hW; go_simp; try (with_reducible rfl)
          simp only [Act.put, List.getElem_toArray, List.getElem_cons_succ, List.getElem_cons_zero, List.setIfInBounds_toArray, List.set_cons_zero, List.set_cons_succ]
          refine wpAnyE_take (i := 5) (v := ?_) (listed' := #[true, true, true, true, true, true, false, false, false, false, false, false]) (by rfl) (by kernel_rfl) (by kernel_rfl) calm_put hS (by rfl) ?_ ?_
          rotate_left
          · intro W hW; obtain ⟨c3, c4⟩ := hW; go_simp; try (with_reducible rfl)
          simp only [Act.put, List.getElem_toArray, List.getElem_cons_succ, List.getElem_cons_zero, List.setIfInBounds_toArray, List.set_cons_zero, List.set_cons_succ]
          refine wpAnyE_take (i := 6) (v := ?_) (listed' := #[true, true, true, true, true, true, true, false, false, false, false, false]) (by rfl) (by kernel_rfl) (by kernel_rfl) calm_put hS (by rfl) ?_ ?_
          rotate_left
          · intro W hW; clear hW; go_simp; try (with_reducible rfl)
          simp only [Act.put, List.getElem_toArray, List.getElem_cons_succ, List.getElem_cons_zero, List.setIfInBounds_toArray, List.set_cons_zero, List.set_cons_succ]
          refine wpAnyE_take (i := 7) (v := ?_) (listed' := #[true, true, true, true, true, true, true, true, false, false, false, false]) (by rfl) (by kernel_rfl) (by kernel_rfl) calm_put hS (by rfl) ?_ ?_
          rotate_left
          · intro W hW; clear hW; go_simp; try (with_reducible rfl)
          simp only [Act.put, List.getElem_toArray, List.getElem_cons_succ, List.getElem_cons_zero, List.setIfInBounds_toArray, List.set_cons_zero, List.set_cons_succ]
          refine wpAnyE_take (i := 8) (v := ?_) (listed' := #[true, true, true, true, true, true, true, true, true, false, false, false]) (by rfl) (by kernel_rfl) (by kernel_rfl) calm_put hS (by rfl) ?_ ?_
          rotate_left
          · intro W hW; clear hW; go_simp; try (with_reducible rfl)
          simp only [Act.put, List.getElem_toArray, List.getElem_cons_succ, List.getElem_cons_zero, List.setIfInBounds_toArray, List.set_cons_zero, List.set_cons_succ]
          refine wpAnyE_take (i := 9) (v := ?_) (listed' := #[true, true, true, true, true, true, true, true, true, true, false, false]) (by rfl) (by kernel_rfl) (by kernel_rfl) calm_put hS (by rfl) ?_ ?_
          rotate_left
          · intro W hW; clear hW; go_simp; try (with_reducible rfl)
          simp only [Act.put, List.getElem_toArray, List.getElem_cons_succ, List.getElem_cons_zero, List.setIfInBounds_toArray, List.set_cons_zero, List.set_cons_succ]
          refine wpAnyE_take (i := 10) (v := ?_) (listed' := #[true, true, true, true, true, true, true, true, true, true, true, false]) (by rfl) (by kernel_rfl) (by kernel_rfl) calm_put hS (by rfl) ?_ ?_
          rotate_left
          · intro W hW; obtain ⟨c3, c4⟩ := hW; go_simp; try (with_reducible rfl)
          simp only [Act.put, List.getElem_toArray, List.getElem_cons_succ, List.getElem_cons_zero, List.setIfInBounds_toArray, List.set_cons_zero, List.set_cons_succ]
          refine wpAnyE_one (i := 11) (listed' := #[true, true, true, true, true, true, true, true, true, true, true, true]) (by rfl) (by kernel_rfl) (by kernel_rfl) (by rfl) (fun K hK => ?_)
          simp only [Act.put, List.getElem_toArray, List.getElem_cons_succ, List.getElem_cons_zero, List.setIfInBounds_toArray, List.set_cons_zero, List.set_cons_succ]
          go_wp2_with fail
          refine Calls.mono (bk_Arm (HB5.out.kept (Kept.refl _).drew).1 xn xm) ?_
          rintro e w7 ⟨rfl, hb7, hr7⟩
          have HB7 := Lib.hid hb7
          have hS := (⟨hb7.keeps.cell' g3, hb7.keeps.cell' g4⟩ : _ ∧ _)
          have k0 := (World.cell?_of_block (a := ⟨Bk, 0, none⟩) (hr7 Bk (.inl rfl))).trans ((Kept.refl _).drew.cell' q0)
          have k1 := (World.cell?_of_block (a := ⟨Bk, 1, none⟩) (hr7 Bk (.inl rfl))).trans ((Kept.refl _).drew.cell' q1)
          refine hK _ _ (fun _ => hS) ?_; clear hK K
          refine wpAnyE_done (by kernel_rfl) ?_ _
          refine calm_normal ?_

          have hkp : KpI kd ka (secN n0) (T.arm xn xm) := HI.out.arm xn xm g5.2 g6
          have hcb1 : (T.arm xn xm).clock ≤ T.clock + 1 := by show T.clock ≤ T.clock + 1; omega
          have hcb2 : (T.arm xn xm).writes ≤ T.writes + 1 := by show T.writes ≤ T.writes + 1; omega
          clear hb7 hr7 hS
          obtain ⟨T', hT'⟩ : ∃ T', T' = T.arm xn xm := ⟨_, rfl⟩
          rw [← hT'] at HB7 hkp hcb1 hcb2
          clear hT'
          clear p0 p1 HB5 c0q
          have HK8 := Lib.hid hkp
          have hup := KpI.read (T := T') hkp hkd3 hka8
          have HRD := Lib.hid hup
          have HU7 : Hid T'.Use := Lib.hid ⟨hkp.inv, by rw [hkp.len]; decide, by omega, by omega⟩
          clear hkp hup HI
          go_wp2_with fail
          refine Calls.mono (bk_Up HB7.out) ?_
          rintro e w8 ⟨rfl, rfl⟩
          cases hdn : T'.down with
          | true =>
            have HB9 := Lib.hid (HB7.out.less (R' := fun k => k = Bk) (fun k h => .inl h))
            clear hdn HRD
            go_wp2
            go_roundw
            case rel => exact ⟨k + 1, T', hlt, h80, by go_num, by omega, by omega, HK8, HB9, Lib.hid ⟨k0, k1⟩⟩
            case measure => simp [intOf]; omega
          | false =>
            have HR := Lib.hid (HRD.out hdn)
            clear hdn HRD
            go_wp2_with fail
            refine Calls.mono (st_read HB7.out HU7.out (kd : Int) (ka : Int) HR.out) ?_
            rintro e w8 ⟨rfl, hb8, hk8⟩
            have HB8 := Lib.hid hb8
            replace k0 := hk8.cell' k0
            replace k1 := hk8.cell' k1
            clear hb8 hk8 HB7
            go_wp2_with (refine stop_at (o := ⟨some 12, _, _, _, _, _⟩) ?_)
            refine Stop.mk ?_
            refine wpList_new_row rfl rfl _ _ rfl rfl ty_sec (u8s zeroB) zero_sec (by rw [u8s_length, zeroB_length]) (u8s (secN n0)) rfl (by rw [u8s_length, secN_len]) (u8s_one _) rfl ?_
            intro w9 hz9 hs9 hk9
            have HB9 := Lib.hid (HB8.out.kept hk9).1
            replace k0 := hk9.cell' k0
            replace k1 := hk9.cell' k1
            generalize w8.heap.size = Bx at *
            have hX : Cells w9 Bx 0 (u8s (secN n0)) := by simpa using Cells.of_block hz9.out
            clear hz9 hs9 hk9 HB8
            go_upto_region 28 with fail
            have hS : Cells w9.drew Bx 0 (u8s (secN n0)) := hX
            refine wp_region_calm ?_
            refine wp_region_E (fun W => Cells W Bx 0 (u8s (secN n0))) 100 (by kernel_rfl) ?_
            refine wpAnyE_take (i := 0) (v := .agg (u8s (secN n0)).toArray) (listed' := #[true, false, false, false, false, false, false, false]) (by rfl) (by kernel_rfl) (by kernel_rfl) calm_put hS (by rfl) ?_ ?_
            · intro W hW; skip; exact exec_load_sec _ rfl Bx rfl (secN n0) (secN_len n0) hW
            simp only [Act.put, List.getElem_toArray, List.getElem_cons_succ, List.getElem_cons_zero, List.setIfInBounds_toArray, List.set_cons_zero, List.set_cons_succ]
            refine wpAnyE_take (i := 1) (v := ?_) (listed' := #[true, true, false, false, false, false, false, false]) (by rfl) (by kernel_rfl) (by kernel_rfl) calm_put hS (by rfl) ?_ ?_
            rotate_left
            · intro W hW; clear hW; go_simp; try (with_reducible rfl)
            simp only [Act.put, List.getElem_toArray, List.getElem_cons_succ, List.getElem_cons_zero, List.setIfInBounds_toArray, List.set_cons_zero, List.set_cons_succ]
            refine wpAnyE_one (i := 2) (listed' := #[true, true, true, false, false, false, false, false]) (by rfl) (by kernel_rfl) (by kernel_rfl) (by rfl) (fun K hK => ?_)
            simp only [Act.put, List.getElem_toArray, List.getElem_cons_succ, List.getElem_cons_zero, List.setIfInBounds_toArray, List.set_cons_zero, List.set_cons_succ]
            go_wp2_with fail
            refine Calls.mono (law_sector n0 _) ?_
            rintro e w10 ⟨rfl, hks⟩
            have hS := hS.kept hks
            refine hK _ _ (fun _ => hS) ?_; clear hK K
            refine wpAnyE_take (i := 3) (v := .bool false) (listed' := #[true, true, true, true, false, false, false, false]) (by rfl) (by kernel_rfl) (by kernel_rfl) calm_put hS (by rfl) ?_ ?_
            · intro W hW; clear hW; exact exec_cmp_secN _ _ rfl (secN n0) (secN_len n0) rfl rfl
            simp only [Act.put, List.getElem_toArray, List.getElem_cons_succ, List.getElem_cons_zero, List.setIfInBounds_toArray, List.set_cons_zero, List.set_cons_succ]
            refine wpAnyE_take (i := 4) (v := ?_) (listed' := #[true, true, true, true, true, false, false, false]) (by rfl) (by kernel_rfl) (by kernel_rfl) calm_put hS (by rfl) ?_ ?_
            rotate_left
            · intro W hW; clear hW; go_simp; try (with_reducible rfl)
            simp only [Act.put, List.getElem_toArray, List.getElem_cons_succ, List.getElem_cons_zero, List.setIfInBounds_toArray, List.set_cons_zero, List.set_cons_succ]
            refine wpAnyE_take (i := 5) (v := ?_) (listed' := #[true, true, true, true, true, true, false, false]) (by rfl) (by kernel_rfl) (by kernel_rfl) calm_put hS (by rfl) ?_ ?_
            rotate_left
            · intro W hW; clear hW; go_simp; try (with_reducible rfl)
            simp only [Act.put, List.getElem_toArray, List.getElem_cons_succ, List.getElem_cons_zero, List.setIfInBounds_toArray, List.set_cons_zero, List.set_cons_succ]
            refine wpAnyE_take (i := 6) (v := ?_) (listed' := #[true, true, true, true, true, true, true, false]) (by rfl) (by kernel_rfl) (by kernel_rfl) calm_put hS (by rfl) ?_ ?_
            rotate_left
            · intro W hW; clear hW; go_simp; try (with_reducible rfl)
            simp only [Act.put, List.getElem_toArray, List.getElem_cons_succ, List.getElem_cons_zero, List.setIfInBounds_toArray, List.set_cons_zero, List.set_cons_succ]
            refine wpAnyE_take (i := 7) (v := ?_) (listed' := #[true, true, true, true, true, true, true, true]) (by rfl) (by kernel_rfl) (by kernel_rfl) calm_put hS (by rfl) ?_ ?_
            rotate_left
            · intro W hW; clear hW; go_simp; try (with_reducible rfl)
            simp only [Act.put, List.getElem_toArray, List.getElem_cons_succ, List.getElem_cons_zero, List.setIfInBounds_toArray, List.set_cons_zero, List.set_cons_succ]
            refine wpAnyE_done (by kernel_rfl) ?_ _
            refine calm_normal ?_
            have HB10 := Lib.hid ((HB9.out.kept ((Kept.refl _).drew.trans hks)).1.less (R' := fun k => k = Bk) (fun k h => .inl h))
            replace k0 := ((Kept.refl _).drew.trans hks).cell' k0
            replace k1 := ((Kept.refl _).drew.trans hks).cell' k1
            clear hks hS hX HB9
            go_wp2
            go_roundw
            case rel => exact ⟨k + 1, T', hlt, h80, by go_num, by omega, by omega, HK8, HB10, Lib.hid ⟨k0, k1⟩⟩
            case measure => simp [intOf]; omega

        · have b2 : (xk == 2) = false := by simp [n2]
          have b4 : (xk == 4) = false := by simp [n4]
          have b5 : (xk == 5) = false := by simp [n5]
          have b6 : (xk == 6) = false := by simp [n6]
          have b7 : (xk == 7) = false := by simp [n7]
          by_cases hpk : d = kd ∧ a = ka
          · have hbe : ((d : Int) == (kd : Int)) = true := by simp [hpk.1]
            have hbf : ((a : Int) == (ka : Int)) = true := by simp [hpk.2]
            have heqg := eqg_plc
            have heqp := run_equal_plc
            go_upto_region 26 with fail
            have k0 := q0
            have k1 := q1
            have HB7 := HB5
            obtain ⟨w7, hw7⟩ : ∃ w7, w7 = wq := ⟨_, rfl⟩
            obtain ⟨T', hT'⟩ : ∃ T', T' = T := ⟨_, rfl⟩
            have hkp : KpI kd ka (secN n0) T' := hT' ▸ HI.out
            have hcb1 : T'.clock ≤ T.clock + 1 := by rw [hT']; omega
            have hcb2 : T'.writes ≤ T.writes + 1 := by rw [hT']; omega
            rw [← hT'] at HB7
            clear hT'
            clear p0 p1 HB5 c0q
            have HK8 := Lib.hid hkp
            have hup := KpI.read (T := T') hkp hkd3 hka8
            have HRD := Lib.hid hup
            have HU7 : Hid T'.Use := Lib.hid ⟨hkp.inv, by rw [hkp.len]; decide, by omega, by omega⟩
            clear hkp hup HI
            go_wp2_with fail
            refine Calls.mono (bk_Up HB7.out) ?_
            rintro e w8 ⟨rfl, rfl⟩
            cases hdn : T'.down with
            | true =>
              have HB9 := Lib.hid (HB7.out.less (R' := fun k => k = Bk) (fun k h => .inl h))
              clear hdn HRD
              go_wp2
              go_roundw
              case rel => exact ⟨k + 1, T', hlt, h80, by go_num, by omega, by omega, HK8, HB9, Lib.hid ⟨k0, k1⟩⟩
              case measure => simp [intOf]; omega
            | false =>
              have HR := Lib.hid (HRD.out hdn)
              clear hdn HRD
              go_wp2_with fail
              refine Calls.mono (st_read HB7.out HU7.out (kd : Int) (ka : Int) HR.out) ?_
              rintro e w8 ⟨rfl, hb8, hk8⟩
              have HB8 := Lib.hid hb8
              replace k0 := hk8.cell' k0
              replace k1 := hk8.cell' k1
              clear hb8 hk8 HB7
              go_wp2_with (refine stop_at (o := ⟨some 12, _, _, _, _, _⟩) ?_)
              refine Stop.mk ?_
              refine wpList_new_row rfl rfl _ _ rfl rfl ty_sec (u8s zeroB) zero_sec (by rw [u8s_length, zeroB_length]) (u8s (secN n0)) rfl (by rw [u8s_length, secN_len]) (u8s_one _) rfl ?_
              intro w9 hz9 hs9 hk9
              have HB9 := Lib.hid (HB8.out.kept hk9).1
              replace k0 := hk9.cell' k0
              replace k1 := hk9.cell' k1
              generalize w8.heap.size = Bx at *
              have hX : Cells w9 Bx 0 (u8s (secN n0)) := by simpa using Cells.of_block hz9.out
              clear hz9 hs9 hk9 HB8
              go_upto_region 28 with fail
              have hS : Cells w9.drew Bx 0 (u8s (secN n0)) := hX
              refine wp_region_calm ?_
              refine wp_region_E (fun W => Cells W Bx 0 (u8s (secN n0))) 100 (by kernel_rfl) ?_
              refine wpAnyE_take (i := 0) (v := .agg (u8s (secN n0)).toArray) (listed' := #[true, false, false, false, false, false, false, false]) (by rfl) (by kernel_rfl) (by kernel_rfl) calm_put hS (by rfl) ?_ ?_
              · intro W hW; skip; exact exec_load_sec _ rfl Bx rfl (secN n0) (secN_len n0) hW
              simp only [Act.put, List.getElem_toArray, List.getElem_cons_succ, List.getElem_cons_zero, List.setIfInBounds_toArray, List.set_cons_zero, List.set_cons_succ]
              refine wpAnyE_take (i := 1) (v := ?_) (listed' := #[true, true, false, false, false, false, false, false]) (by rfl) (by kernel_rfl) (by kernel_rfl) calm_put hS (by rfl) ?_ ?_
              rotate_left
              · intro W hW; clear hW; go_simp; try (with_reducible rfl)
              simp only [Act.put, List.getElem_toArray, List.getElem_cons_succ, List.getElem_cons_zero, List.setIfInBounds_toArray, List.set_cons_zero, List.set_cons_succ]
              refine wpAnyE_one (i := 2) (listed' := #[true, true, true, false, false, false, false, false]) (by rfl) (by kernel_rfl) (by kernel_rfl) (by rfl) (fun K hK => ?_)
              simp only [Act.put, List.getElem_toArray, List.getElem_cons_succ, List.getElem_cons_zero, List.setIfInBounds_toArray, List.set_cons_zero, List.set_cons_succ]
              go_wp2_with fail
              refine Calls.mono (law_sector n0 _) ?_
              rintro e w10 ⟨rfl, hks⟩
              have hS := hS.kept hks
              refine hK _ _ (fun _ => hS) ?_; clear hK K
              refine wpAnyE_take (i := 3) (v := .bool false) (listed' := #[true, true, true, true, false, false, false, false]) (by rfl) (by kernel_rfl) (by kernel_rfl) calm_put hS (by rfl) ?_ ?_
              · intro W hW; clear hW; exact exec_cmp_secN _ _ rfl (secN n0) (secN_len n0) rfl rfl
              simp only [Act.put, List.getElem_toArray, List.getElem_cons_succ, List.getElem_cons_zero, List.setIfInBounds_toArray, List.set_cons_zero, List.set_cons_succ]
              refine wpAnyE_take (i := 4) (v := ?_) (listed' := #[true, true, true, true, true, false, false, false]) (by rfl) (by kernel_rfl) (by kernel_rfl) calm_put hS (by rfl) ?_ ?_
              rotate_left
              · intro W hW; clear hW; go_simp; try (with_reducible rfl)
              simp only [Act.put, List.getElem_toArray, List.getElem_cons_succ, List.getElem_cons_zero, List.setIfInBounds_toArray, List.set_cons_zero, List.set_cons_succ]
              refine wpAnyE_take (i := 5) (v := ?_) (listed' := #[true, true, true, true, true, true, false, false]) (by rfl) (by kernel_rfl) (by kernel_rfl) calm_put hS (by rfl) ?_ ?_
              rotate_left
              · intro W hW; clear hW; go_simp; try (with_reducible rfl)
              simp only [Act.put, List.getElem_toArray, List.getElem_cons_succ, List.getElem_cons_zero, List.setIfInBounds_toArray, List.set_cons_zero, List.set_cons_succ]
              refine wpAnyE_take (i := 6) (v := ?_) (listed' := #[true, true, true, true, true, true, true, false]) (by rfl) (by kernel_rfl) (by kernel_rfl) calm_put hS (by rfl) ?_ ?_
              rotate_left
              · intro W hW; clear hW; go_simp; try (with_reducible rfl)
              simp only [Act.put, List.getElem_toArray, List.getElem_cons_succ, List.getElem_cons_zero, List.setIfInBounds_toArray, List.set_cons_zero, List.set_cons_succ]
              refine wpAnyE_take (i := 7) (v := ?_) (listed' := #[true, true, true, true, true, true, true, true]) (by rfl) (by kernel_rfl) (by kernel_rfl) calm_put hS (by rfl) ?_ ?_
              rotate_left
              · intro W hW; clear hW; go_simp; try (with_reducible rfl)
              simp only [Act.put, List.getElem_toArray, List.getElem_cons_succ, List.getElem_cons_zero, List.setIfInBounds_toArray, List.set_cons_zero, List.set_cons_succ]
              refine wpAnyE_done (by kernel_rfl) ?_ _
              refine calm_normal ?_
              have HB10 := Lib.hid ((HB9.out.kept ((Kept.refl _).drew.trans hks)).1.less (R' := fun k => k = Bk) (fun k h => .inl h))
              replace k0 := ((Kept.refl _).drew.trans hks).cell' k0
              replace k1 := ((Kept.refl _).drew.trans hks).cell' k1
              clear hks hS hX HB9
              go_wp2
              go_roundw
              case rel => exact ⟨k + 1, T', hlt, h80, by go_num, by omega, by omega, HK8, HB10, Lib.hid ⟨k0, k1⟩⟩
              case measure => simp [intOf]; omega

          · have hbe : ((d : Int) == (kd : Int) && (a : Int) == (ka : Int)) = false := by
              rw [Bool.eq_false_iff]; intro h; simp at h; exact hpk (by omega)
            have heqg := eqg_plc
            have heqp := run_equal_plc
            go_upto_region 14 with fail
            have hS : wq.drew.cell? ⟨Bp, 0, none⟩ = some (.int .i64 (d : Int)) ∧ wq.drew.cell? ⟨Bp, 1, none⟩ = some (.int .i64 (a : Int)) ∧ wq.drew.cell? ⟨b, off + k * 5 + 3, none⟩ = some (.int .i64 xn) := ⟨p0, p1, c3q⟩
            refine wp_region_calm ?_
            refine wp_region_E (fun W => W.cell? ⟨Bp, 0, none⟩ = some (.int .i64 (d : Int)) ∧ W.cell? ⟨Bp, 1, none⟩ = some (.int .i64 (a : Int)) ∧ W.cell? ⟨b, off + k * 5 + 3, none⟩ = some (.int .i64 xn)) 100 (by kernel_rfl) ?_
            refine wpAnyE_take (i := 0) (v := ?_) (listed' := #[true, false, false, false, false, false, false, false, false]) (by rfl) (by kernel_rfl) (by kernel_rfl) calm_put hS (by rfl) ?_ ?_
            rotate_left
            · intro W hW; clear hW; go_simp; try (with_reducible rfl)
            simp only [Act.put, List.getElem_toArray, List.getElem_cons_succ, List.getElem_cons_zero, List.setIfInBounds_toArray, List.set_cons_zero, List.set_cons_succ]
            refine wpAnyE_take (i := 1) (v := ?_) (listed' := #[true, true, false, false, false, false, false, false, false]) (by rfl) (by kernel_rfl) (by kernel_rfl) calm_put hS (by rfl) ?_ ?_
            rotate_left
            · intro W hW; obtain ⟨p0, p1, c3⟩ := hW; go_simp; try (with_reducible rfl)
            simp only [Act.put, List.getElem_toArray, List.getElem_cons_succ, List.getElem_cons_zero, List.setIfInBounds_toArray, List.set_cons_zero, List.set_cons_succ]
            refine wpAnyE_take (i := 2) (v := ?_) (listed' := #[true, true, true, false, false, false, false, false, false]) (by rfl) (by kernel_rfl) (by kernel_rfl) calm_put hS (by rfl) ?_ ?_
            rotate_left
            · intro W hW; clear hW; go_simp; try (with_reducible rfl)
            simp only [Act.put, List.getElem_toArray, List.getElem_cons_succ, List.getElem_cons_zero, List.setIfInBounds_toArray, List.set_cons_zero, List.set_cons_succ]
            refine wpAnyE_take (i := 3) (v := ?_) (listed' := #[true, true, true, true, false, false, false, false, false]) (by rfl) (by kernel_rfl) (by kernel_rfl) calm_put hS (by rfl) ?_ ?_
            rotate_left
            · intro W hW; clear hW; go_simp; try (with_reducible rfl)
            simp only [Act.put, List.getElem_toArray, List.getElem_cons_succ, List.getElem_cons_zero, List.setIfInBounds_toArray, List.set_cons_zero, List.set_cons_succ]
            refine wpAnyE_take (i := 4) (v := ?_) (listed' := #[true, true, true, true, true, false, false, false, false]) (by rfl) (by kernel_rfl) (by kernel_rfl) calm_put hS (by rfl) ?_ ?_
            rotate_left
            · intro W hW; clear hW; go_simp; try (with_reducible rfl)
            simp only [Act.put, List.getElem_toArray, List.getElem_cons_succ, List.getElem_cons_zero, List.setIfInBounds_toArray, List.set_cons_zero, List.set_cons_succ]
            refine wpAnyE_take (i := 5) (v := ?_) (listed' := #[true, true, true, true, true, true, false, false, false]) (by rfl) (by kernel_rfl) (by kernel_rfl) calm_put hS (by rfl) ?_ ?_
            rotate_left
            · intro W hW; clear hW; go_simp; try (with_reducible rfl)
            simp only [Act.put, List.getElem_toArray, List.getElem_cons_succ, List.getElem_cons_zero, List.setIfInBounds_toArray, List.set_cons_zero, List.set_cons_succ]
            refine wpAnyE_take (i := 6) (v := ?_) (listed' := #[true, true, true, true, true, true, true, false, false]) (by rfl) (by kernel_rfl) (by kernel_rfl) calm_put hS (by rfl) ?_ ?_
            rotate_left
            · intro W hW; obtain ⟨p0, p1, c3⟩ := hW; go_simp; try (with_reducible rfl)
            simp only [Act.put, List.getElem_toArray, List.getElem_cons_succ, List.getElem_cons_zero, List.setIfInBounds_toArray, List.set_cons_zero, List.set_cons_succ]
            refine wpAnyE_one (i := 7) (listed' := #[true, true, true, true, true, true, true, true, false]) (by rfl) (by kernel_rfl) (by kernel_rfl) (by rfl) (fun K hK => ?_)
            simp only [Act.put, List.getElem_toArray, List.getElem_cons_succ, List.getElem_cons_zero, List.setIfInBounds_toArray, List.set_cons_zero, List.set_cons_succ]
            go_wp2_with fail
            refine Calls.mono (law_sector xn _) ?_
            rintro e w6 ⟨rfl, hks⟩
            have hS := (⟨hks.cell' hS.1, hks.cell' hS.2.1, hks.cell' hS.2.2⟩ : _ ∧ _ ∧ _)
            refine hK _ _ (fun _ => hS) ?_; clear hK K
            refine wpAnyE_one (i := 8) (listed' := #[true, true, true, true, true, true, true, true, true]) (by rfl) (by kernel_rfl) (by kernel_rfl) (by rfl) (fun K hK => ?_)
            simp only [Act.put, List.getElem_toArray, List.getElem_cons_succ, List.getElem_cons_zero, List.setIfInBounds_toArray, List.set_cons_zero, List.set_cons_succ]
            go_wp2_with fail
            refine Calls.mono (bk_Write (HB5.out.kept ((Kept.refl _).drew.trans hks)).1 HU.out (d : Int) (a : Int) (s := secN xn) (secN_len xn)) ?_
            rintro e w7 ⟨rfl, hb7, hr7⟩
            have HB7 := Lib.hid hb7
            have hS := (⟨(World.cell?_of_block (a := ⟨Bp, 0, none⟩) (hr7 Bp (.inr rfl))).trans hS.1, (World.cell?_of_block (a := ⟨Bp, 1, none⟩) (hr7 Bp (.inr rfl))).trans hS.2.1, hb7.keeps.cell' g3⟩ : _ ∧ _ ∧ _)
            have k0 := (World.cell?_of_block (a := ⟨Bk, 0, none⟩) (hr7 Bk (.inl rfl))).trans (((Kept.refl _).drew.trans hks).cell' q0)
            have k1 := (World.cell?_of_block (a := ⟨Bk, 1, none⟩) (hr7 Bk (.inl rfl))).trans (((Kept.refl _).drew.trans hks).cell' q1)
            refine hK _ _ (fun _ => hS) ?_; clear hK K
            refine wpAnyE_done (by kernel_rfl) ?_ _
            refine calm_normal ?_

            have hkp : KpI kd ka (secN n0) (T.write (d : Int) (a : Int) (secN xn)).1 := HI.out.write hkd3 d a hd3 ha8 hpk HSN.out
            have hcb := (BankT.write_rest HI.out.inv.ok (d : Int) (a : Int) (secN xn)).2
            clear hb7 hr7 hS hks
            obtain ⟨T', hT'⟩ : ∃ T', T' = (T.write (d : Int) (a : Int) (secN xn)).1 := ⟨_, rfl⟩
            rw [← hT'] at HB7 hkp hcb
            obtain ⟨hcb1, hcb2⟩ := hcb
            clear hT'
            clear p0 p1 HB5 c0q
            have HK8 := Lib.hid hkp
            have hup := KpI.read (T := T') hkp hkd3 hka8
            have HRD := Lib.hid hup
            have HU7 : Hid T'.Use := Lib.hid ⟨hkp.inv, by rw [hkp.len]; decide, by omega, by omega⟩
            clear hkp hup HI
            go_wp2_with fail
            refine Calls.mono (bk_Up HB7.out) ?_
            rintro e w8 ⟨rfl, rfl⟩
            cases hdn : T'.down with
            | true =>
              have HB9 := Lib.hid (HB7.out.less (R' := fun k => k = Bk) (fun k h => .inl h))
              clear hdn HRD
              go_wp2
              go_roundw
              case rel => exact ⟨k + 1, T', hlt, h80, by go_num, by omega, by omega, HK8, HB9, Lib.hid ⟨k0, k1⟩⟩
              case measure => simp [intOf]; omega
            | false =>
              have HR := Lib.hid (HRD.out hdn)
              clear hdn HRD
              go_wp2_with fail
              refine Calls.mono (st_read HB7.out HU7.out (kd : Int) (ka : Int) HR.out) ?_
              rintro e w8 ⟨rfl, hb8, hk8⟩
              have HB8 := Lib.hid hb8
              replace k0 := hk8.cell' k0
              replace k1 := hk8.cell' k1
              clear hb8 hk8 HB7
              go_wp2_with (refine stop_at (o := ⟨some 12, _, _, _, _, _⟩) ?_)
              refine Stop.mk ?_
              refine wpList_new_row rfl rfl _ _ rfl rfl ty_sec (u8s zeroB) zero_sec (by rw [u8s_length, zeroB_length]) (u8s (secN n0)) rfl (by rw [u8s_length, secN_len]) (u8s_one _) rfl ?_
              intro w9 hz9 hs9 hk9
              have HB9 := Lib.hid (HB8.out.kept hk9).1
              replace k0 := hk9.cell' k0
              replace k1 := hk9.cell' k1
              generalize w8.heap.size = Bx at *
              have hX : Cells w9 Bx 0 (u8s (secN n0)) := by simpa using Cells.of_block hz9.out
              clear hz9 hs9 hk9 HB8
              go_upto_region 28 with fail
              have hS : Cells w9.drew Bx 0 (u8s (secN n0)) := hX
              refine wp_region_calm ?_
              refine wp_region_E (fun W => Cells W Bx 0 (u8s (secN n0))) 100 (by kernel_rfl) ?_
              refine wpAnyE_take (i := 0) (v := .agg (u8s (secN n0)).toArray) (listed' := #[true, false, false, false, false, false, false, false]) (by rfl) (by kernel_rfl) (by kernel_rfl) calm_put hS (by rfl) ?_ ?_
              · intro W hW; skip; exact exec_load_sec _ rfl Bx rfl (secN n0) (secN_len n0) hW
              simp only [Act.put, List.getElem_toArray, List.getElem_cons_succ, List.getElem_cons_zero, List.setIfInBounds_toArray, List.set_cons_zero, List.set_cons_succ]
              refine wpAnyE_take (i := 1) (v := ?_) (listed' := #[true, true, false, false, false, false, false, false]) (by rfl) (by kernel_rfl) (by kernel_rfl) calm_put hS (by rfl) ?_ ?_
              rotate_left
              · intro W hW; clear hW; go_simp; try (with_reducible rfl)
              simp only [Act.put, List.getElem_toArray, List.getElem_cons_succ, List.getElem_cons_zero, List.setIfInBounds_toArray, List.set_cons_zero, List.set_cons_succ]
              refine wpAnyE_one (i := 2) (listed' := #[true, true, true, false, false, false, false, false]) (by rfl) (by kernel_rfl) (by kernel_rfl) (by rfl) (fun K hK => ?_)
              simp only [Act.put, List.getElem_toArray, List.getElem_cons_succ, List.getElem_cons_zero, List.setIfInBounds_toArray, List.set_cons_zero, List.set_cons_succ]
              go_wp2_with fail
              refine Calls.mono (law_sector n0 _) ?_
              rintro e w10 ⟨rfl, hks⟩
              have hS := hS.kept hks
              refine hK _ _ (fun _ => hS) ?_; clear hK K
              refine wpAnyE_take (i := 3) (v := .bool false) (listed' := #[true, true, true, true, false, false, false, false]) (by rfl) (by kernel_rfl) (by kernel_rfl) calm_put hS (by rfl) ?_ ?_
              · intro W hW; clear hW; exact exec_cmp_secN _ _ rfl (secN n0) (secN_len n0) rfl rfl
              simp only [Act.put, List.getElem_toArray, List.getElem_cons_succ, List.getElem_cons_zero, List.setIfInBounds_toArray, List.set_cons_zero, List.set_cons_succ]
              refine wpAnyE_take (i := 4) (v := ?_) (listed' := #[true, true, true, true, true, false, false, false]) (by rfl) (by kernel_rfl) (by kernel_rfl) calm_put hS (by rfl) ?_ ?_
              rotate_left
              · intro W hW; clear hW; go_simp; try (with_reducible rfl)
              simp only [Act.put, List.getElem_toArray, List.getElem_cons_succ, List.getElem_cons_zero, List.setIfInBounds_toArray, List.set_cons_zero, List.set_cons_succ]
              refine wpAnyE_take (i := 5) (v := ?_) (listed' := #[true, true, true, true, true, true, false, false]) (by rfl) (by kernel_rfl) (by kernel_rfl) calm_put hS (by rfl) ?_ ?_
              rotate_left
              · intro W hW; clear hW; go_simp; try (with_reducible rfl)
              simp only [Act.put, List.getElem_toArray, List.getElem_cons_succ, List.getElem_cons_zero, List.setIfInBounds_toArray, List.set_cons_zero, List.set_cons_succ]
              refine wpAnyE_take (i := 6) (v := ?_) (listed' := #[true, true, true, true, true, true, true, false]) (by rfl) (by kernel_rfl) (by kernel_rfl) calm_put hS (by rfl) ?_ ?_
              rotate_left
              · intro W hW; clear hW; go_simp; try (with_reducible rfl)
              simp only [Act.put, List.getElem_toArray, List.getElem_cons_succ, List.getElem_cons_zero, List.setIfInBounds_toArray, List.set_cons_zero, List.set_cons_succ]
              refine wpAnyE_take (i := 7) (v := ?_) (listed' := #[true, true, true, true, true, true, true, true]) (by rfl) (by kernel_rfl) (by kernel_rfl) calm_put hS (by rfl) ?_ ?_
              rotate_left
              · intro W hW; clear hW; go_simp; try (with_reducible rfl)
              simp only [Act.put, List.getElem_toArray, List.getElem_cons_succ, List.getElem_cons_zero, List.setIfInBounds_toArray, List.set_cons_zero, List.set_cons_succ]
              refine wpAnyE_done (by kernel_rfl) ?_ _
              refine calm_normal ?_
              have HB10 := Lib.hid ((HB9.out.kept ((Kept.refl _).drew.trans hks)).1.less (R' := fun k => k = Bk) (fun k h => .inl h))
              replace k0 := ((Kept.refl _).drew.trans hks).cell' k0
              replace k1 := ((Kept.refl _).drew.trans hks).cell' k1
              clear hks hS hX HB9
              go_wp2
              go_roundw
              case rel => exact ⟨k + 1, T', hlt, h80, by go_num, by omega, by omega, HK8, HB10, Lib.hid ⟨k0, k1⟩⟩
              case measure => simp [intOf]; omega

      · have hkk : l.length ≤ k ∨ (k < l.length ∧ 80 ≤ k) := by omega
        clear hlt
        rcases hkk with hkk | ⟨hkk, h80⟩
        all_goals
          go_wp2
          go_meet
          case rel => exact ⟨T, HI, by omega, by omega, HB, HKB⟩
  case rest =>
    obtain ⟨T, HI, hclk, hwri, HB, HKB⟩ := hcut
    have hst : KpI kd ka (secN n0) T.start := HI.out.start
    have HR := Lib.hid (hst.read hkd3 hka8 rfl)
    have HU : Hid T.start.Use := Lib.hid ⟨hst.inv, by rw [hst.len]; decide, by show T.clock < _; omega, by show T.writes < _; omega⟩
    clear hst HS HI HK2 HB6 HKK
    go_wp2_with fail
    refine Calls.mono (bk_Start HB.out) ?_
    rintro e w3' ⟨rfl, hb3, hr3⟩
    have HB3 := Lib.hid hb3
    have k0 := (World.cell?_of_block (a := ⟨Bk, 0, none⟩) (hr3 Bk rfl)).trans HKB.out.1
    have k1 := (World.cell?_of_block (a := ⟨Bk, 1, none⟩) (hr3 Bk rfl)).trans HKB.out.2
    clear hb3 hr3 HB HKB
    go_wp2_with fail
    refine Calls.mono (st_read HB3.out HU.out (kd : Int) (ka : Int) HR.out) ?_
    rintro e w4' ⟨rfl, hb4, hk4⟩
    have HB4 := Lib.hid hb4
    clear hb4 hk4 HB3 k0 k1
    go_wp2_with (refine stop_at (o := ⟨some 14, _, _, _, _, _⟩) ?_)
    refine Stop.mk ?_
    refine wpList_new_row rfl rfl _ _ rfl rfl ty_sec (u8s zeroB) zero_sec (by rw [u8s_length, zeroB_length]) (u8s (secN n0)) rfl (by rw [u8s_length, secN_len]) (u8s_one _) rfl ?_
    intro w5 hz5 hs5 hk5
    have HB5 := Lib.hid (HB4.out.kept hk5).1
    generalize w4'.heap.size = Bx at *
    have hX : Cells w5 Bx 0 (u8s (secN n0)) := by simpa using Cells.of_block hz5.out
    clear hz5 hs5 hk5 HB4
    go_upto_region 32 with fail
    have hS : Cells w5.drew Bx 0 (u8s (secN n0)) := hX
    refine wp_region_calm ?_
    refine wp_region_E (fun W => Cells W Bx 0 (u8s (secN n0))) 11 (by kernel_rfl) ?_
    refine wpAnyE_take (i := 0) (v := ?_) (listed' := #[true, false, false, false, false, false, false, false, false, false, false, false]) (by rfl) (by kernel_rfl) (by kernel_rfl) calm_put hS (by rfl) ?_ ?_
    rotate_left
    · intro W hW; clear hW; go_simp; try (with_reducible rfl)
    simp only [Act.put, List.getElem_toArray, List.getElem_cons_succ, List.getElem_cons_zero, List.setIfInBounds_toArray, List.set_cons_zero, List.set_cons_succ]
    refine wpAnyE_take (i := 1) (v := ?_) (listed' := #[true, true, false, false, false, false, false, false, false, false, false, false]) (by rfl) (by kernel_rfl) (by kernel_rfl) calm_put hS (by rfl) ?_ ?_
    rotate_left
    · intro W hW; clear hW; go_simp; try (with_reducible rfl)
    simp only [Act.put, List.getElem_toArray, List.getElem_cons_succ, List.getElem_cons_zero, List.setIfInBounds_toArray, List.set_cons_zero, List.set_cons_succ]
    refine wpAnyE_take (i := 2) (v := .agg (u8s (secN n0)).toArray) (listed' := #[true, true, true, false, false, false, false, false, false, false, false, false]) (by rfl) (by kernel_rfl) (by kernel_rfl) calm_put hS (by rfl) ?_ ?_
    · intro W hW; skip; exact exec_load_sec _ rfl Bx rfl (secN n0) (secN_len n0) hW
    simp only [Act.put, List.getElem_toArray, List.getElem_cons_succ, List.getElem_cons_zero, List.setIfInBounds_toArray, List.set_cons_zero, List.set_cons_succ]
    refine wpAnyE_take (i := 3) (v := ?_) (listed' := #[true, true, true, true, false, false, false, false, false, false, false, false]) (by rfl) (by kernel_rfl) (by kernel_rfl) calm_put hS (by rfl) ?_ ?_
    rotate_left
    · intro W hW; clear hW; go_simp; try (with_reducible rfl)
    simp only [Act.put, List.getElem_toArray, List.getElem_cons_succ, List.getElem_cons_zero, List.setIfInBounds_toArray, List.set_cons_zero, List.set_cons_succ]
    refine wpAnyE_one (i := 4) (listed' := #[true, true, true, true, true, false, false, false, false, false, false, false]) (by rfl) (by kernel_rfl) (by kernel_rfl) (by rfl) (fun K hK => ?_)
    simp only [Act.put, List.getElem_toArray, List.getElem_cons_succ, List.getElem_cons_zero, List.setIfInBounds_toArray, List.set_cons_zero, List.set_cons_succ]
    go_wp2_with fail
    refine Calls.mono (law_sector n0 _) ?_
    rintro e w6 ⟨rfl, hks⟩
    have hS := hS.kept hks
    refine hK _ _ (fun _ => hS) ?_; clear hK K
    refine wpAnyE_take (i := 5) (v := .bool true) (listed' := #[true, true, true, true, true, true, false, false, false, false, false, false]) (by rfl) (by kernel_rfl) (by kernel_rfl) calm_put hS (by rfl) ?_ ?_
    · intro W hW; clear hW; exact exec_cmp_secE _ _ rfl (secN n0) (secN_len n0) rfl rfl
    simp only [Act.put, List.getElem_toArray, List.getElem_cons_succ, List.getElem_cons_zero, List.setIfInBounds_toArray, List.set_cons_zero, List.set_cons_succ]
    refine wpAnyE_take (i := 6) (v := ?_) (listed' := #[true, true, true, true, true, true, true, false, false, false, false, false]) (by rfl) (by kernel_rfl) (by kernel_rfl) calm_put hS (by rfl) ?_ ?_
    rotate_left
    · intro W hW; clear hW; go_simp; try (with_reducible rfl)
    simp only [Act.put, List.getElem_toArray, List.getElem_cons_succ, List.getElem_cons_zero, List.setIfInBounds_toArray, List.set_cons_zero, List.set_cons_succ]
    refine wpAnyE_take (i := 7) (v := ?_) (listed' := #[true, true, true, true, true, true, true, true, false, false, false, false]) (by rfl) (by kernel_rfl) (by kernel_rfl) calm_put hS (by rfl) ?_ ?_
    rotate_left
    · intro W hW; clear hW; go_simp; try (with_reducible rfl)
    simp only [Act.put, List.getElem_toArray, List.getElem_cons_succ, List.getElem_cons_zero, List.setIfInBounds_toArray, List.set_cons_zero, List.set_cons_succ]
    refine wpAnyE_take (i := 8) (v := ?_) (listed' := #[true, true, true, true, true, true, true, true, true, false, false, false]) (by rfl) (by kernel_rfl) (by kernel_rfl) calm_put hS (by rfl) ?_ ?_
    rotate_left
    · intro W hW; clear hW; go_simp; try (with_reducible rfl)
    simp only [Act.put, List.getElem_toArray, List.getElem_cons_succ, List.getElem_cons_zero, List.setIfInBounds_toArray, List.set_cons_zero, List.set_cons_succ]
    refine wpAnyE_take (i := 9) (v := ?_) (listed' := #[true, true, true, true, true, true, true, true, true, true, false, false]) (by rfl) (by kernel_rfl) (by kernel_rfl) calm_put hS (by rfl) ?_ ?_
    rotate_left
    · intro W hW; clear hW; go_simp; try (with_reducible rfl)
    simp only [Act.put, List.getElem_toArray, List.getElem_cons_succ, List.getElem_cons_zero, List.setIfInBounds_toArray, List.set_cons_zero, List.set_cons_succ]
    refine wpAnyE_take (i := 10) (v := ?_) (listed' := #[true, true, true, true, true, true, true, true, true, true, true, false]) (by rfl) (by kernel_rfl) (by kernel_rfl) calm_put hS (by rfl) ?_ ?_
    rotate_left
    · intro W hW; clear hW; go_simp; try (with_reducible rfl)
    simp only [Act.put, List.getElem_toArray, List.getElem_cons_succ, List.getElem_cons_zero, List.setIfInBounds_toArray, List.set_cons_zero, List.set_cons_succ]
    refine wpAnyE_one (i := 11) (listed' := #[true, true, true, true, true, true, true, true, true, true, true, true]) (by rfl) (by kernel_rfl) (by kernel_rfl) (by rfl) (fun K hK => ?_)
    simp only [Act.put, List.getElem_toArray, List.getElem_cons_succ, List.getElem_cons_zero, List.setIfInBounds_toArray, List.set_cons_zero, List.set_cons_succ]
    go_wp2
    refine hK _ _ (fun _ => hS) ?_; clear hK K
    refine wpAnyE_done (by kernel_rfl) ?_ _
    refine calm_normal ?_

    have HK := Lib.hid (HB5.out.keeps.trans ((Kept.refl _).drew.trans hks))
    clear hks hS hX HB5
    go_wp2
    go_ret
    exact ⟨rfl, HK.out⟩
end
end Go.Proofs.Ytfnjgcmghfnjhaa
