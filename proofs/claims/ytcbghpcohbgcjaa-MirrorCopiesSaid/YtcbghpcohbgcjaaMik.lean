/- law12's shown (gen_mshown.py). -/
import Derived.Test.YtcbghpcohbgcjaaMij
import Derived.Test.YtcbghpcohbgcjaaMif
import Derived.Test.YtcbghpcohbgcjaaMih
namespace Go.Proofs.Ytcbghpcohbgcjaa
open Go.RowKit
set_option linter.unusedVariables false
set_option linter.unusedSimpArgs false

/-- a place lies in block b -/
def Pl (W : World) (b : Nat) (x y : Int) : Prop := W.cell? ⟨b, 0, none⟩ = some (.int .i64 x) ∧ W.cell? ⟨b, 1, none⟩ = some (.int .i64 y)
theorem Pl.kept {W W' : World} {b : Nat} {x y : Int} (h : Pl W b x y) (hk : Kept W W') : Pl W' b x y := ⟨hk.cell' h.1, hk.cell' h.2⟩
theorem Pl.same {W W' : World} {b : Nat} {x y : Int} (h : Pl W b x y) (hs : W'.heap[b]? = W.heap[b]?) : Pl W' b x y :=
  ⟨(World.cell?_of_block (a := ⟨b, 0, none⟩) hs).trans h.1, (World.cell?_of_block (a := ⟨b, 1, none⟩) hs).trans h.2⟩
theorem Pl.of {W : World} {b : Nat} {x y : Int} (h : W.heap[b]? = some (.cells [Value.int .i64 x, .int .i64 y].toArray 31 (0, 0))) : Pl W b x y := ⟨cell_of_row _ _ 0 _ _ _ h, cell_of_row _ _ 1 _ _ _ h⟩
theorem exec_load_plc {W : World} {a : Act} {o : Oper} (x : Operand) (ho : o.op = .load 31 x) (b : Nat) (hx : a.eval x = .pointer (some ⟨b, 0, none⟩)) (xs : List Value) (hl : xs.length = 2) (hc : Cells W b 0 xs) :
    (execOp a.eval o).run Try.prog W = .ok (.value (.agg xs.toArray)) W := by
  obtain ⟨⟨d, hd1, hd2⟩, hs⟩ := ty_plc
  unfold execOp
  simp only [ho, hx, Instr.loadAt, Instr.sureAddr, Sem.run_bind, Sem.run_pure, Result.andThen_ok, run_loadVar_mid W b 0 31 xs d (rangeAt_of_cells hc) hd1 hd2 (by rw [hs, hl])]
theorem exec_eq_plc {W : World} {a : Act} {o : Oper} (x y : Operand) {t' : TypeId} (ho : o.op = .binOp .eql 31 x y t') (p q r s : Int) (hx : a.eval x = .agg #[.int .i64 p, .int .i64 q]) (hy : a.eval y = .agg #[.int .i64 r, .int .i64 s]) :
    (execOp a.eval o).run Try.prog W = .ok (.value (.bool (p == r && q == s))) W := by
  have heq := run_equal_plc W p q r s
  unfold execOp
  simp only [ho, hx, hy, Sem.run_bind]
  rw [run_eqGuard_agg _ _ _ _ _ _ _ eqg_plc]
  simp only [Result.andThen_ok]
  rw [run_eql_struct]
  simp only [Op.equal, Op.maxDepth, heq, Result.andThen_ok, Sem.run_pure, Sem.run_bind]
theorem BankT.Inv.mWrite {T : BankT} (h : T.Inv) (x0 x1 y0 y1 : Int) {s : List Int} (hs : s.length = 64 ∧ ∀ x ∈ s, IsByte x) : (T.mWrite x0 x1 y0 y1 s).1.Inv := by
  have h1 := h.write x0 x1 hs
  have h2 := h1.write y0 y1 hs
  unfold BankT.mWrite
  split
  · exact h1
  · split
    · exact h2
    · exact h2
def mh0 : BankT := addZ 12 2
def mh1 : BankT := (mh0.mWrite 0 3 1 5 (secN 1)).1
def mh2 : BankT := (mh1.failC 0).1
def mh3 : BankT := (mh2.mWrite 0 3 1 5 (secN 2)).1
def mh4 : BankT := (mh3.failC 1).1
theorem secN_ok (n : Int) : (secN n).length = 64 ∧ ∀ x ∈ secN n, IsByte x := ⟨secN_len n, secN_byte n⟩
theorem mh0_u : mh0.Use := BankT.Use.of (addZ_inv (by decide) 2 (by decide)) (by kernel_rfl)
theorem mh0_u1 : (mh0.write 0 3 (secN 1)).1.Use := BankT.Use.of (mh0_u.inv.write 0 3 (secN_ok 1)) (by kernel_rfl)
theorem mh1_u : mh1.Use := BankT.Use.of (mh0_u.inv.mWrite 0 3 1 5 (secN_ok 1)) (by kernel_rfl)
theorem mh2_u : mh2.Use := BankT.Use.of (mh1_u.inv.failC 0) (by kernel_rfl)
theorem mh2_u1 : (mh2.write 0 3 (secN 2)).1.Use := BankT.Use.of (mh2_u.inv.write 0 3 (secN_ok 2)) (by kernel_rfl)
theorem mh3_u : mh3.Use := BankT.Use.of (mh2_u.inv.mWrite 0 3 1 5 (secN_ok 2)) (by kernel_rfl)
theorem mh4_u : mh4.Use := BankT.Use.of (mh3_u.inv.failC 1) (by kernel_rfl)
theorem mh_e : ((mh0.mWrite 0 3 1 5 (secN 1)).2, (mh2.mWrite 0 3 1 5 (secN 2)).2) = (0, 0) := by kernel_rfl
theorem mh_r : (mh2.mRead 0 3 1 5, mh3.mRead 0 3 1 5, mh4.mRead 0 3 1 5) = ((secN 1, 0), (secN 2, 0), (zeroB, 5)) := by kernel_rfl
section
variable {w0 W : World} {R : Nat → Prop} {q : Nat} {T : BankT}
theorem m_WriteE (h : BK w0 R W q T) (u : T.Use) (x0 x1 y0 y1 : Int) {s : List Int} (hs : s.length = 64) (u1 : (T.write x0 x1 s).1.Use) {T' : BankT} {c : Int} (he : T.mWrite x0 x1 y0 y1 s = (T', c)) :
    Calls Try.prog 35 #[.pointer (some ⟨q, 0, none⟩), .agg #[.int .i64 x0, .int .i64 x1], .agg #[.int .i64 y0, .int .i64 y1], .agg (u8s s).toArray] W fun e w' => e = .returned (.int .i64 c) ∧ BK w0 R w' q T' ∧ SameR R W w' :=
  (m_Write h u x0 x1 y0 y1 hs u1).mono fun e w' ⟨h1, h2, h3⟩ => ⟨by rw [h1, he], by rw [he] at h2; exact h2, h3⟩
theorem m_ReadE (h : BK w0 R W q T) (u : T.Use) (x0 x1 y0 y1 : Int) {xs : List Int} {c : Int} (he : T.mRead x0 x1 y0 y1 = (xs, c)) :
    Calls Try.prog 36 #[.pointer (some ⟨q, 0, none⟩), .agg #[.int .i64 x0, .int .i64 x1], .agg #[.int .i64 y0, .int .i64 y1]] W fun e w' => e = .returned (.tuple #[.agg (u8s xs).toArray, .int .i64 c]) ∧ Kept W w' :=
  (m_Read h u x0 x1 y0 y1).mono fun e w' ⟨h1, h2, h3, h4⟩ => ⟨by rw [h1, he], h4⟩
theorem m_AlikeE (h : BK w0 R W q T) (u : T.Use) (x0 x1 y0 y1 : Int) {T' : BankT} {b : Bool} {c : Int} (he : T.mAlike x0 x1 y0 y1 = (T', b, c)) :
    Calls Try.prog 37 #[.pointer (some ⟨q, 0, none⟩), .agg #[.int .i64 x0, .int .i64 x1], .agg #[.int .i64 y0, .int .i64 y1]] W fun e w' => e = .returned (.tuple #[.bool b, .int .i64 c]) ∧ BK w0 R w' q T' ∧ SameR R W w' :=
  (m_Alike h u x0 x1 y0 y1).mono fun e w' ⟨h1, h2, h3⟩ => ⟨by rw [h1, he], by rw [he] at h2; exact h2, h3⟩
theorem m_CopyE (h : BK w0 R W q T) (u : T.Use) (x0 x1 y0 y1 : Int) {T' : BankT} {c : Int} (he : T.mCopy x0 x1 y0 y1 = (T', c)) :
    Calls Try.prog 34 #[.pointer (some ⟨q, 0, none⟩), .agg #[.int .i64 x0, .int .i64 x1], .agg #[.int .i64 y0, .int .i64 y1]] W fun e w' => e = .returned (.int .i64 c) ∧ BK w0 R w' q T' ∧ SameR R W w' :=
  (m_Copy h u x0 x1 y0 y1).mono fun e w' ⟨h1, h2, h3⟩ => ⟨by rw [h1, he], by rw [he] at h2; exact h2, h3⟩
set_option maxHeartbeats 4000000
set_option maxRecDepth 100000
theorem m_shown (w : World) : Calls Try.prog 28 #[] w fun e w' => e = .returned (.bool true) ∧ Kept w w' := by
  have E1 : Hid (mh0.mWrite 0 3 1 5 (secN 1) = (mh1, 0)) := Lib.hid (Prod.ext rfl (show (mh0.mWrite 0 3 1 5 (secN 1)).2 = 0 from congrArg Prod.fst mh_e))
  have E2 : Hid (mh2.mWrite 0 3 1 5 (secN 2) = (mh3, 0)) := Lib.hid (Prod.ext rfl (show (mh2.mWrite 0 3 1 5 (secN 2)).2 = 0 from congrArg Prod.snd mh_e))
  obtain ⟨r1, r2, r3⟩ : mh2.mRead 0 3 1 5 = (secN 1, 0) ∧ mh3.mRead 0 3 1 5 = (secN 2, 0) ∧ mh4.mRead 0 3 1 5 = (zeroB, 5) := by simpa only [Prod.mk.injEq] using mh_r
  have R1 := Lib.hid r1; have R2 := Lib.hid r2; have R3 := Lib.hid r3
  clear r1 r2 r3
  have H1 : ∀ W, Calls Try.prog 29 #[.agg #[.int .i64 4, .int .i64 114], .int .i64 7] W fun e w' => e = .returned (.tuple #[.agg #[.int .i64 4, .int .i64 121], .bool true]) ∧ Kept W w' := fun W => m_Home 4 114 7 (by decide) (by decide) W
  have H2 : ∀ W, Calls Try.prog 29 #[.agg #[.int .i64 0, .int .i64 0], .int .i64 8] W fun e w' => e = .returned (.tuple #[.agg #[.int .i64 0, .int .i64 0], .bool false]) ∧ Kept W w' := fun W => m_Home 0 0 8 (by decide) (by decide) W
  have HH1 := Lib.hid H1; have HH2 := Lib.hid H2
  clear H1 H2
  go_enter Try.func28, Try.ntmps28
  go_wp2_with fail
  refine Calls.mono (m_laid 2 (by decide) w w (fun _ => False) (Kept.refl _) (fun _ h => h.elim)) ?_
  rintro e w1 ⟨qb, rfl, hb, hr⟩
  have HB1 : Hid (BK w (fun _ => False) w1 qb mh0) := Lib.hid hb
  clear hb hr
  go_wp2_with (refine stop_at (o := ⟨some 2, _, _, _, _, _⟩) ?_)
  refine Stop.mk ?_
  refine wpList_new_row rfl rfl _ _ rfl rfl ty_plc _ zero_plc rfl [.int .i64 0, .int .i64 3] rfl rfl (one_plc _ _) rfl ?_
  intro w2 hz hs hk
  have HB2 := Lib.hid (HB1.out.box hk hs)
  have X2 := Lib.hid (Pl.of hz.out)
  generalize w1.heap.size = Bx at *
  clear hz hs hk HB1
  go_wp2_with (refine stop_at (o := ⟨some 3, _, _, _, _, _⟩) ?_)
  refine Stop.mk ?_
  refine wpList_new_row rfl rfl _ _ rfl rfl ty_plc _ zero_plc rfl [.int .i64 1, .int .i64 5] rfl rfl (one_plc _ _) rfl ?_
  intro w3 hz hs hk
  have HB3 := Lib.hid (HB2.out.box hk hs)
  have X3 := Lib.hid (X2.out.kept hk)
  have Z3 := Lib.hid (Pl.of hz.out)
  generalize w2.heap.size = Bz at *
  clear hz hs hk HB2 X2
  go_upto_region 6 with fail
  have hS : Pl w3.drew Bx 0 3 ∧ Pl w3.drew Bz 1 5 := ⟨X3.out, Z3.out⟩
  refine wp_region_calm ?_
  refine wp_region_E (fun W => Pl W Bx 0 3 ∧ Pl W Bz 1 5) 100 (by kernel_rfl) ?_
  refine wpAnyE_take (i := 0) (v := ?_) (listed' := #[true, false, false, false, false, false, false]) (by rfl) (by kernel_rfl) (by kernel_rfl) calm_put hS (by rfl) ?_ ?_
  rotate_left
  · intro W hW; clear hW; go_simp; try (with_reducible rfl)
  simp only [Act.put, List.getElem_toArray, List.getElem_cons_succ, List.getElem_cons_zero, List.setIfInBounds_toArray, List.set_cons_zero, List.set_cons_succ]
  refine wpAnyE_take (i := 1) (v := ?_) (listed' := #[true, true, false, false, false, false, false]) (by rfl) (by kernel_rfl) (by kernel_rfl) calm_put hS (by rfl) ?_ ?_
  rotate_left
  · intro W hW; obtain ⟨⟨p0, p1⟩, q0, q1⟩ := hW; go_simp; try (with_reducible rfl)
  simp only [Act.put, List.getElem_toArray, List.getElem_cons_succ, List.getElem_cons_zero, List.setIfInBounds_toArray, List.set_cons_zero, List.set_cons_succ]
  refine wpAnyE_take (i := 2) (v := ?_) (listed' := #[true, true, true, false, false, false, false]) (by rfl) (by kernel_rfl) (by kernel_rfl) calm_put hS (by rfl) ?_ ?_
  rotate_left
  · intro W hW; obtain ⟨⟨p0, p1⟩, q0, q1⟩ := hW; go_simp; try (with_reducible rfl)
  simp only [Act.put, List.getElem_toArray, List.getElem_cons_succ, List.getElem_cons_zero, List.setIfInBounds_toArray, List.set_cons_zero, List.set_cons_succ]
  refine wpAnyE_one (i := 3) (listed' := #[true, true, true, true, false, false, false]) (by rfl) (by kernel_rfl) (by kernel_rfl) (by rfl) (fun K hK => ?_)
  simp only [Act.put, List.getElem_toArray, List.getElem_cons_succ, List.getElem_cons_zero, List.setIfInBounds_toArray, List.set_cons_zero, List.set_cons_succ]
  go_wp2_with fail
  refine Calls.mono (m_sector 1 _) ?_
  rintro e wsec ⟨rfl, hks⟩
  have hS := (⟨hS.1.kept hks, hS.2.kept hks⟩ : _ ∧ _)
  refine hK _ _ (fun _ => hS) ?_; clear hK K
  refine wpAnyE_one (i := 4) (listed' := #[true, true, true, true, true, false, false]) (by rfl) (by kernel_rfl) (by kernel_rfl) (by rfl) (fun K hK => ?_)
  simp only [Act.put, List.getElem_toArray, List.getElem_cons_succ, List.getElem_cons_zero, List.setIfInBounds_toArray, List.set_cons_zero, List.set_cons_succ]
  go_wp2_with fail
  refine Calls.mono (m_WriteE (HB3.out.kept ((Kept.refl _).drew.trans hks)).1 mh0_u 0 3 1 5 (s := secN 1) (secN_len 1) mh0_u1 E1.out) ?_
  rintro e w5 ⟨rfl, hb, hr⟩
  have HB5 := Lib.hid hb
  have hS := (⟨hS.1.same (hr Bx (.inl (.inr rfl))), hS.2.same (hr Bz (.inr rfl))⟩ : _ ∧ _)
  clear hb hr hks
  refine hK _ _ (fun _ => hS) ?_; clear hK K
  refine wpAnyE_take (i := 5) (v := ?_) (listed' := #[true, true, true, true, true, true, false]) (by rfl) (by kernel_rfl) (by kernel_rfl) calm_put hS (by rfl) ?_ ?_
  rotate_left
  · intro W hW; clear hW; go_simp; try (with_reducible rfl)
  simp only [Act.put, List.getElem_toArray, List.getElem_cons_succ, List.getElem_cons_zero, List.setIfInBounds_toArray, List.set_cons_zero, List.set_cons_succ]
  refine wpAnyE_one (i := 6) (listed' := #[true, true, true, true, true, true, true]) (by rfl) (by kernel_rfl) (by kernel_rfl) (by rfl) (fun K hK => ?_)
  simp only [Act.put, List.getElem_toArray, List.getElem_cons_succ, List.getElem_cons_zero, List.setIfInBounds_toArray, List.set_cons_zero, List.set_cons_succ]
  go_wp2
  refine hK _ _ (fun _ => hS) ?_; clear hK K
  refine wpAnyE_done (by kernel_rfl) ?_ _
  refine calm_normal ?_

  obtain ⟨⟨p0, p1⟩, q0, q1⟩ := hS
  have X5 : Hid (Pl w5 Bx 0 3) := Lib.hid ⟨p0, p1⟩
  have Z5 : Hid (Pl w5 Bz 1 5) := Lib.hid ⟨q0, q1⟩
  clear p0 p1 q0 q1 X3 Z3 HB3
  go_wp2_with fail
  refine Calls.mono (st_fail HB5.out mh1_u 0 (T' := mh2) rfl rfl) ?_
  rintro e w6 ⟨rfl, hb, hr⟩
  have HB6 := Lib.hid hb
  have X6 := Lib.hid (X5.out.same (hr Bx (.inl (.inr rfl))))
  have Z6 := Lib.hid (Z5.out.same (hr Bz (.inr rfl)))
  obtain ⟨p0, p1⟩ := X6.out
  obtain ⟨q0, q1⟩ := Z6.out
  clear hb hr HB5 X5 Z5
  go_wp2_with fail
  refine Calls.mono (m_ReadE HB6.out mh2_u 0 3 1 5 R1.out) ?_
  rintro e w7 ⟨rfl, hk⟩
  have HB7 := Lib.hid (HB6.out.kept hk).1
  have X7 := Lib.hid (X6.out.kept hk)
  have Z7 := Lib.hid (Z6.out.kept hk)
  clear hk HB6 X6 Z6 p0 p1 q0 q1
  go_wp2_with (refine stop_at (o := ⟨some 5, _, _, _, _, _⟩) ?_)
  refine Stop.mk ?_
  refine wpList_new_row rfl rfl _ _ rfl rfl ty_sec (u8s zeroB) zero_sec (by rw [u8s_length, zeroB_length]) (u8s (secN 1)) rfl (by rw [u8s_length, secN_len]) (u8s_one _) rfl ?_
  intro w8 hz hs hk
  have HB8 := Lib.hid (HB7.out.box hk hs)
  have X8 := Lib.hid (X7.out.kept hk)
  have Z8 := Lib.hid (Z7.out.kept hk)
  have S8 := hz
  generalize w7.heap.size = Bs at *
  clear hz hs hk HB7 X7 Z7
  go_upto_region 9 with fail
  have hS : Pl w8.drew Bx 0 3 ∧ Pl w8.drew Bz 1 5 := ⟨X8.out, Z8.out⟩
  refine wp_region_calm ?_
  refine wp_region_E (fun W => Pl W Bx 0 3 ∧ Pl W Bz 1 5) 100 (by kernel_rfl) ?_
  refine wpAnyE_take (i := 0) (v := ?_) (listed' := #[true, false, false, false, false, false, false]) (by rfl) (by kernel_rfl) (by kernel_rfl) calm_put hS (by rfl) ?_ ?_
  rotate_left
  · intro W hW; clear hW; go_simp; try (with_reducible rfl)
  simp only [Act.put, List.getElem_toArray, List.getElem_cons_succ, List.getElem_cons_zero, List.setIfInBounds_toArray, List.set_cons_zero, List.set_cons_succ]
  refine wpAnyE_take (i := 1) (v := ?_) (listed' := #[true, true, false, false, false, false, false]) (by rfl) (by kernel_rfl) (by kernel_rfl) calm_put hS (by rfl) ?_ ?_
  rotate_left
  · intro W hW; obtain ⟨⟨p0, p1⟩, q0, q1⟩ := hW; go_simp; try (with_reducible rfl)
  simp only [Act.put, List.getElem_toArray, List.getElem_cons_succ, List.getElem_cons_zero, List.setIfInBounds_toArray, List.set_cons_zero, List.set_cons_succ]
  refine wpAnyE_take (i := 2) (v := ?_) (listed' := #[true, true, true, false, false, false, false]) (by rfl) (by kernel_rfl) (by kernel_rfl) calm_put hS (by rfl) ?_ ?_
  rotate_left
  · intro W hW; obtain ⟨⟨p0, p1⟩, q0, q1⟩ := hW; go_simp; try (with_reducible rfl)
  simp only [Act.put, List.getElem_toArray, List.getElem_cons_succ, List.getElem_cons_zero, List.setIfInBounds_toArray, List.set_cons_zero, List.set_cons_succ]
  refine wpAnyE_one (i := 3) (listed' := #[true, true, true, true, false, false, false]) (by rfl) (by kernel_rfl) (by kernel_rfl) (by rfl) (fun K hK => ?_)
  simp only [Act.put, List.getElem_toArray, List.getElem_cons_succ, List.getElem_cons_zero, List.setIfInBounds_toArray, List.set_cons_zero, List.set_cons_succ]
  go_wp2_with fail
  refine Calls.mono (m_sector 2 _) ?_
  rintro e wsec ⟨rfl, hks⟩
  have hS := (⟨hS.1.kept hks, hS.2.kept hks⟩ : _ ∧ _)
  refine hK _ _ (fun _ => hS) ?_; clear hK K
  refine wpAnyE_one (i := 4) (listed' := #[true, true, true, true, true, false, false]) (by rfl) (by kernel_rfl) (by kernel_rfl) (by rfl) (fun K hK => ?_)
  simp only [Act.put, List.getElem_toArray, List.getElem_cons_succ, List.getElem_cons_zero, List.setIfInBounds_toArray, List.set_cons_zero, List.set_cons_succ]
  go_wp2_with fail
  refine Calls.mono (m_WriteE (HB8.out.kept ((Kept.refl _).drew.trans hks)).1 mh2_u 0 3 1 5 (s := secN 2) (secN_len 2) mh2_u1 E2.out) ?_
  rintro e w10 ⟨rfl, hb, hr⟩
  have HB10 := Lib.hid hb
  have S10 := Lib.hid ((hr Bs (.inr rfl)).trans (((Kept.refl _).drew.trans hks).block S8.out))
  have hS := (⟨hS.1.same (hr Bx (.inl (.inl (.inr rfl)))), hS.2.same (hr Bz (.inl (.inr rfl)))⟩ : _ ∧ _)
  clear hb hr hks
  refine hK _ _ (fun _ => hS) ?_; clear hK K
  refine wpAnyE_take (i := 5) (v := ?_) (listed' := #[true, true, true, true, true, true, false]) (by rfl) (by kernel_rfl) (by kernel_rfl) calm_put hS (by rfl) ?_ ?_
  rotate_left
  · intro W hW; clear hW; go_simp; try (with_reducible rfl)
  simp only [Act.put, List.getElem_toArray, List.getElem_cons_succ, List.getElem_cons_zero, List.setIfInBounds_toArray, List.set_cons_zero, List.set_cons_succ]
  refine wpAnyE_one (i := 6) (listed' := #[true, true, true, true, true, true, true]) (by rfl) (by kernel_rfl) (by kernel_rfl) (by rfl) (fun K hK => ?_)
  simp only [Act.put, List.getElem_toArray, List.getElem_cons_succ, List.getElem_cons_zero, List.setIfInBounds_toArray, List.set_cons_zero, List.set_cons_succ]
  go_wp2
  refine hK _ _ (fun _ => hS) ?_; clear hK K
  refine wpAnyE_done (by kernel_rfl) ?_ _
  refine calm_normal ?_

  obtain ⟨⟨p0, p1⟩, q0, q1⟩ := hS
  have X10 : Hid (Pl w10 Bx 0 3) := Lib.hid ⟨p0, p1⟩
  have Z10 : Hid (Pl w10 Bz 1 5) := Lib.hid ⟨q0, q1⟩
  clear X8 Z8 HB8 S8
  go_wp2_with fail
  refine Calls.mono (m_ReadE HB10.out mh3_u 0 3 1 5 R2.out) ?_
  rintro e w11 ⟨rfl, hk⟩
  have HB11 := Lib.hid (HB10.out.kept hk).1
  have X11 := Lib.hid (X10.out.kept hk)
  have Z11 := Lib.hid (Z10.out.kept hk)
  have S11 := Lib.hid (hk.block S10.out)
  clear hk HB10 X10 Z10 p0 p1 q0 q1 S10
  go_wp2_with (refine stop_at (o := ⟨some 8, _, _, _, _, _⟩) ?_)
  refine Stop.mk ?_
  refine wpList_new_row rfl rfl _ _ rfl rfl ty_sec (u8s zeroB) zero_sec (by rw [u8s_length, zeroB_length]) (u8s (secN 2)) rfl (by rw [u8s_length, secN_len]) (u8s_one _) rfl ?_
  intro w12 hz hs hk
  have HB12 := Lib.hid (HB11.out.box hk hs)
  have X12 := Lib.hid (X11.out.kept hk)
  have Z12 := Lib.hid (Z11.out.kept hk)
  have S12 := Lib.hid (hk.block S11.out)
  have Y12 := hz
  generalize w11.heap.size = By at *
  clear hz hs hk HB11 X11 Z11 S11
  go_wp2_with fail
  refine Calls.mono (st_fail HB12.out mh3_u 1 (T' := mh4) rfl rfl) ?_
  rintro e w13 ⟨rfl, hb, hr⟩
  have HB13 := Lib.hid hb
  have X13 := Lib.hid (X12.out.same (hr Bx (.inl (.inl (.inl (.inr rfl))))))
  have Z13 := Lib.hid (Z12.out.same (hr Bz (.inl (.inl (.inr rfl)))))
  have S13 := Lib.hid ((hr Bs (.inl (.inr rfl))).trans S12.out)
  have Y13 := Lib.hid ((hr By (.inr rfl)).trans Y12.out)
  obtain ⟨p0, p1⟩ := X13.out
  obtain ⟨q0, q1⟩ := Z13.out
  clear hb hr HB12 X12 Z12 S12 Y12
  go_wp2_with fail
  refine Calls.mono (m_ReadE HB13.out mh4_u 0 3 1 5 R3.out) ?_
  rintro e w14 ⟨rfl, hk⟩
  have HK14 := Lib.hid (HB13.out.keeps.trans hk)
  have S14 := Lib.hid (hk.block S13.out)
  have Y14 := Lib.hid (hk.block Y13.out)
  clear hk HB13 X13 Z13 S13 Y13 p0 p1 q0 q1
  go_wp2_with (refine stop_at (o := ⟨some 10, _, _, _, _, _⟩) ?_)
  refine Stop.mk ?_
  refine wpList_new_row rfl rfl _ _ rfl rfl ty_sec (u8s zeroB) zero_sec (by rw [u8s_length, zeroB_length]) (u8s zeroB) rfl (by rw [u8s_length, zeroB_length]) (u8s_one _) rfl ?_
  intro w15 hz hs hk
  have HK15 := Lib.hid (HK14.out.trans hk)
  have S15 := Lib.hid (hk.block S14.out)
  have Y15 := Lib.hid (hk.block Y14.out)
  generalize w14.heap.size = B10 at *
  clear hz hs hk HK14 S14 Y14
  go_wp2_with fail
  refine Calls.mono (HH1.out _) ?_
  rintro e w16 ⟨rfl, hk⟩
  have HK16 := Lib.hid (HK15.out.trans hk)
  have S16 := Lib.hid (hk.block S15.out)
  have Y16 := Lib.hid (hk.block Y15.out)
  clear hk HK15 S15 Y15
  go_wp2_with (refine stop_at (o := ⟨some 12, _, _, _, _, _⟩) ?_)
  refine Stop.mk ?_
  refine wpList_new_row rfl rfl _ _ rfl rfl ty_plc _ zero_plc rfl [.int .i64 4, .int .i64 121] rfl rfl (one_plc _ _) rfl ?_
  intro w17 hz hs hk
  have HK17 := Lib.hid (HK16.out.trans hk)
  have S17 := Lib.hid (hk.block S16.out)
  have Y17 := Lib.hid (hk.block Y16.out)
  have P17 := hz
  generalize w16.heap.size = Bp at *
  clear hz hs hk HK16 S16 Y16
  go_wp2_with fail
  refine Calls.mono (HH2.out _) ?_
  rintro e w18 ⟨rfl, hk⟩
  have HK18 := Lib.hid (HK17.out.trans hk)
  have S18 := Lib.hid (hk.block S17.out)
  have Y18 := Lib.hid (hk.block Y17.out)
  have P18 := Lib.hid (hk.block P17.out)
  clear hk HK17 S17 Y17 P17
  go_wp2_with (refine stop_at (o := ⟨some 14, _, _, _, _, _⟩) ?_)
  refine Stop.mk ?_
  refine wpList_new_row rfl rfl _ _ rfl rfl ty_plc _ zero_plc rfl [.int .i64 0, .int .i64 0] rfl rfl (one_plc _ _) rfl ?_
  intro w19 hz hs hk
  have HK19 := Lib.hid (HK18.out.trans hk)
  have S19 := Lib.hid (hk.block S18.out)
  have Y19 := Lib.hid (hk.block Y18.out)
  have P19 := Lib.hid (hk.block P18.out)
  generalize w18.heap.size = B14 at *
  clear hz hs hk HK18 S18 Y18 P18
  go_upto_region 15 with fail
  have hS : Kept w w19.drew ∧ Cells w19.drew Bs 0 (u8s (secN 1)) ∧ Cells w19.drew By 0 (u8s (secN 2)) ∧ Cells w19.drew Bp 0 [.int .i64 4, .int .i64 121] := ⟨HK19.out.drew, Cells.of_block S19.out, Cells.of_block Y19.out, Cells.of_block P19.out⟩
  clear HK19 S19 Y19 P19
  refine wp_region_calm ?_
  refine wp_region_E (fun W => Kept w W ∧ Cells W Bs 0 (u8s (secN 1)) ∧ Cells W By 0 (u8s (secN 2)) ∧ Cells W Bp 0 [.int .i64 4, .int .i64 121]) 100 (by kernel_rfl) ?_
  refine wpAnyE_take (i := 0) (v := ?_) (listed' := #[true, false, false, false, false, false, false, false, false, false, false, false, false, false, false, false, false, false, false, false, false, false, false, false, false, false, false, false, false, false, false, false, false, false, false, false, false, false, false]) (by rfl) (by kernel_rfl) (by kernel_rfl) calm_put hS (by rfl) ?_ ?_
  rotate_left
  · intro W hW; clear hW; go_simp; try (with_reducible rfl)
  simp only [Act.put, List.getElem_toArray, List.getElem_cons_succ, List.getElem_cons_zero, List.setIfInBounds_toArray, List.set_cons_zero, List.set_cons_succ]
  refine wpAnyE_take (i := 1) (v := ?_) (listed' := #[true, true, false, false, false, false, false, false, false, false, false, false, false, false, false, false, false, false, false, false, false, false, false, false, false, false, false, false, false, false, false, false, false, false, false, false, false, false, false]) (by rfl) (by kernel_rfl) (by kernel_rfl) calm_put hS (by rfl) ?_ ?_
  rotate_left
  · intro W hW; clear hW; go_simp; try (with_reducible rfl)
  simp only [Act.put, List.getElem_toArray, List.getElem_cons_succ, List.getElem_cons_zero, List.setIfInBounds_toArray, List.set_cons_zero, List.set_cons_succ]
  refine wpAnyE_take (i := 2) (v := .agg (u8s (secN 1)).toArray) (listed' := #[true, true, true, false, false, false, false, false, false, false, false, false, false, false, false, false, false, false, false, false, false, false, false, false, false, false, false, false, false, false, false, false, false, false, false, false, false, false, false]) (by rfl) (by kernel_rfl) (by kernel_rfl) calm_put hS (by rfl) ?_ ?_
  · intro W hW; skip; exact exec_load_sec _ rfl Bs rfl (secN 1) (secN_len 1) hW.2.1
  simp only [Act.put, List.getElem_toArray, List.getElem_cons_succ, List.getElem_cons_zero, List.setIfInBounds_toArray, List.set_cons_zero, List.set_cons_succ]
  refine wpAnyE_one (i := 3) (listed' := #[true, true, true, true, false, false, false, false, false, false, false, false, false, false, false, false, false, false, false, false, false, false, false, false, false, false, false, false, false, false, false, false, false, false, false, false, false, false, false]) (by rfl) (by kernel_rfl) (by kernel_rfl) (by rfl) (fun K hK => ?_)
  simp only [Act.put, List.getElem_toArray, List.getElem_cons_succ, List.getElem_cons_zero, List.setIfInBounds_toArray, List.set_cons_zero, List.set_cons_succ]
  go_wp2_with fail
  refine Calls.mono (m_sector 1 _) ?_
  rintro e wsec1 ⟨rfl, hks⟩
  have hS := (⟨hS.1.trans hks, hS.2.1.kept hks, hS.2.2.1.kept hks, hS.2.2.2.kept hks⟩ : _ ∧ _ ∧ _ ∧ _)
  clear hks
  refine hK _ _ (fun _ => hS) ?_; clear hK K
  refine wpAnyE_take (i := 4) (v := .bool true) (listed' := #[true, true, true, true, true, false, false, false, false, false, false, false, false, false, false, false, false, false, false, false, false, false, false, false, false, false, false, false, false, false, false, false, false, false, false, false, false, false, false]) (by rfl) (by kernel_rfl) (by kernel_rfl) calm_put hS (by rfl) ?_ ?_
  · intro W hW; clear hW; exact exec_cmp_secE _ _ rfl (secN 1) (secN_len 1) rfl rfl
  simp only [Act.put, List.getElem_toArray, List.getElem_cons_succ, List.getElem_cons_zero, List.setIfInBounds_toArray, List.set_cons_zero, List.set_cons_succ]
  refine wpAnyE_take (i := 5) (v := ?_) (listed' := #[true, true, true, true, true, true, false, false, false, false, false, false, false, false, false, false, false, false, false, false, false, false, false, false, false, false, false, false, false, false, false, false, false, false, false, false, false, false, false]) (by rfl) (by kernel_rfl) (by kernel_rfl) calm_put hS (by rfl) ?_ ?_
  rotate_left
  · intro W hW; clear hW; go_simp; try (with_reducible rfl)
  simp only [Act.put, List.getElem_toArray, List.getElem_cons_succ, List.getElem_cons_zero, List.setIfInBounds_toArray, List.set_cons_zero, List.set_cons_succ]
  refine wpAnyE_take (i := 6) (v := ?_) (listed' := #[true, true, true, true, true, true, true, false, false, false, false, false, false, false, false, false, false, false, false, false, false, false, false, false, false, false, false, false, false, false, false, false, false, false, false, false, false, false, false]) (by rfl) (by kernel_rfl) (by kernel_rfl) calm_put hS (by rfl) ?_ ?_
  rotate_left
  · intro W hW; clear hW; go_simp; try (with_reducible rfl)
  simp only [Act.put, List.getElem_toArray, List.getElem_cons_succ, List.getElem_cons_zero, List.setIfInBounds_toArray, List.set_cons_zero, List.set_cons_succ]
  refine wpAnyE_take (i := 7) (v := ?_) (listed' := #[true, true, true, true, true, true, true, true, false, false, false, false, false, false, false, false, false, false, false, false, false, false, false, false, false, false, false, false, false, false, false, false, false, false, false, false, false, false, false]) (by rfl) (by kernel_rfl) (by kernel_rfl) calm_put hS (by rfl) ?_ ?_
  rotate_left
  · intro W hW; clear hW; go_simp; try (with_reducible rfl)
  simp only [Act.put, List.getElem_toArray, List.getElem_cons_succ, List.getElem_cons_zero, List.setIfInBounds_toArray, List.set_cons_zero, List.set_cons_succ]
  refine wpAnyE_take (i := 8) (v := ?_) (listed' := #[true, true, true, true, true, true, true, true, true, false, false, false, false, false, false, false, false, false, false, false, false, false, false, false, false, false, false, false, false, false, false, false, false, false, false, false, false, false, false]) (by rfl) (by kernel_rfl) (by kernel_rfl) calm_put hS (by rfl) ?_ ?_
  rotate_left
  · intro W hW; clear hW; go_simp; try (with_reducible rfl)
  simp only [Act.put, List.getElem_toArray, List.getElem_cons_succ, List.getElem_cons_zero, List.setIfInBounds_toArray, List.set_cons_zero, List.set_cons_succ]
  refine wpAnyE_take (i := 9) (v := ?_) (listed' := #[true, true, true, true, true, true, true, true, true, true, false, false, false, false, false, false, false, false, false, false, false, false, false, false, false, false, false, false, false, false, false, false, false, false, false, false, false, false, false]) (by rfl) (by kernel_rfl) (by kernel_rfl) calm_put hS (by rfl) ?_ ?_
  rotate_left
  · intro W hW; clear hW; go_simp; try (with_reducible rfl)
  simp only [Act.put, List.getElem_toArray, List.getElem_cons_succ, List.getElem_cons_zero, List.setIfInBounds_toArray, List.set_cons_zero, List.set_cons_succ]
  refine wpAnyE_take (i := 10) (v := ?_) (listed' := #[true, true, true, true, true, true, true, true, true, true, true, false, false, false, false, false, false, false, false, false, false, false, false, false, false, false, false, false, false, false, false, false, false, false, false, false, false, false, false]) (by rfl) (by kernel_rfl) (by kernel_rfl) calm_put hS (by rfl) ?_ ?_
  rotate_left
  · intro W hW; clear hW; go_simp; try (with_reducible rfl)
  simp only [Act.put, List.getElem_toArray, List.getElem_cons_succ, List.getElem_cons_zero, List.setIfInBounds_toArray, List.set_cons_zero, List.set_cons_succ]
  refine wpAnyE_take (i := 11) (v := ?_) (listed' := #[true, true, true, true, true, true, true, true, true, true, true, true, false, false, false, false, false, false, false, false, false, false, false, false, false, false, false, false, false, false, false, false, false, false, false, false, false, false, false]) (by rfl) (by kernel_rfl) (by kernel_rfl) calm_put hS (by rfl) ?_ ?_
  rotate_left
  · intro W hW; clear hW; go_simp; try (with_reducible rfl)
  simp only [Act.put, List.getElem_toArray, List.getElem_cons_succ, List.getElem_cons_zero, List.setIfInBounds_toArray, List.set_cons_zero, List.set_cons_succ]
  refine wpAnyE_take (i := 12) (v := ?_) (listed' := #[true, true, true, true, true, true, true, true, true, true, true, true, true, false, false, false, false, false, false, false, false, false, false, false, false, false, false, false, false, false, false, false, false, false, false, false, false, false, false]) (by rfl) (by kernel_rfl) (by kernel_rfl) calm_put hS (by rfl) ?_ ?_
  rotate_left
  · intro W hW; clear hW; go_simp; try (with_reducible rfl)
  simp only [Act.put, List.getElem_toArray, List.getElem_cons_succ, List.getElem_cons_zero, List.setIfInBounds_toArray, List.set_cons_zero, List.set_cons_succ]
  refine wpAnyE_take (i := 13) (v := ?_) (listed' := #[true, true, true, true, true, true, true, true, true, true, true, true, true, true, false, false, false, false, false, false, false, false, false, false, false, false, false, false, false, false, false, false, false, false, false, false, false, false, false]) (by rfl) (by kernel_rfl) (by kernel_rfl) calm_put hS (by rfl) ?_ ?_
  rotate_left
  · intro W hW; clear hW; go_simp; try (with_reducible rfl)
  simp only [Act.put, List.getElem_toArray, List.getElem_cons_succ, List.getElem_cons_zero, List.setIfInBounds_toArray, List.set_cons_zero, List.set_cons_succ]
  refine wpAnyE_take (i := 14) (v := .agg (u8s (secN 2)).toArray) (listed' := #[true, true, true, true, true, true, true, true, true, true, true, true, true, true, true, false, false, false, false, false, false, false, false, false, false, false, false, false, false, false, false, false, false, false, false, false, false, false, false]) (by rfl) (by kernel_rfl) (by kernel_rfl) calm_put hS (by rfl) ?_ ?_
  · intro W hW; skip; exact exec_load_sec _ rfl By rfl (secN 2) (secN_len 2) hW.2.2.1
  simp only [Act.put, List.getElem_toArray, List.getElem_cons_succ, List.getElem_cons_zero, List.setIfInBounds_toArray, List.set_cons_zero, List.set_cons_succ]
  refine wpAnyE_one (i := 15) (listed' := #[true, true, true, true, true, true, true, true, true, true, true, true, true, true, true, true, false, false, false, false, false, false, false, false, false, false, false, false, false, false, false, false, false, false, false, false, false, false, false]) (by rfl) (by kernel_rfl) (by kernel_rfl) (by rfl) (fun K hK => ?_)
  simp only [Act.put, List.getElem_toArray, List.getElem_cons_succ, List.getElem_cons_zero, List.setIfInBounds_toArray, List.set_cons_zero, List.set_cons_succ]
  go_wp2_with fail
  refine Calls.mono (m_sector 2 _) ?_
  rintro e wsec2 ⟨rfl, hks⟩
  have hS := (⟨hS.1.trans hks, hS.2.1.kept hks, hS.2.2.1.kept hks, hS.2.2.2.kept hks⟩ : _ ∧ _ ∧ _ ∧ _)
  clear hks
  refine hK _ _ (fun _ => hS) ?_; clear hK K
  refine wpAnyE_take (i := 16) (v := .bool true) (listed' := #[true, true, true, true, true, true, true, true, true, true, true, true, true, true, true, true, true, false, false, false, false, false, false, false, false, false, false, false, false, false, false, false, false, false, false, false, false, false, false]) (by rfl) (by kernel_rfl) (by kernel_rfl) calm_put hS (by rfl) ?_ ?_
  · intro W hW; clear hW; exact exec_cmp_secE _ _ rfl (secN 2) (secN_len 2) rfl rfl
  simp only [Act.put, List.getElem_toArray, List.getElem_cons_succ, List.getElem_cons_zero, List.setIfInBounds_toArray, List.set_cons_zero, List.set_cons_succ]
  refine wpAnyE_take (i := 17) (v := ?_) (listed' := #[true, true, true, true, true, true, true, true, true, true, true, true, true, true, true, true, true, true, false, false, false, false, false, false, false, false, false, false, false, false, false, false, false, false, false, false, false, false, false]) (by rfl) (by kernel_rfl) (by kernel_rfl) calm_put hS (by rfl) ?_ ?_
  rotate_left
  · intro W hW; clear hW; go_simp; try (with_reducible rfl)
  simp only [Act.put, List.getElem_toArray, List.getElem_cons_succ, List.getElem_cons_zero, List.setIfInBounds_toArray, List.set_cons_zero, List.set_cons_succ]
  refine wpAnyE_take (i := 18) (v := ?_) (listed' := #[true, true, true, true, true, true, true, true, true, true, true, true, true, true, true, true, true, true, true, false, false, false, false, false, false, false, false, false, false, false, false, false, false, false, false, false, false, false, false]) (by rfl) (by kernel_rfl) (by kernel_rfl) calm_put hS (by rfl) ?_ ?_
  rotate_left
  · intro W hW; clear hW; go_simp; try (with_reducible rfl)
  simp only [Act.put, List.getElem_toArray, List.getElem_cons_succ, List.getElem_cons_zero, List.setIfInBounds_toArray, List.set_cons_zero, List.set_cons_succ]
  refine wpAnyE_take (i := 19) (v := ?_) (listed' := #[true, true, true, true, true, true, true, true, true, true, true, true, true, true, true, true, true, true, true, true, false, false, false, false, false, false, false, false, false, false, false, false, false, false, false, false, false, false, false]) (by rfl) (by kernel_rfl) (by kernel_rfl) calm_put hS (by rfl) ?_ ?_
  rotate_left
  · intro W hW; clear hW; go_simp; try (with_reducible rfl)
  simp only [Act.put, List.getElem_toArray, List.getElem_cons_succ, List.getElem_cons_zero, List.setIfInBounds_toArray, List.set_cons_zero, List.set_cons_succ]
  refine wpAnyE_take (i := 20) (v := ?_) (listed' := #[true, true, true, true, true, true, true, true, true, true, true, true, true, true, true, true, true, true, true, true, true, false, false, false, false, false, false, false, false, false, false, false, false, false, false, false, false, false, false]) (by rfl) (by kernel_rfl) (by kernel_rfl) calm_put hS (by rfl) ?_ ?_
  rotate_left
  · intro W hW; clear hW; go_simp; try (with_reducible rfl)
  simp only [Act.put, List.getElem_toArray, List.getElem_cons_succ, List.getElem_cons_zero, List.setIfInBounds_toArray, List.set_cons_zero, List.set_cons_succ]
  refine wpAnyE_take (i := 21) (v := ?_) (listed' := #[true, true, true, true, true, true, true, true, true, true, true, true, true, true, true, true, true, true, true, true, true, true, false, false, false, false, false, false, false, false, false, false, false, false, false, false, false, false, false]) (by rfl) (by kernel_rfl) (by kernel_rfl) calm_put hS (by rfl) ?_ ?_
  rotate_left
  · intro W hW; clear hW; go_simp; try (with_reducible rfl)
  simp only [Act.put, List.getElem_toArray, List.getElem_cons_succ, List.getElem_cons_zero, List.setIfInBounds_toArray, List.set_cons_zero, List.set_cons_succ]
  refine wpAnyE_take (i := 22) (v := ?_) (listed' := #[true, true, true, true, true, true, true, true, true, true, true, true, true, true, true, true, true, true, true, true, true, true, true, false, false, false, false, false, false, false, false, false, false, false, false, false, false, false, false]) (by rfl) (by kernel_rfl) (by kernel_rfl) calm_put hS (by rfl) ?_ ?_
  rotate_left
  · intro W hW; clear hW; go_simp; try (with_reducible rfl)
  simp only [Act.put, List.getElem_toArray, List.getElem_cons_succ, List.getElem_cons_zero, List.setIfInBounds_toArray, List.set_cons_zero, List.set_cons_succ]
  refine wpAnyE_take (i := 23) (v := ?_) (listed' := #[true, true, true, true, true, true, true, true, true, true, true, true, true, true, true, true, true, true, true, true, true, true, true, true, false, false, false, false, false, false, false, false, false, false, false, false, false, false, false]) (by rfl) (by kernel_rfl) (by kernel_rfl) calm_put hS (by rfl) ?_ ?_
  rotate_left
  · intro W hW; clear hW; go_simp; try (with_reducible rfl)
  simp only [Act.put, List.getElem_toArray, List.getElem_cons_succ, List.getElem_cons_zero, List.setIfInBounds_toArray, List.set_cons_zero, List.set_cons_succ]
  refine wpAnyE_take (i := 24) (v := ?_) (listed' := #[true, true, true, true, true, true, true, true, true, true, true, true, true, true, true, true, true, true, true, true, true, true, true, true, true, false, false, false, false, false, false, false, false, false, false, false, false, false, false]) (by rfl) (by kernel_rfl) (by kernel_rfl) calm_put hS (by rfl) ?_ ?_
  rotate_left
  · intro W hW; clear hW; go_simp; try (with_reducible rfl)
  simp only [Act.put, List.getElem_toArray, List.getElem_cons_succ, List.getElem_cons_zero, List.setIfInBounds_toArray, List.set_cons_zero, List.set_cons_succ]
  refine wpAnyE_take (i := 25) (v := ?_) (listed' := #[true, true, true, true, true, true, true, true, true, true, true, true, true, true, true, true, true, true, true, true, true, true, true, true, true, true, false, false, false, false, false, false, false, false, false, false, false, false, false]) (by rfl) (by kernel_rfl) (by kernel_rfl) calm_put hS (by rfl) ?_ ?_
  rotate_left
  · intro W hW; clear hW; go_simp; try (with_reducible rfl)
  simp only [Act.put, List.getElem_toArray, List.getElem_cons_succ, List.getElem_cons_zero, List.setIfInBounds_toArray, List.set_cons_zero, List.set_cons_succ]
  refine wpAnyE_take (i := 26) (v := ?_) (listed' := #[true, true, true, true, true, true, true, true, true, true, true, true, true, true, true, true, true, true, true, true, true, true, true, true, true, true, true, false, false, false, false, false, false, false, false, false, false, false, false]) (by rfl) (by kernel_rfl) (by kernel_rfl) calm_put hS (by rfl) ?_ ?_
  rotate_left
  · intro W hW; clear hW; go_simp; try (with_reducible rfl)
  simp only [Act.put, List.getElem_toArray, List.getElem_cons_succ, List.getElem_cons_zero, List.setIfInBounds_toArray, List.set_cons_zero, List.set_cons_succ]
  refine wpAnyE_take (i := 27) (v := .agg #[.int .i64 4, .int .i64 121]) (listed' := #[true, true, true, true, true, true, true, true, true, true, true, true, true, true, true, true, true, true, true, true, true, true, true, true, true, true, true, true, false, false, false, false, false, false, false, false, false, false, false]) (by rfl) (by kernel_rfl) (by kernel_rfl) calm_put hS (by rfl) ?_ ?_
  · intro W hW; skip; exact exec_load_plc _ rfl Bp rfl [.int .i64 4, .int .i64 121] rfl hW.2.2.2
  simp only [Act.put, List.getElem_toArray, List.getElem_cons_succ, List.getElem_cons_zero, List.setIfInBounds_toArray, List.set_cons_zero, List.set_cons_succ]
  refine wpAnyE_take (i := 28) (v := ?_) (listed' := #[true, true, true, true, true, true, true, true, true, true, true, true, true, true, true, true, true, true, true, true, true, true, true, true, true, true, true, true, true, false, false, false, false, false, false, false, false, false, false]) (by rfl) (by kernel_rfl) (by kernel_rfl) calm_put hS (by rfl) ?_ ?_
  rotate_left
  · intro W hW; clear hW; go_simp; try (with_reducible rfl)
  simp only [Act.put, List.getElem_toArray, List.getElem_cons_succ, List.getElem_cons_zero, List.setIfInBounds_toArray, List.set_cons_zero, List.set_cons_succ]
  refine wpAnyE_take (i := 29) (v := .bool true) (listed' := #[true, true, true, true, true, true, true, true, true, true, true, true, true, true, true, true, true, true, true, true, true, true, true, true, true, true, true, true, true, true, false, false, false, false, false, false, false, false, false]) (by rfl) (by kernel_rfl) (by kernel_rfl) calm_put hS (by rfl) ?_ ?_
  · intro W hW; clear hW; exact exec_eq_plc _ _ rfl 4 121 4 121 rfl rfl
  simp only [Act.put, List.getElem_toArray, List.getElem_cons_succ, List.getElem_cons_zero, List.setIfInBounds_toArray, List.set_cons_zero, List.set_cons_succ]
  refine wpAnyE_take (i := 30) (v := ?_) (listed' := #[true, true, true, true, true, true, true, true, true, true, true, true, true, true, true, true, true, true, true, true, true, true, true, true, true, true, true, true, true, true, true, false, false, false, false, false, false, false, false]) (by rfl) (by kernel_rfl) (by kernel_rfl) calm_put hS (by rfl) ?_ ?_
  rotate_left
  · intro W hW; clear hW; go_simp; try (with_reducible rfl)
  simp only [Act.put, List.getElem_toArray, List.getElem_cons_succ, List.getElem_cons_zero, List.setIfInBounds_toArray, List.set_cons_zero, List.set_cons_succ]
  refine wpAnyE_take (i := 31) (v := ?_) (listed' := #[true, true, true, true, true, true, true, true, true, true, true, true, true, true, true, true, true, true, true, true, true, true, true, true, true, true, true, true, true, true, true, true, false, false, false, false, false, false, false]) (by rfl) (by kernel_rfl) (by kernel_rfl) calm_put hS (by rfl) ?_ ?_
  rotate_left
  · intro W hW; clear hW; go_simp; try (with_reducible rfl)
  simp only [Act.put, List.getElem_toArray, List.getElem_cons_succ, List.getElem_cons_zero, List.setIfInBounds_toArray, List.set_cons_zero, List.set_cons_succ]
  refine wpAnyE_take (i := 32) (v := ?_) (listed' := #[true, true, true, true, true, true, true, true, true, true, true, true, true, true, true, true, true, true, true, true, true, true, true, true, true, true, true, true, true, true, true, true, true, false, false, false, false, false, false]) (by rfl) (by kernel_rfl) (by kernel_rfl) calm_put hS (by rfl) ?_ ?_
  rotate_left
  · intro W hW; clear hW; go_simp; try (with_reducible rfl)
  simp only [Act.put, List.getElem_toArray, List.getElem_cons_succ, List.getElem_cons_zero, List.setIfInBounds_toArray, List.set_cons_zero, List.set_cons_succ]
  refine wpAnyE_take (i := 33) (v := ?_) (listed' := #[true, true, true, true, true, true, true, true, true, true, true, true, true, true, true, true, true, true, true, true, true, true, true, true, true, true, true, true, true, true, true, true, true, true, false, false, false, false, false]) (by rfl) (by kernel_rfl) (by kernel_rfl) calm_put hS (by rfl) ?_ ?_
  rotate_left
  · intro W hW; clear hW; go_simp; try (with_reducible rfl)
  simp only [Act.put, List.getElem_toArray, List.getElem_cons_succ, List.getElem_cons_zero, List.setIfInBounds_toArray, List.set_cons_zero, List.set_cons_succ]
  refine wpAnyE_take (i := 34) (v := ?_) (listed' := #[true, true, true, true, true, true, true, true, true, true, true, true, true, true, true, true, true, true, true, true, true, true, true, true, true, true, true, true, true, true, true, true, true, true, true, false, false, false, false]) (by rfl) (by kernel_rfl) (by kernel_rfl) calm_put hS (by rfl) ?_ ?_
  rotate_left
  · intro W hW; clear hW; go_simp; try (with_reducible rfl)
  simp only [Act.put, List.getElem_toArray, List.getElem_cons_succ, List.getElem_cons_zero, List.setIfInBounds_toArray, List.set_cons_zero, List.set_cons_succ]
  refine wpAnyE_take (i := 35) (v := ?_) (listed' := #[true, true, true, true, true, true, true, true, true, true, true, true, true, true, true, true, true, true, true, true, true, true, true, true, true, true, true, true, true, true, true, true, true, true, true, true, false, false, false]) (by rfl) (by kernel_rfl) (by kernel_rfl) calm_put hS (by rfl) ?_ ?_
  rotate_left
  · intro W hW; clear hW; go_simp; try (with_reducible rfl)
  simp only [Act.put, List.getElem_toArray, List.getElem_cons_succ, List.getElem_cons_zero, List.setIfInBounds_toArray, List.set_cons_zero, List.set_cons_succ]
  refine wpAnyE_take (i := 36) (v := ?_) (listed' := #[true, true, true, true, true, true, true, true, true, true, true, true, true, true, true, true, true, true, true, true, true, true, true, true, true, true, true, true, true, true, true, true, true, true, true, true, true, false, false]) (by rfl) (by kernel_rfl) (by kernel_rfl) calm_put hS (by rfl) ?_ ?_
  rotate_left
  · intro W hW; clear hW; go_simp; try (with_reducible rfl)
  simp only [Act.put, List.getElem_toArray, List.getElem_cons_succ, List.getElem_cons_zero, List.setIfInBounds_toArray, List.set_cons_zero, List.set_cons_succ]
  refine wpAnyE_take (i := 37) (v := ?_) (listed' := #[true, true, true, true, true, true, true, true, true, true, true, true, true, true, true, true, true, true, true, true, true, true, true, true, true, true, true, true, true, true, true, true, true, true, true, true, true, true, false]) (by rfl) (by kernel_rfl) (by kernel_rfl) calm_put hS (by rfl) ?_ ?_
  rotate_left
  · intro W hW; clear hW; go_simp; try (with_reducible rfl)
  simp only [Act.put, List.getElem_toArray, List.getElem_cons_succ, List.getElem_cons_zero, List.setIfInBounds_toArray, List.set_cons_zero, List.set_cons_succ]
  refine wpAnyE_one (i := 38) (listed' := #[true, true, true, true, true, true, true, true, true, true, true, true, true, true, true, true, true, true, true, true, true, true, true, true, true, true, true, true, true, true, true, true, true, true, true, true, true, true, true]) (by rfl) (by kernel_rfl) (by kernel_rfl) (by rfl) (fun K hK => ?_)
  simp only [Act.put, List.getElem_toArray, List.getElem_cons_succ, List.getElem_cons_zero, List.setIfInBounds_toArray, List.set_cons_zero, List.set_cons_succ]
  go_wp2
  refine hK _ _ (fun _ => hS) ?_; clear hK K
  refine wpAnyE_done (by kernel_rfl) ?_ _
  refine calm_normal ?_

  go_wp2
  go_ret
  exact ⟨rfl, hS.1⟩
end
end Go.Proofs.Ytcbghpcohbgcjaa
