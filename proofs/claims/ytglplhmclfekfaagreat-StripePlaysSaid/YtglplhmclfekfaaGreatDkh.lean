/- A disk.Bank: Flush, Fail, Start, Up, Writes, Dead, Arm, FailAt. -/
import Derived.Test.YtglplhmclfekfaaGreatDkg
namespace Go.Proofs.YtglplhmclfekfaaGreat
open Go.RowKit
set_option linter.unusedVariables false
set_option linter.unusedSimpArgs false

section
variable {P : Program} {ops : Array Oper} {rest : List Oper} {o1 o2 : Oper} {a : Act} {w : World} {Q : Exit → Act → World → Prop}
/-- A new variable of one cell, and what it is given; the world a letter. -/
theorem wpList_new_one (hg1 : o1.guard = none) (hg2 : Region.wanted o2 (yielded ops (a.put o1.dst (.pointer (some ⟨w.heap.size, 0, none⟩))).tmps) = true) {T : Nat} (x y : Operand) (ho1 : o1.op = .alloc T) (ho2 : o2.op = .store T x y) (hT : (P.info? T).map (·.size) = some 1)
    (z : Value) (hz : ∀ w, (zeroValue T).run P w = .ok z w) (hzc : z.cells = #[z])
    (v : Value) (hy : (a.put o1.dst (.pointer (some ⟨w.heap.size, 0, none⟩))).eval y = v) (hv : v.cells = #[v]) (h1 : v.oneCell' = true)
    (hx : (a.put o1.dst (.pointer (some ⟨w.heap.size, 0, none⟩))).eval x = .pointer (some ⟨w.heap.size, 0, none⟩))
    (h : ∀ w1, Hid (w1.heap[w.heap.size]? = some (.cells #[v] T (0, 0))) → w.heap.size < w1.heap.size → Kept w w1 → wpList P ops Q rest ((a.put o1.dst (.pointer (some ⟨w.heap.size, 0, none⟩))).put o2.dst undef) w1) : wpList P ops Q (o1 :: o2 :: rest) a w := by
  refine wpList_plain hg1 fun K hK => ?_
  unfold Oper.wp execOp
  simp only [ho1, Instr.alloc, newVar, newRow, Sem.run_bind, hz, Result.andThen_ok, Sem.run_pure, run_newObj_alloc, hzc]
  refine hK _ _ ?_
  refine wpList_set_cell hg2 x y ho2 hT w.heap.size 0 hx v hy hv h1 [z] T (heap_alloc_new w _) (by simp) ?_
  intro w1 hw1
  refine h w1 (Lib.hid (by simpa using hw1.blk)) (by rw [hw1.size]; simp) (hw1.kept ((Kept.refl _).alloc _) (Nat.le_refl _))
end
theorem one_cell {w : World} {b : Nat} {v : Value} {t : TypeId} (h : w.heap[b]? = some (.cells #[v] t (0, 0))) : w.cell? ⟨b, 0, none⟩ = some v := by
  have := cell_of_row w b 0 #[v] t (0, 0) h
  simpa using this
theorem size_ptr : (Tryz.prog.info? 78).map (·.size) = some 1 := by kernel_rfl
theorem size_bool : (Tryz.prog.info? 4).map (·.size) = some 1 := by kernel_rfl
theorem size_u64 : (Tryz.prog.info? 33).map (·.size) = some 1 := by kernel_rfl
theorem zero_ptr (w : World) : (zeroValue 78).run Tryz.prog w = .ok (.pointer none) w := by kernel_rfl
section
variable {w : World} {Y : Lay} {T : BankT}
theorem BankD.not_in (h : BankD w Y T) : ¬ Y.In T.l.length w.heap.size := fun hi => by have := h.lt hi; omega
set_option maxHeartbeats 1000000
set_option maxRecDepth 100000
theorem bank_Flush (h : BankD w Y T) (ok : T.Ok) (hN : T.l.length ≠ 0) (d : Int) : Calls Tryz.prog 45 #[.pointer (some ⟨Y.A 0, 0, none⟩), .int .i64 d] w fun e w' =>
    e = .returned (.int .i64 (T.flushC d).2) ∧ BankD w' Y (T.flushC d).1 ∧ But (Y.In T.l.length) w w' := by
  have hR := Lib.hid (bank_ready h hN d)
  unfold BankT.flushC
  by_cases hr : T.readyE d = 0
  · rw [if_pos hr]
    obtain ⟨k, rfl, hk⟩ : ∃ k : Nat, d = (k : Int) ∧ k < T.l.length := by
      unfold BankT.readyE at hr
      split at hr
      · omega
      · exact ⟨d.toNat, by omega, by omega⟩
    have hR' := hR.out
    rw [hr, if_pos rfl, Int.toNat_natCast] at hR'
    clear hR
    have HR := Lib.hid hR'; clear hR'
    rw [Int.toNat_natCast]
    have H := Lib.hid h; clear h
    clear hr
    go_enter Tryz.func45, Tryz.ntmps45
    go_wp2_with fail
    refine Calls.mono HR.out ?_
    rintro e w1 ⟨rfl, rfl⟩
    go_wp2_with (refine stop_at (o := ⟨some 5, _, _, _, _, _⟩) ?_)
    refine Stop.mk ?_
    refine wpList_new_one rfl rfl _ _ rfl rfl size_ptr _ zero_ptr rfl (.pointer (some ⟨Y.A (2 + 4 * k), 0, none⟩)) rfl rfl rfl rfl ?_
    intro w1 hz hs hk1
    have cm := one_cell hz.out
    have HS := Lib.hid (settles_Flush (H.out.kept hk1) ok hk cm H.out.not_in)
    go_wp2_with fail
    refine Calls.mono HS.out ?_
    rintro e w2 ⟨rfl, hb, hu⟩
    have HB := Lib.hid hb; have HU := Lib.hid ((But.kept hk1).trans hu); clear hb hu
    go_wp2
    go_ret
    exact ⟨rfl, HB.out, HU.out⟩
  · rw [if_neg hr]
    have hR' := hR.out
    rw [if_neg hr] at hR'
    clear hR
    have HR := Lib.hid hR'; clear hR'
    have H := Lib.hid h; clear h
    generalize T.readyE d = r at *
    go_enter Tryz.func45, Tryz.ntmps45
    go_wp2_with fail
    refine Calls.mono HR.out ?_
    rintro e w1 ⟨rfl, rfl⟩
    go_wp2_with (refine stop_at (o := ⟨some 5, _, _, _, _, _⟩) ?_)
    refine Stop.mk ?_
    refine wpList_new_one rfl rfl _ _ rfl rfl size_ptr _ zero_ptr rfl (.pointer none) rfl rfl rfl rfl ?_
    intro w1 hz hs hk1
    go_wp2
    go_ret
    exact ⟨rfl, H.out.kept hk1, But.kept hk1⟩
theorem bank_Fail (h : BankD w Y T) (ok : T.Ok) (hN : T.l.length ≠ 0) (d : Int) : Calls Tryz.prog 21 #[.pointer (some ⟨Y.A 0, 0, none⟩), .int .i64 d] w fun e w' =>
    e = .returned (.int .i64 (T.failC d).2) ∧ BankD w' Y (T.failC d).1 ∧ But (Y.In T.l.length) w w' := by
  unfold BankT.failC
  by_cases h0 : d < 0 ∨ (T.l.length : Int) ≤ d
  · rw [if_pos h0]
    have hi := Lib.hid (bank_is_f h hN h0)
    have H := Lib.hid h; clear h h0
    go_enter Tryz.func21, Tryz.ntmps21
    go_wp2_with fail
    refine Calls.mono hi.out ?_
    rintro e w' ⟨rfl, rfl⟩
    go_wp2
    go_ret
    exact ⟨rfl, H.out, But.refl _ _⟩
  · rw [if_neg h0]
    obtain ⟨k, rfl, hk⟩ : ∃ k : Nat, d = (k : Int) ∧ k < T.l.length := ⟨d.toNat, by omega, by omega⟩
    rw [Int.toNat_natCast]
    have hi := Lib.hid (bank_is_t h hk)
    have c0 := h.b0 hN
    have cr := h.r hk
    have okd := ok.d hk
    have H := Lib.hid h; clear h h0
    go_enter Tryz.func21, Tryz.ntmps21
    go_wp2_with fail
    refine Calls.mono hi.out ?_
    rintro e w' ⟨rfl, rfl⟩
    go_wp2_with (refine stop_at (o := ⟨some 5, _, _, _, _, _⟩) ?_)
    refine Stop.mk ?_
    refine wpList_new_one rfl rfl _ _ rfl rfl size_ptr _ zero_ptr rfl (.pointer (some ⟨Y.A (2 + 4 * k), 0, none⟩)) rfl rfl rfl rfl ?_
    intro w1 hz hs hk1
    have cm := one_cell hz.out
    go_wp2_with (refine stop_at (o := ⟨none, .store 4 _ _, _, _, _, _⟩) ?_)
    refine Stop.mk ?_
    refine wpList_set_cell rfl _ _ rfl size_bool (Y.A (2 + 4 * k)) 3 rfl (.bool true) rfl rfl rfl _ _ ((H.out.kept hk1).med k hk) (by simp [medVals]) ?_
    intro w2 hw2
    obtain ⟨B2, U2⟩ := (H.out.kept hk1).wrote_med hk (d := true) (f := (T.d k).fail) hw2
    have hne : w.heap.size ≠ Y.A (2 + 4 * k) := fun e => by have := H.out.lt (Y.in_ hk 2 (by decide) (by decide)); omega
    have cm2 : w2.cell? ⟨w.heap.size, 0, none⟩ = some (.pointer (some ⟨Y.A (2 + 4 * k), 0, none⟩)) := (World.cell?_of_block (hw2.oth _ hne)).trans cm
    have HS := Lib.hid (settles_Fail (k := k) B2 (ok.up k okd.kill) (by rw [BankT.up_len]; exact hk) cm2 (by rw [BankT.up_len]; exact H.out.not_in))
    have HU2 := Lib.hid ((But.kept hk1).trans U2)
    clear B2 U2 hw2 cm
    go_wp2_with fail
    refine Calls.mono HS.out ?_
    rintro e w3 ⟨rfl, hb, hu⟩
    rw [BankT.up_self _ hk, BankT.up_up] at hb
    rw [BankT.up_len] at hu
    have HB := Lib.hid hb; have HU := Lib.hid (HU2.out.trans hu); clear hb hu
    go_wp2
    go_ret
    exact ⟨rfl, HB.out, HU.out⟩
theorem bank_Start (h : BankD w Y T) : Calls Tryz.prog 43 #[.pointer (some ⟨Y.A 0, 0, none⟩)] w fun e w' => e = .returned (.tuple #[]) ∧ BankD w' Y T.start ∧ But (Y.In T.l.length) w w' := by
  have H := Lib.hid h; clear h
  go_enter Tryz.func43, Tryz.ntmps43
  go_wp2_with (refine stop_at (o := ⟨none, .store _ _ _, _, _, _, _⟩) ?_)
  refine Stop.mk ?_
  refine wpList_set_cell rfl _ _ rfl size_bool (Y.A 0) 1 rfl (.bool false) rfl rfl rfl _ _ H.out.bank (by simp [bankVals]) ?_
  intro w2 hw2
  obtain ⟨B2, U2⟩ := H.out.wrote_bank (T' := T.start) rfl hw2
  have HB := Lib.hid B2; have HU := Lib.hid U2; clear B2 U2 hw2
  go_wp2
  go_end0
  exact ⟨rfl, HB.out, HU.out⟩
theorem bank_Up (h : BankD w Y T) : Calls Tryz.prog 11 #[.pointer (some ⟨Y.A 0, 0, none⟩)] w fun e w' => e = .returned (.bool (!T.down)) ∧ w = w' := by
  have c1 := h.b1
  clear h
  go_enter Tryz.func11, Tryz.ntmps11
  go_wp2
  go_ret
  exact ⟨rfl, rfl⟩
theorem bank_Writes (h : BankD w Y T) : Calls Tryz.prog 10 #[.pointer (some ⟨Y.A 0, 0, none⟩)] w fun e w' => e = .returned (.int .i64 T.writes) ∧ w = w' := by
  have c1 := h.b3
  clear h
  go_enter Tryz.func10, Tryz.ntmps10
  go_wp2
  go_ret
  exact ⟨rfl, rfl⟩
theorem bank_Arm (h : BankD w Y T) (n m : Int) : Calls Tryz.prog 39 #[.pointer (some ⟨Y.A 0, 0, none⟩), .int .i64 n, .int .u64 m] w fun e w' => e = .returned (.tuple #[]) ∧ BankD w' Y (T.arm n m) ∧ But (Y.In T.l.length) w w' := by
  have H := Lib.hid h; clear h
  by_cases hn : 0 ≤ n
  · have em : T.arm n m = { T with armed := n, mask := m } := by unfold BankT.arm; rw [show max n 0 = n by omega]
    rw [em]; clear em
    go_enter Tryz.func39, Tryz.ntmps39
    go_wp2_with (refine stop_at (o := ⟨none, .store 3 _ _, _, _, _, _⟩) ?_)
    refine Stop.mk ?_
    refine wpList_set_cell rfl _ _ rfl size_int (Y.A 0) 4 rfl (.int .i64 (n)) rfl rfl rfl _ _ H.out.bank (by simp [bankVals]) ?_
    intro w2 hw2
    obtain ⟨B2, U2⟩ := H.out.wrote_bank (T' := { T with armed := n }) rfl hw2
    have HB2 := Lib.hid B2; have HU2 := Lib.hid U2; clear B2 U2 hw2
    go_wp2_with (refine stop_at (o := ⟨none, .store 33 _ _, _, _, _, _⟩) ?_)
    refine Stop.mk ?_
    refine wpList_set_cell rfl _ _ rfl size_u64 (Y.A 0) 5 rfl (.int .u64 m) rfl rfl rfl _ _ HB2.out.bank (by simp [bankVals]) ?_
    intro w3 hw3
    obtain ⟨B3, U3⟩ := HB2.out.wrote_bank (T' := { T with armed := n, mask := m }) rfl hw3
    have HB3 := Lib.hid B3; have HU3 := Lib.hid (HU2.out.trans U3); clear B3 U3 hw3
    go_wp2
    go_end0
    exact ⟨rfl, HB3.out, HU3.out⟩
  · have em : T.arm n m = { T with armed := 0, mask := m } := by unfold BankT.arm; rw [show max n 0 = 0 by omega]
    rw [em]; clear em
    go_enter Tryz.func39, Tryz.ntmps39
    go_wp2_with (refine stop_at (o := ⟨none, .store 3 _ _, _, _, _, _⟩) ?_)
    refine Stop.mk ?_
    refine wpList_set_cell rfl _ _ rfl size_int (Y.A 0) 4 rfl (.int .i64 (0)) rfl rfl rfl _ _ H.out.bank (by simp [bankVals]) ?_
    intro w2 hw2
    obtain ⟨B2, U2⟩ := H.out.wrote_bank (T' := { T with armed := 0 }) rfl hw2
    have HB2 := Lib.hid B2; have HU2 := Lib.hid U2; clear B2 U2 hw2
    go_wp2_with (refine stop_at (o := ⟨none, .store 33 _ _, _, _, _, _⟩) ?_)
    refine Stop.mk ?_
    refine wpList_set_cell rfl _ _ rfl size_u64 (Y.A 0) 5 rfl (.int .u64 m) rfl rfl rfl _ _ HB2.out.bank (by simp [bankVals]) ?_
    intro w3 hw3
    obtain ⟨B3, U3⟩ := HB2.out.wrote_bank (T' := { T with armed := 0, mask := m }) rfl hw3
    have HB3 := Lib.hid B3; have HU3 := Lib.hid (HU2.out.trans U3); clear B3 U3 hw3
    go_wp2
    go_end0
    exact ⟨rfl, HB3.out, HU3.out⟩
--
--
--
--
--
--
--
--
--
--
--
--
--
theorem bank_FailAt (h : BankD w Y T) {k : Nat} (hk : k < T.l.length) (n : Int) : Calls Tryz.prog 37 #[.pointer (some ⟨Y.A 0, 0, none⟩), .int .i64 (k : Int), .int .i64 n] w fun e w' => e = .returned (.tuple #[]) ∧ BankD w' Y (T.up k { T.d k with fail := max n 0 }) ∧ But (Y.In T.l.length) w w' := by
  have hi := Lib.hid (bank_is_t h hk)
  have c0 := h.b0 (by omega)
  have cr := h.r hk
  have H := Lib.hid h; clear h
  by_cases hn : 0 ≤ n
  · have em : max n 0 = n := by omega
    rw [em]; clear em
    go_enter Tryz.func37, Tryz.ntmps37
    go_wp2_with fail
    refine Calls.mono hi.out ?_
    rintro e w' ⟨rfl, rfl⟩
    go_wp2_with (refine stop_at (o := ⟨none, .store _ _ _, _, _, _, _⟩) ?_)
    refine Stop.mk ?_
    refine wpList_set_cell rfl _ _ rfl size_int (Y.A (2 + 4 * k)) 4 rfl (.int .i64 (n)) rfl rfl rfl _ _ (H.out.med k hk) (by simp [medVals]) ?_
    intro w2 hw2
    obtain ⟨B2, U2⟩ := H.out.wrote_med hk (d := (T.d k).dead) (f := n) hw2
    have HB := Lib.hid B2; have HU := Lib.hid U2; clear B2 U2 hw2
    go_wp2
    go_end0
    exact ⟨rfl, HB.out, HU.out⟩
  · have em : max n 0 = 0 := by omega
    rw [em]; clear em
    go_enter Tryz.func37, Tryz.ntmps37
    go_wp2_with fail
    refine Calls.mono hi.out ?_
    rintro e w' ⟨rfl, rfl⟩
    go_wp2_with (refine stop_at (o := ⟨none, .store _ _ _, _, _, _, _⟩) ?_)
    refine Stop.mk ?_
    refine wpList_set_cell rfl _ _ rfl size_int (Y.A (2 + 4 * k)) 4 rfl (.int .i64 (0)) rfl rfl rfl _ _ (H.out.med k hk) (by simp [medVals]) ?_
    intro w2 hw2
    obtain ⟨B2, U2⟩ := H.out.wrote_med hk (d := (T.d k).dead) (f := 0) hw2
    have HB := Lib.hid B2; have HU := Lib.hid U2; clear B2 U2 hw2
    go_wp2
    go_end0
    exact ⟨rfl, HB.out, HU.out⟩
end
end Go.Proofs.YtglplhmclfekfaaGreat
