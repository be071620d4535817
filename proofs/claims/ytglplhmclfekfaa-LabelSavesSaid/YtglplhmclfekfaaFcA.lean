/- FcA: several texts in one: Rlk Rll Rlm Rbr Pba Pbb Pbd. -/
import Derived.Test.YtglplhmclfekfaaFbB
import Derived.Test.YtglplhmclfekfaaFaA
import Derived.ProofKit
import Derived.OpenShut
import Derived.ChangeOld
import Derived.Deep.Slices
import Derived.Deep.Fields
import Derived.Deep.DeepCutAuto
/- ref12 on the document's bank: Lost, Write, Read, Alike, Copy (gen_ref12.py). -/
namespace Go.Proofs.Ytglplhmclfekfaa
open Go.RowKit
set_option linter.unusedVariables false
set_option linter.unusedSimpArgs false

theorem exec_cmp_secB {W : World} {a : Act} {o : Oper} (x y : Operand) {t' : TypeId} (ho : o.op = .binOp .eql 34 x y t') (xs ys : List Int) (hx1 : xs.length = 64) (hy1 : ys.length = 64) (hx : a.eval x = .agg (u8s xs).toArray) (hy : a.eval y = .agg (u8s ys).toArray) :
    (execOp a.eval o).run Try.prog W = .ok (.value (.bool (xs == ys))) W := by
  have heq := run_equal_secA xs ys hx1 hy1 W
  unfold execOp
  simp only [ho, hx, hy, Sem.run_bind]
  rw [run_eqGuard_agg _ _ _ _ _ _ _ eqg_sec]
  simp only [Result.andThen_ok]
  rw [run_eql_struct, heq]
  simp only [Result.andThen_ok, Sem.run_pure]
section
variable {w0 W : World} {R : Nat → Prop} {q : Nat} {B : BankT}
set_option maxHeartbeats 2000000
set_option maxRecDepth 100000
theorem doc_Lost (e : Int) (w : World) : Calls Try.prog 137 #[.int .i64 e] w fun e' w' => e' = .returned (.bool (lostB e)) ∧ w = w' := by
  unfold lostB
  by_cases h8 : e = 8
  · subst h8
    go_enter Try.func137, Try.ntmps137
    go_wp2
    go_ret
    exact ⟨rfl, rfl⟩
  · have k8 : (e == 8) = false := by simpa using h8
    by_cases h7 : e = 7
    · subst h7
      go_enter Try.func137, Try.ntmps137
      go_wp2
      go_ret
      exact ⟨rfl, rfl⟩
    · have k7 : (e == 7) = false := by simpa using h7
      rw [k8, k7]
      clear h8 h7
      go_enter Try.func137, Try.ntmps137
      go_wp2
      go_ret
      exact ⟨rfl, rfl⟩
theorem doc_Write (h : RB w0 R W q B) (u : B.Doc) (x0 x1 y0 y1 : Int) {s : List Int} (hs : s.length = 64 ∧ ∀ x ∈ s, IsByte x) (u1 : (B.write x0 x1 s).1.Doc) :
    Calls Try.prog 101 #[.pointer (some ⟨q, 0, none⟩), .agg #[.int .i64 x0, .int .i64 x1], .agg #[.int .i64 y0, .int .i64 y1], .agg (u8s s).toArray] W fun e w' => e = .returned (.int .i64 (B.mWrite x0 x1 y0 y1 s).2) ∧ RB w0 R w' q (B.mWrite x0 x1 y0 y1 s).1 ∧ SameR R W w' := by
  obtain ⟨B1, c, hw⟩ : ∃ B1 c, B.write x0 x1 s = (B1, c) := ⟨_, _, rfl⟩
  obtain ⟨B2, d, hw2⟩ : ∃ B2 d, B1.write y0 y1 s = (B2, d) := ⟨_, _, rfl⟩
  have HMW : Hid (B.mWrite x0 x1 y0 y1 s = if c ≠ 0 ∧ lostB c = false then (B1, c) else if d ≠ 0 ∧ lostB d = false then (B2, d) else (B2, if c = 0 ∨ d = 0 then (0 : Int) else 5)) := Lib.hid (by unfold BankT.mWrite; rw [hw]; simp only []; rw [hw2])
  rw [hw] at u1
  have HX64 := Lib.hid hs
  have HW1 := Lib.hid (fun (R' : Nat → Prop) (W' : World) (h' : RB w0 R' W' q B) => (rb_Write h' u x0 x1 hs).mono (R' := fun e w' => e = .returned (.int .i64 c) ∧ RB w0 R' w' q B1 ∧ SameR R' W' w') fun e w' hh => by rw [hw] at hh; exact hh)
  have HW2 := Lib.hid (fun (R' : Nat → Prop) (W' : World) (h' : RB w0 R' W' q B1) => (rb_Write h' u1 y0 y1 hs).mono (R' := fun e w' => e = .returned (.int .i64 d) ∧ RB w0 R' w' q B2 ∧ SameR R' W' w') fun e w' hh => by rw [hw2] at hh; exact hh)
  have HB := Lib.hid h
  clear hw hw2 u u1 h hs
  go_enter Try.func101, Try.ntmps101
  go_wp2_with (refine stop_at (o := ⟨some 5, _, _, _, _, _⟩) ?_)
  refine Stop.mk ?_
  refine wpList_box_row rfl _ _ rfl [.int .i64 x0, .int .i64 x1] rfl ?_
  intro w1 hz hs hk
  have HX := hz
  have HS := Lib.hid ((HB.out.kept hk).2)
  have HB := Lib.hid (HB.out.box hk hs)
  obtain ⟨X, hE⟩ : ∃ b, b = W.heap.size := ⟨_, rfl⟩
  rw [← hE] at HB HX ⊢
  clear hz hs hk hE
  go_wp2_with (refine stop_at (o := ⟨some 6, _, _, _, _, _⟩) ?_)
  refine Stop.mk ?_
  refine wpList_box_row rfl _ _ rfl [.int .i64 y0, .int .i64 y1] rfl ?_
  intro w2 hz hs hk
  have HY := hz
  replace HX := Lib.hid (hk.block HX.out)
  have HS := Lib.hid (fun k (hk' : R k) => ((HB.out.kept hk).2 k (.inl hk')).trans (HS.out k hk'))
  have HB := Lib.hid (HB.out.box hk hs)
  obtain ⟨Y, hE⟩ : ∃ b, b = w1.heap.size := ⟨_, rfl⟩
  rw [← hE] at HB HY ⊢
  clear hz hs hk hE
  go_wp2_with (refine stop_at (o := ⟨some 7, _, _, _, _, _⟩) ?_)
  refine Stop.mk ?_
  refine wpList_box_row rfl _ _ rfl (u8s s) rfl ?_
  intro w3 hz hs hk
  have HZ := hz
  replace HX := Lib.hid (hk.block HX.out)
  replace HY := Lib.hid (hk.block HY.out)
  have HS := Lib.hid (fun k (hk' : R k) => ((HB.out.kept hk).2 k (.inl (.inl hk'))).trans (HS.out k hk'))
  have HB := Lib.hid (HB.out.box hk hs)
  obtain ⟨Z, hE⟩ : ∃ b, b = w2.heap.size := ⟨_, rfl⟩
  rw [← hE] at HB HZ ⊢
  clear hz hs hk hE
  obtain ⟨p0, p1⟩ := Pl.of HX.out
  go_wp2_with (refine stop_at (o := ⟨some 13, _, _, _, _, _⟩) ?_)
  refine Stop.mk ?_
  refine wpList_load_agg rfl _ rfl ty_sec Z 0 rfl (u8s s) (by simpa using Cells.of_block HZ.out) (by rw [u8s_length, HX64.out.1]) ?_
  go_wp2_with fail
  refine Calls.mono (HW1.out _ _ HB.out) ?_
  rintro e w4 ⟨rfl, hb, hr⟩
  have HB4 := Lib.hid hb
  have HS4 := Lib.hid (fun k (hk : R k) => (hr k (.inl (.inl (.inl hk)))).trans (HS.out k hk))
  have HY4 := Lib.hid ((hr Y (.inl (.inr rfl))).trans HY.out)
  have HZ4 := Lib.hid ((hr Z (.inr rfl)).trans HZ.out)
  clear hb hr p0 p1 HX HY HZ HB HS
  have hcase : c = 0 ∨ (c ≠ 0 ∧ lostB c = true) ∨ (c ≠ 0 ∧ lostB c = false) := by cases lostB c <;> simp <;> omega
  rcases hcase with hc | ⟨hc, hl⟩ | ⟨hc, hl⟩
  · subst hc
    have HCL : Hid (lostB 0 = false) := Lib.hid rfl
    obtain ⟨p0, p1⟩ := Pl.of HY4.out
    go_wp2_with (first | (go_at_call 137; refine Calls.mono (doc_Lost _ _) ?_; rintro e w' ⟨rfl, rfl⟩) | (refine stop_at (o := ⟨some 25, _, _, _, _, _⟩) ?_))
    refine Stop.mk ?_
    refine wpList_load_agg rfl _ rfl ty_sec Z 0 rfl (u8s s) (by simpa using Cells.of_block HZ4.out) (by rw [u8s_length, HX64.out.1]) ?_
    go_wp2_with fail
    refine Calls.mono (HW2.out _ _ HB4.out) ?_
    rintro e w5 ⟨rfl, hb, hr⟩
    have HB5 := Lib.hid hb
    have HS5 := Lib.hid (fun k (hk : R k) => (hr k (.inl (.inl (.inl hk)))).trans (HS4.out k hk))
    clear hb hr p0 p1
    have dcase : d = 0 ∨ (d ≠ 0 ∧ lostB d = true) ∨ (d ≠ 0 ∧ lostB d = false) := by cases lostB d <;> simp <;> omega
    rcases dcase with hd | ⟨hd, hl⟩ | ⟨hd, hl⟩
    · subst hd
      have HF : Hid (B.mWrite x0 x1 y0 y1 s = (B2, 0)) := Lib.hid (by rw [HMW.out]; simp [HCL.out])
      go_wp2_with (go_at_call 137; refine Calls.mono (doc_Lost _ _) ?_; rintro e w' ⟨rfl, rfl⟩)
      go_ret
      exact ⟨by rw [HF.out]; rfl, by rw [HF.out]; exact HB5.out.less fun k hk => .inl (.inl (.inl hk)), HS5.out⟩
    · have k1 : (d == 0) = false := by simpa using hd
      have k2 : (d != 0) = true := by simpa using hd
      have HF : Hid (B.mWrite x0 x1 y0 y1 s = (B2, 0)) := Lib.hid (by rw [HMW.out]; simp [HCL.out, hd, hl])
      go_wp2_with (go_at_call 137; refine Calls.mono (doc_Lost _ _) ?_; rintro e w' ⟨rfl, rfl⟩)
      go_ret
      exact ⟨by rw [HF.out]; rfl, by rw [HF.out]; exact HB5.out.less fun k hk => .inl (.inl (.inl hk)), HS5.out⟩
    · have k1 : (d == 0) = false := by simpa using hd
      have k2 : (d != 0) = true := by simpa using hd
      have HF : Hid (B.mWrite x0 x1 y0 y1 s = (B2, d)) := Lib.hid (by rw [HMW.out]; simp [HCL.out, hd, hl])
      go_wp2_with (go_at_call 137; refine Calls.mono (doc_Lost _ _) ?_; rintro e w' ⟨rfl, rfl⟩)
      go_ret
      exact ⟨by rw [HF.out]; rfl, by rw [HF.out]; exact HB5.out.less fun k hk => .inl (.inl (.inl hk)), HS5.out⟩
  · have c1 : (c == 0) = false := by simpa using hc
    have c2 : (c != 0) = true := by simpa using hc
    have HCL := Lib.hid hl
    have HCN := Lib.hid hc
    obtain ⟨p0, p1⟩ := Pl.of HY4.out
    go_wp2_with (first | (go_at_call 137; refine Calls.mono (doc_Lost _ _) ?_; rintro e w' ⟨rfl, rfl⟩) | (refine stop_at (o := ⟨some 25, _, _, _, _, _⟩) ?_))
    refine Stop.mk ?_
    refine wpList_load_agg rfl _ rfl ty_sec Z 0 rfl (u8s s) (by simpa using Cells.of_block HZ4.out) (by rw [u8s_length, HX64.out.1]) ?_
    go_wp2_with fail
    refine Calls.mono (HW2.out _ _ HB4.out) ?_
    rintro e w5 ⟨rfl, hb, hr⟩
    have HB5 := Lib.hid hb
    have HS5 := Lib.hid (fun k (hk : R k) => (hr k (.inl (.inl (.inl hk)))).trans (HS4.out k hk))
    clear hb hr p0 p1
    have dcase : d = 0 ∨ (d ≠ 0 ∧ lostB d = true) ∨ (d ≠ 0 ∧ lostB d = false) := by cases lostB d <;> simp <;> omega
    rcases dcase with hd | ⟨hd, hl⟩ | ⟨hd, hl⟩
    · subst hd
      have HF : Hid (B.mWrite x0 x1 y0 y1 s = (B2, 0)) := Lib.hid (by rw [HMW.out]; simp [HCL.out])
      go_wp2_with (go_at_call 137; refine Calls.mono (doc_Lost _ _) ?_; rintro e w' ⟨rfl, rfl⟩)
      go_ret
      exact ⟨by rw [HF.out]; rfl, by rw [HF.out]; exact HB5.out.less fun k hk => .inl (.inl (.inl hk)), HS5.out⟩
    · have k1 : (d == 0) = false := by simpa using hd
      have k2 : (d != 0) = true := by simpa using hd
      have HF : Hid (B.mWrite x0 x1 y0 y1 s = (B2, 5)) := Lib.hid (by rw [HMW.out]; simp [HCL.out, hd, hl, HCN.out])
      go_wp2_with (go_at_call 137; refine Calls.mono (doc_Lost _ _) ?_; rintro e w' ⟨rfl, rfl⟩)
      go_ret
      exact ⟨by rw [HF.out]; rfl, by rw [HF.out]; exact HB5.out.less fun k hk => .inl (.inl (.inl hk)), HS5.out⟩
    · have k1 : (d == 0) = false := by simpa using hd
      have k2 : (d != 0) = true := by simpa using hd
      have HF : Hid (B.mWrite x0 x1 y0 y1 s = (B2, d)) := Lib.hid (by rw [HMW.out]; simp [HCL.out, hd, hl])
      go_wp2_with (go_at_call 137; refine Calls.mono (doc_Lost _ _) ?_; rintro e w' ⟨rfl, rfl⟩)
      go_ret
      exact ⟨by rw [HF.out]; rfl, by rw [HF.out]; exact HB5.out.less fun k hk => .inl (.inl (.inl hk)), HS5.out⟩
  · have c1 : (c == 0) = false := by simpa using hc
    have c2 : (c != 0) = true := by simpa using hc
    have HF : Hid (B.mWrite x0 x1 y0 y1 s = (B1, c)) := Lib.hid (by rw [HMW.out, if_pos ⟨hc, hl⟩])
    go_wp2_with (go_at_call 137; refine Calls.mono (doc_Lost _ _) ?_; rintro e w' ⟨rfl, rfl⟩)
    go_ret
    exact ⟨by rw [HF.out]; rfl, by rw [HF.out]; exact HB4.out.less fun k hk => .inl (.inl (.inl hk)), HS4.out⟩
theorem doc_Copy (h : RB w0 R W q B) (u : B.Doc) (x0 x1 y0 y1 : Int) (hs : (B.read x0 x1).1.length = 64 ∧ ∀ x ∈ (B.read x0 x1).1, IsByte x) :
    Calls Try.prog 106 #[.pointer (some ⟨q, 0, none⟩), .agg #[.int .i64 x0, .int .i64 x1], .agg #[.int .i64 y0, .int .i64 y1]] W fun e w' => e = .returned (.int .i64 (B.mCopy x0 x1 y0 y1).2) ∧ RB w0 R w' q (B.mCopy x0 x1 y0 y1).1 ∧ SameR R W w' := by
  obtain ⟨s, c, hr⟩ : ∃ s c, B.read x0 x1 = (s, c) := ⟨_, _, rfl⟩
  have HMC : Hid (B.mCopy x0 x1 y0 y1 = if c ≠ 0 then (B, c) else B.write y0 y1 s) := Lib.hid (by unfold BankT.mCopy; rw [hr])
  rw [hr] at hs
  simp only [] at hs
  have HX64 := Lib.hid hs
  have HRD := Lib.hid (fun (R' : Nat → Prop) (W' : World) (h' : RB w0 R' W' q B) => (rb_Read h' u x0 x1).mono (R' := fun e w' => e = .returned (.tuple #[.agg (u8s s).toArray, .int .i64 c]) ∧ Kept W' w') fun e w' hh => by rw [hr] at hh; exact hh)
  have HWR := Lib.hid (fun (R' : Nat → Prop) (W' : World) (h' : RB w0 R' W' q B) => rb_Write h' u y0 y1 hs)
  have HB := Lib.hid h
  clear hr u h hs
  go_enter Try.func106, Try.ntmps106
  go_wp2_with (refine stop_at (o := ⟨some 4, _, _, _, _, _⟩) ?_)
  refine Stop.mk ?_
  refine wpList_box_row rfl _ _ rfl [.int .i64 x0, .int .i64 x1] rfl ?_
  intro w1 hz hs hk
  have HX := hz
  have HS := Lib.hid ((HB.out.kept hk).2)
  have HB := Lib.hid (HB.out.box hk hs)
  obtain ⟨X, hE⟩ : ∃ b, b = W.heap.size := ⟨_, rfl⟩
  rw [← hE] at HB HX ⊢
  clear hz hs hk hE
  go_wp2_with (refine stop_at (o := ⟨some 5, _, _, _, _, _⟩) ?_)
  refine Stop.mk ?_
  refine wpList_box_row rfl _ _ rfl [.int .i64 y0, .int .i64 y1] rfl ?_
  intro w2 hz hs hk
  have HY := hz
  replace HX := Lib.hid (hk.block HX.out)
  have HS := Lib.hid (fun k (hk' : R k) => ((HB.out.kept hk).2 k (.inl hk')).trans (HS.out k hk'))
  have HB := Lib.hid (HB.out.box hk hs)
  obtain ⟨Y, hE⟩ : ∃ b, b = w1.heap.size := ⟨_, rfl⟩
  rw [← hE] at HB HY ⊢
  clear hz hs hk hE
  obtain ⟨p0, p1⟩ := Pl.of HX.out
  go_wp2_with fail
  refine Calls.mono (HRD.out _ _ HB.out) ?_
  rintro e w3 ⟨rfl, hk3⟩
  have HS3 := Lib.hid (fun k (hk : R k) => ((HB.out.kept hk3).2 k (.inl (.inl hk))).trans (HS.out k hk))
  have HB3 := Lib.hid (HB.out.kept hk3).1
  have HY3 := Lib.hid (hk3.block HY.out)
  clear hk3 p0 p1 HX HY HB HS
  go_wp2_with (refine stop_at (o := ⟨some 7, _, _, _, _, _⟩) ?_)
  refine Stop.mk ?_
  refine wpList_new_row rfl rfl _ _ rfl rfl ty_sec _ zero_sec (by rw [u8s_length]; rfl) (u8s s) rfl (by rw [u8s_length, HX64.out.1]) (u8s_one _) rfl ?_
  intro w4 hz hs hk
  have HS4 := Lib.hid (fun k (hk' : R k) => ((HB3.out.kept hk).2 k (.inl (.inl hk'))).trans (HS3.out k hk'))
  have HB4 := Lib.hid (HB3.out.kept hk).1
  have HY4 := Lib.hid (hk.block HY3.out)
  have HZ4 := hz
  obtain ⟨Z, hE⟩ : ∃ b, b = w3.heap.size := ⟨_, rfl⟩
  rw [← hE] at HZ4 hz ⊢
  clear hz hs hk hE HY3 HB3 HS3
  by_cases hc : c = 0
  · subst hc
    have HF : Hid (B.mCopy x0 x1 y0 y1 = B.write y0 y1 s) := Lib.hid (by rw [HMC.out, if_neg (by simp)])
    obtain ⟨p0, p1⟩ := Pl.of HY4.out
    go_wp2_with (refine stop_at (o := ⟨some 20, _, _, _, _, _⟩) ?_)
    refine Stop.mk ?_
    refine wpList_load_agg rfl _ rfl ty_sec Z 0 rfl (u8s s) (by simpa using Cells.of_block HZ4.out) (by rw [u8s_length, HX64.out.1]) ?_
    go_wp2_with fail
    refine Calls.mono (HWR.out _ _ HB4.out) ?_
    rintro e w5 ⟨rfl, hb, hr⟩
    have HB5 := Lib.hid hb
    have HS5 := Lib.hid (fun k (hk : R k) => (hr k (.inl (.inl hk))).trans (HS4.out k hk))
    clear hb hr p0 p1
    go_wp2
    go_ret
    exact ⟨by rw [HF.out]; rfl, by rw [HF.out]; exact HB5.out.less fun k hk => .inl (.inl hk), HS5.out⟩
  · have c1 : (c == 0) = false := by simpa using hc
    have c2 : (c != 0) = true := by simpa using hc
    have HF : Hid (B.mCopy x0 x1 y0 y1 = (B, c)) := Lib.hid (by rw [HMC.out, if_pos hc])
    go_wp2
    go_ret
    exact ⟨by rw [HF.out]; rfl, by rw [HF.out]; exact HB4.out.less fun k hk => .inl (.inl hk), HS4.out⟩
end
end Go.Proofs.Ytglplhmclfekfaa
/- ref12 on the document's bank: Read. -/
namespace Go.Proofs.Ytglplhmclfekfaa
open Go.RowKit
set_option linter.unusedVariables false
set_option linter.unusedSimpArgs false

theorem zeroB_sec : zeroB.length = 64 ∧ ∀ x ∈ zeroB, IsByte x := ⟨rfl, fun x hx => by
  have : x = 0 := by unfold zeroB at hx; exact List.eq_of_mem_replicate hx
  rw [this]; exact ⟨by decide, by decide⟩⟩
theorem BankT.read_is {B : BankT} (h : B.Ok) (d a : Int) : (B.read d a).1.length = 64 ∧ ∀ x ∈ (B.read d a).1, IsByte x := by
  unfold BankT.read
  by_cases h0 : B.inE d a = 0
  · rw [if_pos h0]
    obtain ⟨k, b, rfl, rfl, hk, hb⟩ := BankT.inE_at h0
    simp only [Int.toNat_natCast]
    exact (h.d hk).new.at hb
  · rw [if_neg h0]; exact zeroB_sec
theorem BankT.read_zero {B : BankT} {d a : Int} (h : (B.read d a).2 ≠ 0) : (B.read d a).1 = zeroB := by
  unfold BankT.read at h ⊢
  by_cases h0 : B.inE d a = 0
  · rw [if_pos h0] at h; exact absurd rfl h
  · rw [if_neg h0]
theorem lostB_ne {e : Int} (h : lostB e = true) : e ≠ 0 := fun e' => by rw [e'] at h; cases h
section
variable {w0 W : World} {R : Nat → Prop} {q : Nat} {B : BankT}
set_option maxHeartbeats 2000000
set_option maxRecDepth 100000
theorem doc_Read (h : RB w0 R W q B) (u : B.Doc) (x0 x1 y0 y1 : Int) :
    Calls Try.prog 102 #[.pointer (some ⟨q, 0, none⟩), .agg #[.int .i64 x0, .int .i64 x1], .agg #[.int .i64 y0, .int .i64 y1]] W fun e w' => e = .returned (.tuple #[.agg (u8s (B.mRead x0 x1 y0 y1).1).toArray, .int .i64 (B.mRead x0 x1 y0 y1).2]) ∧ Kept W w' := by
  have hsx := B.read_is u.inv.ok x0 x1
  have hsy := B.read_is u.inv.ok y0 y1
  have hzy := fun h => B.read_zero (d := y0) (a := y1) h
  obtain ⟨s, c, hr⟩ : ∃ s c, B.read x0 x1 = (s, c) := ⟨_, _, rfl⟩
  obtain ⟨t, d, hr2⟩ : ∃ t d, B.read y0 y1 = (t, d) := ⟨_, _, rfl⟩
  have HM : Hid (B.mRead x0 x1 y0 y1 = if lostB c then (if lostB d then (t, 5) else (t, d)) else (s, c)) := Lib.hid (by unfold BankT.mRead; rw [hr, hr2])
  rw [hr] at hsx
  rw [hr2] at hsy hzy
  simp only [] at hsx hsy hzy
  have HSX := Lib.hid hsx
  have HSY := Lib.hid hsy
  have HZY := Lib.hid hzy
  have HR1 := Lib.hid (fun (W' : World) (hk : Kept W W') => (rb_Read (h.kept hk).1 u x0 x1).mono (R' := fun e w' => e = .returned (.tuple #[.agg (u8s s).toArray, .int .i64 c]) ∧ Kept W' w') fun e w' hh => by rw [hr] at hh; exact hh)
  have HR2 := Lib.hid (fun (W' : World) (hk : Kept W W') => (rb_Read (h.kept hk).1 u y0 y1).mono (R' := fun e w' => e = .returned (.tuple #[.agg (u8s t).toArray, .int .i64 d]) ∧ Kept W' w') fun e w' hh => by rw [hr2] at hh; exact hh)
  clear hr hr2 hsx hsy hzy h u
  go_enter Try.func102, Try.ntmps102
  go_wp2_with (refine stop_at (o := ⟨some 4, _, _, _, _, _⟩) ?_)
  refine Stop.mk ?_
  refine wpList_box_row rfl _ _ rfl [.int .i64 x0, .int .i64 x1] rfl ?_
  intro w1 hz hs hk
  have HX := hz
  have HK1 := Lib.hid hk
  obtain ⟨X, hE⟩ : ∃ b, b = W.heap.size := ⟨_, rfl⟩
  rw [← hE] at HX ⊢
  clear hz hs hk hE
  go_wp2_with (refine stop_at (o := ⟨some 5, _, _, _, _, _⟩) ?_)
  refine Stop.mk ?_
  refine wpList_box_row rfl _ _ rfl [.int .i64 y0, .int .i64 y1] rfl ?_
  intro w2 hz hs hk
  have HY := hz
  have HX2 := Lib.hid (hk.block HX.out)
  have HK2 := Lib.hid (HK1.out.trans hk)
  obtain ⟨Y, hE⟩ : ∃ b, b = w1.heap.size := ⟨_, rfl⟩
  rw [← hE] at HY ⊢
  clear hz hs hk hE HX HK1
  go_wp2_with (refine stop_at (o := ⟨some 6, _, _, _, _, _⟩) ?_)
  refine Stop.mk ?_
  refine wpList_alloc_abs rfl 34 rfl (u8s zeroB) zero_sec ?_
  intro w3 hz hs hn hk
  have HX3 := Lib.hid (hk.block HX2.out)
  have HY3 := Lib.hid (hk.block HY.out)
  have HK3 := Lib.hid (HK2.out.trans hk)
  have hsz := HK2.out.size
  obtain ⟨O, hE⟩ : ∃ b, b = w2.heap.size := ⟨_, rfl⟩
  rw [← hE] at hz ⊢
  have hOw : W.heap.size ≤ O := by omega
  have HO3 := hz
  clear hz hs hn hk hE HX2 HY HK2 hsz
  obtain ⟨p0, p1⟩ := Pl.of HX3.out
  go_wp2_with fail
  refine Calls.mono (HR1.out _ HK3.out) ?_
  rintro e w4 ⟨rfl, hk⟩
  have HY4 := Lib.hid (hk.block HY3.out)
  have HO4 := Lib.hid (hk.block HO3.out)
  have HK4 := Lib.hid (HK3.out.trans hk)
  clear hk p0 p1 HX3 HY3 HO3 HK3
  go_wp2_with (refine stop_at (o := ⟨some 8, _, _, _, _, _⟩) ?_)
  refine Stop.mk ?_
  refine wpList_new_row rfl rfl _ _ rfl rfl ty_sec _ zero_sec (by rw [u8s_length]; rfl) (u8s s) rfl (by rw [u8s_length, HSX.out.1]) (u8s_one _) rfl ?_
  intro w5 hz hs hk
  have HS5 := hz
  have HY5 := Lib.hid (hk.block HY4.out)
  have HO5 := Lib.hid (hk.block HO4.out)
  have HK5 := Lib.hid (HK4.out.trans hk)
  obtain ⟨S, hE⟩ : ∃ b, b = w4.heap.size := ⟨_, rfl⟩
  rw [← hE] at HS5 ⊢
  clear hz hs hk hE HY4 HO4 HK4
  go_wp2_with fail
  refine Calls.mono (doc_Lost c _) ?_
  rintro e w' ⟨rfl, rfl⟩
  cases hl : lostB c with
  | false =>
    have HF : Hid (B.mRead x0 x1 y0 y1 = (s, c)) := Lib.hid (by rw [HM.out, hl]; rfl)
    clear hl
    go_wp2_with (refine stop_at (o := ⟨some 21, _, _, _, _, _⟩) ?_)
    refine Stop.mk ?_
    refine wpList_load_agg rfl _ rfl ty_sec S 0 rfl (u8s s) (by simpa using Cells.of_block HS5.out) (by rw [u8s_length, HSX.out.1]) ?_
    go_wp2_with (refine stop_at (o := ⟨none, .store _ _ _, _, _, _, _⟩) ?_)
    refine Stop.mk ?_
    refine wpList_store_agg rfl _ _ rfl ty_sec O 0 rfl (u8s s) rfl (by rw [u8s_length, HSX.out.1]) (u8s_one _) (u8s zeroB) 34 HO5.out (by simp [u8s_length, zeroB_length]) ?_
    intro w6 hw6
    replace hw6 := hw6.all (by rw [u8s_length, u8s_length, HSX.out.1]; rfl)
    have hkw := Lib.hid (hw6.kept HK5.out hOw)
    have hw6' := Lib.hid hw6; clear hw6
    go_wp2
    refine bodyPost_ret (results_sec rfl _ _ O s rfl hw6'.out.cells HSX.out.1) rfl ⟨by rw [HF.out]; rfl, hkw.out⟩
  | true =>
    have HL := Lib.hid hl
    clear hl
    obtain ⟨p0, p1⟩ := Pl.of HY5.out
    go_wp2_with fail
    refine Calls.mono (HR2.out _ HK5.out) ?_
    rintro e w6 ⟨rfl, hk⟩
    have HO6 := Lib.hid (hk.block HO5.out)
    have HK6 := Lib.hid (HK5.out.trans hk)
    clear hk p0 p1 HY5 HO5 HK5
    go_wp2_with (refine stop_at (o := ⟨some 10, _, _, _, _, _⟩) ?_)
    refine Stop.mk ?_
    refine wpList_new_row rfl rfl _ _ rfl rfl ty_sec _ zero_sec (by rw [u8s_length]; rfl) (u8s t) rfl (by rw [u8s_length, HSY.out.1]) (u8s_one _) rfl ?_
    intro w7 hz hs hk
    have HS7 := hz
    have HO7 := Lib.hid (hk.block HO6.out)
    have HK7 := Lib.hid (HK6.out.trans hk)
    obtain ⟨S2, hE⟩ : ∃ b, b = w6.heap.size := ⟨_, rfl⟩
    rw [← hE] at HS7 ⊢
    clear hz hs hk hE HO6 HK6
    go_wp2_with fail
    refine Calls.mono (doc_Lost d _) ?_
    rintro e w' ⟨rfl, rfl⟩
    cases hl : lostB d with
    | false =>
      have HF : Hid (B.mRead x0 x1 y0 y1 = (t, d)) := Lib.hid (by rw [HM.out, HL.out, hl]; rfl)
      clear hl
      go_wp2_with (refine stop_at (o := ⟨some 32, _, _, _, _, _⟩) ?_)
      refine Stop.mk ?_
      refine wpList_load_agg rfl _ rfl ty_sec S2 0 rfl (u8s t) (by simpa using Cells.of_block HS7.out) (by rw [u8s_length, HSY.out.1]) ?_
      go_wp2_with (refine stop_at (o := ⟨none, .store _ _ _, _, _, _, _⟩) ?_)
      refine Stop.mk ?_
      refine wpList_store_agg rfl _ _ rfl ty_sec O 0 rfl (u8s t) rfl (by rw [u8s_length, HSY.out.1]) (u8s_one _) (u8s zeroB) 34 HO7.out (by simp [u8s_length, zeroB_length]) ?_
      intro w8 hw6
      replace hw6 := hw6.all (by rw [u8s_length, u8s_length, HSY.out.1]; rfl)
      have hkw := Lib.hid (hw6.kept HK7.out hOw)
      have hw6' := Lib.hid hw6; clear hw6
      go_wp2
      refine bodyPost_ret (results_sec rfl _ _ O t rfl hw6'.out.cells HSY.out.1) rfl ⟨by rw [HF.out]; rfl, hkw.out⟩
    | true =>
      have HF : Hid (B.mRead x0 x1 y0 y1 = (zeroB, 5)) := Lib.hid (by rw [HM.out, HL.out, hl, HZY.out (lostB_ne hl)]; rfl)
      clear hl
      go_wp2_with (refine stop_at (o := ⟨none, .store _ _ _, _, _, _, _⟩) ?_)
      refine Stop.mk ?_
      refine wpList_store_agg rfl _ _ rfl ty_sec O 0 rfl (u8s zeroB) rfl (by simp [u8s_length, zeroB_length]) (u8s_one _) (u8s zeroB) 34 HO7.out (by simp [u8s_length, zeroB_length]) ?_
      intro w8 hw6
      replace hw6 := hw6.all rfl
      have hkw := Lib.hid (hw6.kept HK7.out hOw)
      have hw6' := Lib.hid hw6; clear hw6
      go_wp2
      refine bodyPost_ret (results_sec rfl _ _ O zeroB rfl hw6'.out.cells zeroB_length) rfl ⟨by rw [HF.out]; rfl, hkw.out⟩
end
end Go.Proofs.Ytglplhmclfekfaa
/- ref12 on the document's bank: Alike (gen_alike12.py). -/
namespace Go.Proofs.Ytglplhmclfekfaa
open Go.RowKit
set_option linter.unusedVariables false
set_option linter.unusedSimpArgs false

section
variable {w0 W : World} {R : Nat → Prop} {q : Nat} {B : BankT}
set_option maxHeartbeats 4000000
set_option maxRecDepth 100000
theorem doc_Alike (h : RB w0 R W q B) (u : B.Doc) (x0 x1 y0 y1 : Int) :
    Calls Try.prog 104 #[.pointer (some ⟨q, 0, none⟩), .agg #[.int .i64 x0, .int .i64 x1], .agg #[.int .i64 y0, .int .i64 y1]] W fun e w' => e = .returned (.tuple #[.bool (B.mAlike x0 x1 y0 y1).2.1, .int .i64 (B.mAlike x0 x1 y0 y1).2.2]) ∧ RB w0 R w' q (B.mAlike x0 x1 y0 y1).1 ∧ SameR R W w' := by
  have hsx := B.read_is u.inv.ok x0 x1
  have hsy := B.read_is u.inv.ok y0 y1
  obtain ⟨s, c, hr⟩ : ∃ s c, B.read x0 x1 = (s, c) := ⟨_, _, rfl⟩
  obtain ⟨t, d, hr2⟩ : ∃ t d, B.read y0 y1 = (t, d) := ⟨_, _, rfl⟩
  rw [hr] at hsx
  rw [hr2] at hsy
  simp only [] at hsx hsy
  obtain ⟨B2, g, hw⟩ : ∃ B2 g, B.write y0 y1 s = (B2, g) := ⟨_, _, rfl⟩
  have HM : Hid (B.mAlike x0 x1 y0 y1 = if c ≠ 0 ∧ lostB c = false then (B, false, c) else if d ≠ 0 ∧ lostB d = false then (B, false, d) else if c ≠ 0 ∧ d ≠ 0 then (B, false, 5) else if c ≠ 0 ∨ d ≠ 0 ∨ s = t then (B, false, 0) else if lostB g then (B2, false, 0) else (B2, g == 0, g)) := Lib.hid (by unfold BankT.mAlike; rw [hr, hr2]; simp only []; rw [hw])
  have HSX := Lib.hid hsx
  have HSY := Lib.hid hsy
  have HR1 := Lib.hid (fun (W' : World) (hk : Kept W W') => (rb_Read (h.kept hk).1 u x0 x1).mono (R' := fun e w' => e = .returned (.tuple #[.agg (u8s s).toArray, .int .i64 c]) ∧ Kept W' w') fun e w' hh => by rw [hr] at hh; exact hh)
  have HR2 := Lib.hid (fun (W' : World) (hk : Kept W W') => (rb_Read (h.kept hk).1 u y0 y1).mono (R' := fun e w' => e = .returned (.tuple #[.agg (u8s t).toArray, .int .i64 d]) ∧ Kept W' w') fun e w' hh => by rw [hr2] at hh; exact hh)
  have HWR := Lib.hid (fun (W' : World) (hk : Kept W W') => (rb_Write (h.kept hk).1 u y0 y1 hsx).mono (R' := fun e w' => e = .returned (.int .i64 g) ∧ RB w0 R w' q B2 ∧ SameR R W' w') fun e w' hh => by rw [hw] at hh; exact hh)
  have HB := Lib.hid h
  clear hr hr2 hsx hsy h u hw
  go_enter Try.func104, Try.ntmps104
  go_wp2_with (refine stop_at (o := ⟨some 4, _, _, _, _, _⟩) ?_)
  refine Stop.mk ?_
  refine wpList_box_row rfl _ _ rfl [.int .i64 x0, .int .i64 x1] rfl ?_
  intro w1 hz hs hk
  have HX := hz
  have K1 := Lib.hid (hk)
  obtain ⟨X, hE⟩ : ∃ b, b = W.heap.size := ⟨_, rfl⟩
  rw [← hE] at HX ⊢
  clear hz hs hk hE
  go_wp2_with (refine stop_at (o := ⟨some 5, _, _, _, _, _⟩) ?_)
  refine Stop.mk ?_
  refine wpList_box_row rfl _ _ rfl [.int .i64 y0, .int .i64 y1] rfl ?_
  intro w2 hz hs hk
  have HY := hz
  replace HX := Lib.hid (hk.block HX.out)
  have K2 := Lib.hid (K1.out.trans hk)
  obtain ⟨Y, hE⟩ : ∃ b, b = w1.heap.size := ⟨_, rfl⟩
  rw [← hE] at HY ⊢
  clear hz hs hk hE K1
  obtain ⟨p0, p1⟩ := Pl.of HX.out
  go_wp2_with (go_at_call 137; refine Calls.mono (doc_Lost _ _) ?_; rintro e w' ⟨rfl, rfl⟩)
  refine Calls.mono (HR1.out _ K2.out) ?_
  rintro e w3 ⟨rfl, hk⟩
  replace HY := Lib.hid (hk.block HY.out)
  have K3 := Lib.hid (K2.out.trans hk)
  clear hk p0 p1 K2
  go_wp2_with (refine stop_at (o := ⟨some 8, _, _, _, _, _⟩) ?_)
  refine Stop.mk ?_
  refine wpList_new_row rfl rfl _ _ rfl rfl ty_sec _ zero_sec (by rw [u8s_length]; rfl) (u8s s) rfl (by rw [u8s_length, HSX.out.1]) (u8s_one _) rfl ?_
  intro w4 hz hs hk
  have HS := hz
  replace HY := Lib.hid (hk.block HY.out)
  have K4 := Lib.hid (K3.out.trans hk)
  obtain ⟨S, hE⟩ : ∃ b, b = w3.heap.size := ⟨_, rfl⟩
  rw [← hE] at HS ⊢
  clear hz hs hk hE K3
  have ccase : c = 0 ∨ (c ≠ 0 ∧ lostB c = true) ∨ (c ≠ 0 ∧ lostB c = false) := by cases lostB c <;> simp <;> omega
  rcases ccase with hc | ⟨hc, hl⟩ | ⟨hc, hl⟩
  · subst hc
    have HCL : Hid (lostB 0 = false) := Lib.hid rfl
    obtain ⟨p0, p1⟩ := Pl.of HY.out
    go_wp2_with (go_at_call 137; refine Calls.mono (doc_Lost _ _) ?_; rintro e w' ⟨rfl, rfl⟩)
    refine Calls.mono (HR2.out _ K4.out) ?_
    rintro e w5 ⟨rfl, hk⟩
    replace HY := Lib.hid (hk.block HY.out)
    replace HS := Lib.hid (hk.block HS.out)
    have K5 := Lib.hid (K4.out.trans hk)
    clear hk p0 p1 K4
    go_wp2_with (refine stop_at (o := ⟨some 11, _, _, _, _, _⟩) ?_)
    refine Stop.mk ?_
    refine wpList_new_row rfl rfl _ _ rfl rfl ty_sec _ zero_sec (by rw [u8s_length]; rfl) (u8s t) rfl (by rw [u8s_length, HSY.out.1]) (u8s_one _) rfl ?_
    intro w6 hz hs hk
    have HS2 := hz
    replace HY := Lib.hid (hk.block HY.out)
    replace HS := Lib.hid (hk.block HS.out)
    have K6 := Lib.hid (K5.out.trans hk)
    obtain ⟨S2, hE⟩ : ∃ b, b = w5.heap.size := ⟨_, rfl⟩
    rw [← hE] at HS2 ⊢
    clear hz hs hk hE K5
    have dcase : d = 0 ∨ (d ≠ 0 ∧ lostB d = true) ∨ (d ≠ 0 ∧ lostB d = false) := by cases lostB d <;> simp <;> omega
    rcases dcase with hd | ⟨hd, hdl⟩ | ⟨hd, hdl⟩
    · subst hd
      have l0 : lostB 0 = false := rfl
      by_cases hst : s = t
      · subst hst
        have HF : Hid (B.mAlike x0 x1 y0 y1 = (B, false, 0)) := Lib.hid (by rw [HM.out]; simp)
        go_wp2_with (first | (go_at_call 137; refine Calls.mono (doc_Lost _ _) ?_; rintro e w' ⟨rfl, rfl⟩) | (refine stop_at (o := ⟨some 54, _, _, _, _, _⟩) ?_))
        refine Stop.mk ?_
        refine wpList_load_aggW _ rfl ty_sec S 0 rfl (u8s s) (by simpa using Cells.of_block HS.out) (by rw [u8s_length, HSX.out.1]) rfl ?_
        go_wp2_with (refine stop_at (o := ⟨some 55, _, _, _, _, _⟩) ?_)
        refine Stop.mk ?_
        refine wpList_load_aggW _ rfl ty_sec S2 0 rfl (u8s s) (by simpa using Cells.of_block HS2.out) (by rw [u8s_length, HSX.out.1]) rfl ?_
        go_wp2_with (refine stop_at (o := ⟨some 56, _, _, _, _, _⟩) ?_)
        refine Stop.mk ?_
        refine wpList_eq_sec rfl _ _ rfl s s rfl rfl HSX.out.1 HSX.out.1 ?_
        go_wp2
        go_ret2
        exact ⟨by rw [HF.out]; rfl, by rw [HF.out]; exact (HB.out.kept K6.out).1, (HB.out.kept K6.out).2⟩
      · have kst : (s == t) = false := by simpa using hst
        have HST := Lib.hid hst
        go_wp2_with (first | (go_at_call 137; refine Calls.mono (doc_Lost _ _) ?_; rintro e w' ⟨rfl, rfl⟩) | (refine stop_at (o := ⟨some 54, _, _, _, _, _⟩) ?_))
        refine Stop.mk ?_
        refine wpList_load_aggW _ rfl ty_sec S 0 rfl (u8s s) (by simpa using Cells.of_block HS.out) (by rw [u8s_length, HSX.out.1]) rfl ?_
        go_wp2_with (refine stop_at (o := ⟨some 55, _, _, _, _, _⟩) ?_)
        refine Stop.mk ?_
        refine wpList_load_aggW _ rfl ty_sec S2 0 rfl (u8s t) (by simpa using Cells.of_block HS2.out) (by rw [u8s_length, HSY.out.1]) rfl ?_
        go_wp2_with (refine stop_at (o := ⟨some 56, _, _, _, _, _⟩) ?_)
        refine Stop.mk ?_
        refine wpList_eq_sec rfl _ _ rfl s t rfl rfl HSX.out.1 HSY.out.1 ?_
        obtain ⟨p0, p1⟩ := Pl.of HY.out
        go_wp2_with (refine stop_at (o := ⟨some 60, _, _, _, _, _⟩) ?_)
        refine Stop.mk ?_
        refine wpList_load_agg rfl _ rfl ty_sec S 0 rfl (u8s s) (by simpa using Cells.of_block HS.out) (by rw [u8s_length, HSX.out.1]) ?_
        go_wp2_with fail
        refine Calls.mono (HWR.out _ K6.out) ?_
        rintro e w7 ⟨rfl, hb, hr⟩
        have HB7 := Lib.hid hb
        have HS7 := Lib.hid (fun k hk => (hr k hk).trans ((HB.out.kept K6.out).2 k hk))
        clear hb hr p0 p1
        have gcase : g = 0 ∨ (g ≠ 0 ∧ lostB g = true) ∨ (g ≠ 0 ∧ lostB g = false) := by cases lostB g <;> simp <;> omega
        rcases gcase with hg | ⟨hg, hgl⟩ | ⟨hg, hgl⟩
        · subst hg
          have HF : Hid (B.mAlike x0 x1 y0 y1 = (B2, true, 0)) := Lib.hid (by rw [HM.out]; simp [HST.out, l0])
          go_wp2_with (go_at_call 137; refine Calls.mono (doc_Lost _ _) ?_; rintro e w' ⟨rfl, rfl⟩)
          go_ret2
          exact ⟨by rw [HF.out]; rfl, by rw [HF.out]; exact HB7.out, HS7.out⟩
        · have k1 : (g == 0) = false := by simpa using hg
          have k2 : (g != 0) = true := by simpa using hg
          have HF : Hid (B.mAlike x0 x1 y0 y1 = (B2, false, 0)) := Lib.hid (by rw [HM.out]; simp [HST.out, l0, hgl])
          go_wp2_with (go_at_call 137; refine Calls.mono (doc_Lost _ _) ?_; rintro e w' ⟨rfl, rfl⟩)
          go_ret2
          exact ⟨by rw [HF.out]; rfl, by rw [HF.out]; exact HB7.out, HS7.out⟩
        · have k1 : (g == 0) = false := by simpa using hg
          have k2 : (g != 0) = true := by simpa using hg
          have HF : Hid (B.mAlike x0 x1 y0 y1 = (B2, false, g)) := Lib.hid (by rw [HM.out]; simp [HST.out, l0, hgl, hg])
          go_wp2_with (go_at_call 137; refine Calls.mono (doc_Lost _ _) ?_; rintro e w' ⟨rfl, rfl⟩)
          go_ret2
          exact ⟨by rw [HF.out]; rfl, by rw [HF.out]; exact HB7.out, HS7.out⟩
    · have d1 : (d == 0) = false := by simpa using hd
      have d2 : (d != 0) = true := by simpa using hd
      have l0 : lostB 0 = false := rfl
      have HF : Hid (B.mAlike x0 x1 y0 y1 = (B, false, 0)) := Lib.hid (by rw [HM.out]; simp [hd, hdl, l0])
      go_wp2_with (go_at_call 137; refine Calls.mono (doc_Lost _ _) ?_; rintro e w' ⟨rfl, rfl⟩)
      go_ret2
      exact ⟨by rw [HF.out]; rfl, by rw [HF.out]; exact (HB.out.kept K6.out).1, (HB.out.kept K6.out).2⟩
    · have d1 : (d == 0) = false := by simpa using hd
      have d2 : (d != 0) = true := by simpa using hd
      have l0 : lostB 0 = false := rfl
      have HF : Hid (B.mAlike x0 x1 y0 y1 = (B, false, d)) := Lib.hid (by rw [HM.out]; simp [hd, hdl, l0])
      go_wp2_with (go_at_call 137; refine Calls.mono (doc_Lost _ _) ?_; rintro e w' ⟨rfl, rfl⟩)
      go_ret2
      exact ⟨by rw [HF.out]; rfl, by rw [HF.out]; exact (HB.out.kept K6.out).1, (HB.out.kept K6.out).2⟩
  · have c1 : (c == 0) = false := by simpa using hc
    have c2 : (c != 0) = true := by simpa using hc
    have HC := Lib.hid hc
    have HCL := Lib.hid hl
    obtain ⟨p0, p1⟩ := Pl.of HY.out
    go_wp2_with (go_at_call 137; refine Calls.mono (doc_Lost _ _) ?_; rintro e w' ⟨rfl, rfl⟩)
    refine Calls.mono (HR2.out _ K4.out) ?_
    rintro e w5 ⟨rfl, hk⟩
    replace HY := Lib.hid (hk.block HY.out)
    replace HS := Lib.hid (hk.block HS.out)
    have K5 := Lib.hid (K4.out.trans hk)
    clear hk p0 p1 K4
    go_wp2_with (refine stop_at (o := ⟨some 11, _, _, _, _, _⟩) ?_)
    refine Stop.mk ?_
    refine wpList_new_row rfl rfl _ _ rfl rfl ty_sec _ zero_sec (by rw [u8s_length]; rfl) (u8s t) rfl (by rw [u8s_length, HSY.out.1]) (u8s_one _) rfl ?_
    intro w6 hz hs hk
    have HS2 := hz
    replace HY := Lib.hid (hk.block HY.out)
    replace HS := Lib.hid (hk.block HS.out)
    have K6 := Lib.hid (K5.out.trans hk)
    obtain ⟨S2, hE⟩ : ∃ b, b = w5.heap.size := ⟨_, rfl⟩
    rw [← hE] at HS2 ⊢
    clear hz hs hk hE K5
    have dcase : d = 0 ∨ (d ≠ 0 ∧ lostB d = true) ∨ (d ≠ 0 ∧ lostB d = false) := by cases lostB d <;> simp <;> omega
    rcases dcase with hd | ⟨hd, hdl⟩ | ⟨hd, hdl⟩
    · subst hd
      have l0 : lostB 0 = false := rfl
      have HF : Hid (B.mAlike x0 x1 y0 y1 = (B, false, 0)) := Lib.hid (by rw [HM.out]; simp [HC.out, HCL.out])
      go_wp2_with (go_at_call 137; refine Calls.mono (doc_Lost _ _) ?_; rintro e w' ⟨rfl, rfl⟩)
      go_ret2
      exact ⟨by rw [HF.out]; rfl, by rw [HF.out]; exact (HB.out.kept K6.out).1, (HB.out.kept K6.out).2⟩
    · have d1 : (d == 0) = false := by simpa using hd
      have d2 : (d != 0) = true := by simpa using hd
      have l0 : lostB 0 = false := rfl
      have HF : Hid (B.mAlike x0 x1 y0 y1 = (B, false, 5)) := Lib.hid (by rw [HM.out]; simp [hd, hdl, HC.out, HCL.out])
      go_wp2_with (go_at_call 137; refine Calls.mono (doc_Lost _ _) ?_; rintro e w' ⟨rfl, rfl⟩)
      go_ret2
      exact ⟨by rw [HF.out]; rfl, by rw [HF.out]; exact (HB.out.kept K6.out).1, (HB.out.kept K6.out).2⟩
    · have d1 : (d == 0) = false := by simpa using hd
      have d2 : (d != 0) = true := by simpa using hd
      have l0 : lostB 0 = false := rfl
      have HF : Hid (B.mAlike x0 x1 y0 y1 = (B, false, d)) := Lib.hid (by rw [HM.out]; simp [hd, hdl, HC.out, HCL.out])
      go_wp2_with (go_at_call 137; refine Calls.mono (doc_Lost _ _) ?_; rintro e w' ⟨rfl, rfl⟩)
      go_ret2
      exact ⟨by rw [HF.out]; rfl, by rw [HF.out]; exact (HB.out.kept K6.out).1, (HB.out.kept K6.out).2⟩
  · have c1 : (c == 0) = false := by simpa using hc
    have c2 : (c != 0) = true := by simpa using hc
    have HF : Hid (B.mAlike x0 x1 y0 y1 = (B, false, c)) := Lib.hid (by rw [HM.out]; simp [hc, hl])
    go_wp2_with (go_at_call 137; refine Calls.mono (doc_Lost _ _) ?_; rintro e w' ⟨rfl, rfl⟩)
    go_ret2
    exact ⟨by rw [HF.out]; rfl, by rw [HF.out]; exact (HB.out.kept K4.out).1, (HB.out.kept K4.out).2⟩
end
end Go.Proofs.Ytglplhmclfekfaa
/- Both banks, apart from one another: a call on the one, a call on the other (split out of XRke). -/
namespace Go.Proofs.Ytglplhmclfekfaa
open Go.RowKit
set_option linter.unusedVariables false
set_option linter.unusedSimpArgs false

/-- both banks, apart, and apart from the blocks that R names -/
def BR (w0 : World) (R : Nat → Prop) (W : World) (qb : Nat) (T : BankT) (qr : Nat) (S : RT) : Prop :=
  ∃ Y : Lay, Y.A 0 = qb ∧ BankD W Y T ∧ (∀ b, Y.In T.l.length b → w0.heap.size ≤ b) ∧ (∀ k, R k → ¬ Y.In T.l.length k) ∧ RK w0 (fun k => Y.In T.l.length k ∨ R k) W qr S
section
variable {w0 W W' : World} {R : Nat → Prop} {qb qr : Nat} {T T' : BankT} {S S' : RT}
theorem BR.keeps (h : BR w0 R W qb T qr S) : Kept w0 W := by obtain ⟨_, _, _, _, _, h⟩ := h; exact h.keeps
theorem BR.kept (h : BR w0 R W qb T qr S) (hk : Kept W W') : BR w0 R W' qb T qr S := by
  obtain ⟨Y, h0, hd, ho, hr, h⟩ := h
  exact ⟨Y, h0, hd.kept hk, ho, hr, (h.kept hk).1⟩
theorem BR.less {R' : Nat → Prop} (h : BR w0 R W qb T qr S) (hr : ∀ k, R' k → R k) : BR w0 R' W qb T qr S := by
  obtain ⟨Y, h0, hd, ho, hr0, h⟩ := h
  exact ⟨Y, h0, hd, ho, fun k hk => hr0 k (hr k hk), h.less fun k hk => hk.elim .inl (fun hk => .inr (hr k hk))⟩
theorem BR.box {w1 : World} (h : BR w0 R W qb T qr S) (hk : Kept W w1) (hs : W.heap.size < w1.heap.size) : BR w0 (fun k => R k ∨ k = W.heap.size) w1 qb T qr S := by
  obtain ⟨Y, h0, hd, ho, hr, h⟩ := h
  refine ⟨Y, h0, hd.kept hk, ho, fun k hk' => ?_, (h.more hk _ (Nat.le_refl _) hs).less fun k hk' => ?_⟩
  · rcases hk' with hk' | rfl
    · exact hr k hk'
    · intro hi; have := hd.lt hi; omega
  · rcases hk' with hk' | hk' | hk'
    · exact .inl (.inl hk')
    · exact .inl (.inr hk')
    · exact .inr hk'
/-- a call on the document's one -/
theorem BR.opr {f : Nat} {args : Array Value} {P : Ending → Prop} (h : BR w0 R W qb T qr S)
    (C : ∀ R, RK w0 R W qr S → Calls Try.prog f args W fun e w' => P e ∧ RK w0 R w' qr S' ∧ SameR R W w') : Calls Try.prog f args W fun e w' => P e ∧ BR w0 R w' qb T qr S' ∧ SameR R W w' := by
  obtain ⟨Y, h0, hd, ho, hr, h⟩ := h
  exact (C _ h).mono fun e w' ⟨he, hb, hs⟩ => ⟨he, ⟨Y, h0, hd.same fun b hb' => hs b (.inl hb'), ho, hr, hb⟩, fun k hk => hs k (.inr hk)⟩
/-- a call on the disks -/
theorem BR.opd {f : Nat} {args : Array Value} {P : Ending → Prop} (h : BR w0 R W qb T qr S)
    (C : ∀ R, BK w0 R W qb T → Calls Try.prog f args W fun e w' => P e ∧ BK w0 R w' qb T' ∧ SameR R W w') : Calls Try.prog f args W fun e w' => P e ∧ BR w0 R w' qb T' qr S ∧ SameR R W w' := by
  obtain ⟨Y, h0, hd, ho, hr, Yr, hq, hrd, hk, hro, hrr⟩ := h
  have hb : BK w0 (fun k => Yr.In k ∨ R k) W qb T := ⟨Y, h0, ⟨hd, hk, ho, fun k hk' => by
    rcases hk' with hk' | hk'
    · exact ⟨hrd.lt hk', fun hi => (hrr k (.inl hi)).2 hk'⟩
    · exact ⟨(hrr k (.inr hk')).1, hr k hk'⟩⟩⟩
  refine (C _ hb).mono ?_
  rintro e w' ⟨he, ⟨Y', h0', hb'⟩, hs⟩
  exact ⟨he, ⟨Y', h0', hb'.d, hb'.own, fun k hk' => (hb'.off k (.inr hk')).2, Yr, hq, hrd.same fun b hbi => hs b (.inl hbi), hb'.keeps, hro, fun k hk' => by
    rcases hk' with hk' | hk'
    · exact ⟨hb'.d.lt hk', fun hi => (hb'.off k (.inl hi)).2 hk'⟩
    · exact ⟨(hb'.off k (.inr hk')).1, (hrr k (.inr hk')).2⟩⟩, fun k hk' => hs k (.inr hk')⟩
theorem BR.disk (h : BR w0 R W qb T qr S) : BK w0 R W qb T := by
  obtain ⟨Y, h0, hd, ho, hr, h⟩ := h
  obtain ⟨Yr, hq, hrd, hk, hro, hrr⟩ := h
  exact ⟨Y, h0, ⟨hd, hk, ho, fun k hk' => ⟨(hrr k (.inr hk')).1, hr k hk'⟩⟩⟩
theorem br_New (h : BK w0 R W qb T) : Calls Try.prog 37 #[] W fun e w' => ∃ qr, e = .returned (.pointer (some ⟨qr, 0, none⟩)) ∧ BR w0 R w' qb T qr RT.zero := by
  obtain ⟨Y, h0, h⟩ := h
  exact (rk_New w0 W (fun k => Y.In T.l.length k ∨ R k) h.keeps (fun k hk => by
    rcases hk with hk | hk
    · exact h.d.lt hk
    · exact (h.off k hk).1)).mono fun e w' ⟨qr, he, hb, hk⟩ => ⟨qr, he, Y, h0, h.d.kept hk, h.own, fun k hk => (h.off k hk).2, hb⟩
theorem BR.doc (h : BR w0 R W qb T qr S) : RK w0 R W qr S := by
  obtain ⟨Y, h0, hd, ho, hr, h⟩ := h
  exact h.less fun k hk => .inr hk
theorem BR.keptS (h : BR w0 R W qb T qr S) (hk : Kept W W') : BR w0 R W' qb T qr S ∧ SameR R W W' := ⟨h.kept hk, (h.doc.kept hk).2⟩
end
end Go.Proofs.Ytglplhmclfekfaa
/- A bank of n disks of z sectors, with how much has come to pass: what each call keeps; FailAt of any disk. -/
namespace Go.Proofs.Ytglplhmclfekfaa
open Go.RowKit
set_option linter.unusedVariables false
set_option linter.unusedSimpArgs false

theorem Med.looseTo_leL (k : Nat) (m : Med) : ∀ j, (m.looseTo k j).length ≤ j
  | 0 => Nat.le_refl _
  | j + 1 => by
    have := Med.looseTo_leL k m j
    unfold Med.looseTo
    split
    · rw [List.length_append, List.length_singleton]; omega
    · omega
theorem BankT.looseTo_leL {T : BankT} {z : Nat} : ∀ {j : Nat}, (∀ k, k < j → (T.d k).sin.length ≤ z) → (T.looseTo j).length ≤ j * z
  | 0, _ => by simp [BankT.looseTo]
  | j + 1, h => by
    have h1 := BankT.looseTo_leL (T := T) (j := j) fun k hk => h k (by omega)
    have h2 := Med.looseTo_leL j (T.d j) (T.d j).sin.length
    have h3 := h j (by omega)
    unfold BankT.looseTo
    rw [List.length_append, Nat.add_mul, Nat.one_mul]; omega
section
variable {T : BankT} {n z c : Nat}
theorem BankT.crash_lens (h : T.Inv) (mask : Int) (k : Nat) : ((T.crash mask).d k).sin.length = (T.d k).sin.length := by
  unfold BankT.crash
  split
  · rfl
  · have hp : ∀ p ∈ T.order, T.Has p := fun p hp => ((T.mem_order p).1 hp).1
    obtain ⟨c, _⟩ := BankT.settleL_calmer mask T.order 0 h.ok hp
    exact c.lens k
theorem BankT.tick_lens (h : T.Inv) (k : Nat) : (T.tick.1.d k).sin.length = (T.d k).sin.length := by
  obtain ⟨c, o, w, a, m, d⟩ := BankT.tickTo_calmer h.ok (Nat.le_refl _)
  have hi : (T.tickTo T.l.length).Inv := c.inv h o (by rw [w]; have := h.wr; omega) (by rw [a]; exact h.ar) (by rw [m]; exact h.msk)
  unfold BankT.tick
  split
  · rfl
  · split
    · rename_i h0
      have h1 : (T.tickTo T.l.length).arm1.Inv := ⟨hi.ok, hi.clk, hi.wr, by have := hi.ar; simp only [BankT.arm1]; omega, hi.msk, hi.top, hi.uniq⟩
      split
      · exact (BankT.crash_lens h1 _ k).trans (c.lens k)
      · exact c.lens k
    · exact c.lens k
theorem BankT.write_lens (h : T.Inv) (d a : Int) (s : List Int) (k : Nat) : ((T.write d a s).1.d k).sin.length = (T.d k).sin.length := by
  have ht := BankT.tick_lens h k
  unfold BankT.write
  split
  · exact ht
  · split
    · rename_i hin
      obtain ⟨j, b, rfl, rfl, hk, hb, _⟩ := BankT.inE_has hin
      rw [Int.toNat_natCast, Int.toNat_natCast]
      rw [BankT.put_d hk]
      split
      · rename_i e; rw [← ht, e]; simp [Med.put]
      · exact ht
    · exact ht
/-- n disks of z sectors, and no more than c writes and numbers -/
structure Sane (T : BankT) (n z c : Nat) : Prop where
  inv : T.Inv
  len : T.l.length = n
  sz : ∀ k, k < n → (T.d k).sin.length = z
  clk : T.clock ≤ c
  wri : T.writes ≤ c
theorem Sane.few (h : Sane T n z c) : T.order.length ≤ n * z := by
  rw [show T.order.length = (T.looseTo T.l.length).length from (sortBy_perm _ _).length_eq, h.len]
  exact BankT.looseTo_leL fun k hk => Nat.le_of_eq (h.sz k hk)
theorem Sane.use (h : Sane T n z c) (hn : n ≠ 0) (hc : c < 1000000000) : T.Use := ⟨h.inv, by rw [h.len]; exact hn, by have := h.clk; omega, by have := h.wri; omega⟩
theorem Sane.doc (h : Sane T n z c) (hm : n * z < 9000) (hc : c < 1000000000) : T.Doc := ⟨h.inv, by have := h.few; omega, by have := h.wri; omega⟩
theorem Sane.le {c' : Nat} (h : Sane T n z c) (hc : c ≤ c') : Sane T n z c' := ⟨h.inv, h.len, h.sz, by have := h.clk; omega, by have := h.wri; omega⟩
theorem Sane.write (h : Sane T n z c) (d a : Int) {s : List Int} (hs : s.length = 64 ∧ ∀ x ∈ s, IsByte x) : Sane (T.write d a s).1 n z (c + 1) := by
  obtain ⟨r1, r2, r3⟩ := BankT.write_rest h.inv.ok d a s
  exact ⟨h.inv.write d a hs, r1.trans h.len, fun k hk => (BankT.write_lens h.inv d a s k).trans (h.sz k hk), by have := h.clk; omega, by have := h.wri; omega⟩
theorem Sane.calmer {T' : BankT} (h : Sane T n z c) (hc : T.Calmer T') (hi : T'.Inv) (hw : T'.writes = T.writes) : Sane T' n z c :=
  ⟨hi, hc.len.trans h.len, fun k hk => (hc.lens k).trans (h.sz k hk), by rw [hc.clk]; exact h.clk, by rw [hw]; exact h.wri⟩
theorem Sane.flushC (h : Sane T n z c) (d : Int) : Sane (T.flushC d).1 n z c := by
  have hi := h.inv.flushC d
  unfold BankT.flushC at hi ⊢
  split at hi
  · rename_i hr
    obtain ⟨k, rfl, hk⟩ := BankT.readyE_in hr
    rw [if_pos hr]
    rw [Int.toNat_natCast] at hi ⊢
    exact h.calmer (BankT.flush_calmer h.inv.ok hk) hi rfl
  · rename_i hr; rw [if_neg hr]; exact h
theorem Sane.failC (h : Sane T n z c) (d : Int) : Sane (T.failC d).1 n z c := by
  have hi := h.inv.failC d
  unfold BankT.failC at hi ⊢
  split at hi
  · rename_i hr; rw [if_pos hr]; exact h
  · rename_i hr; rw [if_neg hr]; exact h.calmer (BankT.fell_calmer h.inv.ok (by omega)) hi rfl
theorem Sane.crash (h : Sane T n z c) (m : Int) : Sane (T.crash m) n z c := by
  refine ⟨h.inv.crash m, (BankT.crash_len T m).trans h.len, fun k hk => (BankT.crash_lens h.inv m k).trans (h.sz k hk), ?_, ?_⟩
  all_goals
    unfold BankT.crash
    split
    · first | exact h.clk | exact h.wri
    · have hp : ∀ p ∈ T.order, T.Has p := fun p hp => ((T.mem_order p).1 hp).1
      obtain ⟨c1, w1, _⟩ := BankT.settleL_calmer m T.order 0 h.inv.ok hp
      first
        | (show (BankT.settleL m T.order 0 T).clock ≤ (c : Int); rw [c1.clk]; exact h.clk)
        | (show (BankT.settleL m T.order 0 T).writes ≤ (c : Int); rw [w1]; exact h.wri)
theorem Sane.start (h : Sane T n z c) : Sane T.start n z c := ⟨h.inv.start, h.len, h.sz, h.clk, h.wri⟩
theorem Sane.arm (h : Sane T n z c) {k m : Int} (hk : k < 9223372036854775808) (hm : 0 ≤ m ∧ m < 18446744073709551616) : Sane (T.arm k m) n z c :=
  ⟨⟨h.inv.ok, h.inv.clk, h.inv.wr, by show 0 ≤ max k 0 ∧ max k 0 < _; omega, hm, h.inv.top, h.inv.uniq⟩, h.len, h.sz, h.clk, h.wri⟩
theorem Sane.failAt (h : Sane T n z c) (d : Int) {k : Int} (hk : k < 9223372036854775808) : Sane (T.failAt d k) n z c := by
  unfold BankT.failAt
  split
  · exact h
  · have hd : d.toNat < T.l.length := by omega
    have ho := h.inv.ok.d hd
    have hok : ({ T.d d.toNat with fail := max k 0 } : Med).Ok := ⟨ho.flu, ho.new, ho.len, ho.sin, by show 0 ≤ max k 0 ∧ max k 0 < _; omega⟩
    exact h.calmer (BankT.Calmer.up hd rfl fun _ => .inl rfl) (h.inv.up hd rfl hok) rfl
theorem Sane.mWrite (h : Sane T n z c) (x0 x1 y0 y1 : Int) {s : List Int} (hs : s.length = 64 ∧ ∀ x ∈ s, IsByte x) : Sane (T.mWrite x0 x1 y0 y1 s).1 n z (c + 2) := by
  have h1 := h.write x0 x1 hs
  have h2 := h1.write y0 y1 hs
  unfold BankT.mWrite
  split
  · exact h1.le (by omega)
  · split
    · exact h2
    · exact h2
theorem Sane.mCopy (h : Sane T n z c) (x0 x1 y0 y1 : Int) : Sane (T.mCopy x0 x1 y0 y1).1 n z (c + 2) := by
  have h1 := h.write y0 y1 (T.read_is h.inv.ok x0 x1)
  unfold BankT.mCopy
  split
  · exact h.le (by omega)
  · exact h1.le (by omega)
theorem Sane.mAlike (h : Sane T n z c) (x0 x1 y0 y1 : Int) : Sane (T.mAlike x0 x1 y0 y1).1 n z (c + 2) := by
  have h1 := h.write y0 y1 (T.read_is h.inv.ok x0 x1)
  unfold BankT.mAlike
  split
  · exact h.le (by omega)
  · split
    · exact h.le (by omega)
    · split
      · exact h.le (by omega)
      · split
        · exact h.le (by omega)
        · split
          · exact h1.le (by omega)
          · exact h1.le (by omega)
theorem Sane.addZ {n z : Nat} (hn : n ≤ 31) (hz : z ≤ 4096) : Sane (addZ z n) n z 0 := by
  have hs := addZ_still (z := z) (k := n) hz hn
  exact ⟨hs.inv, hs.len, hs.sz, Int.le_of_eq (addZ_rest z n).2.2.1, Int.le_of_eq (addZ_rest z n).2.2.2⟩
end
section
variable {w0 W : World} {R : Nat → Prop} {q : Nat} {T : BankT}
theorem bk_FailAtX (h : BK w0 R W q T) (u : T.Use) (d n : Int) : Calls Try.prog 17 #[.pointer (some ⟨q, 0, none⟩), .int .i64 d, .int .i64 n] W fun e w' => e = .returned (.tuple #[]) ∧ BK w0 R w' q (T.failAt d n) ∧ SameR R W w' := by
  unfold BankT.failAt
  by_cases hd : d < 0 ∨ (T.l.length : Int) ≤ d
  · rw [if_pos hd]
    obtain ⟨Y, rfl, h⟩ := h
    have hi := Lib.hid (bank_is_f h.d u.len hd)
    have HB : Hid (BK w0 R W (Y.A 0) T) := Lib.hid ⟨Y, rfl, h⟩
    clear h hd u
    go_enter Try.func17, Try.ntmps17
    go_wp2_with fail
    refine Calls.mono hi.out ?_
    rintro e w' ⟨rfl, rfl⟩
    go_wp2
    go_end0
    exact ⟨rfl, HB.out, fun _ _ => rfl⟩
  · rw [if_neg hd]
    obtain ⟨k, rfl⟩ : ∃ k : Nat, d = (k : Int) := ⟨d.toNat, by omega⟩
    rw [Int.toNat_natCast]
    exact bk_FailAt h (by omega) n
end
end Go.Proofs.Ytglplhmclfekfaa
/- The mirror's calls on both banks, each in two halves. -/
namespace Go.Proofs.Ytglplhmclfekfaa
open Go.RowKit
set_option linter.unusedVariables false
set_option linter.unusedSimpArgs false

theorem secN_is (n : Int) : (secN n).length = 64 ∧ ∀ x ∈ secN n, IsByte x := ⟨secN_len n, secN_byte n⟩
theorem BankT.mRead_is {B : BankT} (h : B.Ok) (x0 x1 y0 y1 : Int) : (B.mRead x0 x1 y0 y1).1.length = 64 := by
  unfold BankT.mRead
  split
  · split
    · exact (B.read_is h y0 y1).1
    · exact (B.read_is h y0 y1).1
  · exact (B.read_is h x0 x1).1
section
variable {w0 W : World} {R : Nat → Prop} {p q : Nat} {T V : BankT} {U : RT}
theorem br_mWrite (h : BR w0 R W p T q U) (u : T.Use) (x0 x1 y0 y1 : Int) {s : List Int} (hs : s.length = 64) (u1 : (T.write x0 x1 s).1.Use) :
    Calls Try.prog 97 #[.pointer (some ⟨p, 0, none⟩), .agg #[.int .i64 x0, .int .i64 x1], .agg #[.int .i64 y0, .int .i64 y1], .agg (u8s s).toArray] W fun e w' => e = .returned (.int .i64 (T.mWrite x0 x1 y0 y1 s).2) ∧ BR w0 R w' p (T.mWrite x0 x1 y0 y1 s).1 q U ∧ SameR R W w' :=
  h.opd (P := fun e => e = .returned (.int .i64 (T.mWrite x0 x1 y0 y1 s).2)) fun R hb => m_Write hb u x0 x1 y0 y1 hs u1
theorem br_mWrite2 (h : BR w0 R W p V q T.ref) (u : T.Doc) (x0 x1 y0 y1 : Int) {s : List Int} (hs : s.length = 64 ∧ ∀ x ∈ s, IsByte x) (u1 : (T.write x0 x1 s).1.Doc) :
    Calls Try.prog 101 #[.pointer (some ⟨q, 0, none⟩), .agg #[.int .i64 x0, .int .i64 x1], .agg #[.int .i64 y0, .int .i64 y1], .agg (u8s s).toArray] W fun e w' => e = .returned (.int .i64 (T.mWrite x0 x1 y0 y1 s).2) ∧ BR w0 R w' p V q (T.mWrite x0 x1 y0 y1 s).1.ref ∧ SameR R W w' :=
  h.opr (P := fun e => e = .returned (.int .i64 (T.mWrite x0 x1 y0 y1 s).2)) fun R hb => doc_Write hb u x0 x1 y0 y1 hs u1
theorem br_mCopy (h : BR w0 R W p T q U) (u : T.Use) (x0 x1 y0 y1 : Int) :
    Calls Try.prog 105 #[.pointer (some ⟨p, 0, none⟩), .agg #[.int .i64 x0, .int .i64 x1], .agg #[.int .i64 y0, .int .i64 y1]] W fun e w' => e = .returned (.int .i64 (T.mCopy x0 x1 y0 y1).2) ∧ BR w0 R w' p (T.mCopy x0 x1 y0 y1).1 q U ∧ SameR R W w' :=
  h.opd (P := fun e => e = .returned (.int .i64 (T.mCopy x0 x1 y0 y1).2)) fun R hb => m_Copy hb u x0 x1 y0 y1
theorem br_mCopy2 (h : BR w0 R W p V q T.ref) (u : T.Doc) (x0 x1 y0 y1 : Int) :
    Calls Try.prog 106 #[.pointer (some ⟨q, 0, none⟩), .agg #[.int .i64 x0, .int .i64 x1], .agg #[.int .i64 y0, .int .i64 y1]] W fun e w' => e = .returned (.int .i64 (T.mCopy x0 x1 y0 y1).2) ∧ BR w0 R w' p V q (T.mCopy x0 x1 y0 y1).1.ref ∧ SameR R W w' :=
  h.opr (P := fun e => e = .returned (.int .i64 (T.mCopy x0 x1 y0 y1).2)) fun R hb => doc_Copy hb u x0 x1 y0 y1 (T.read_is u.inv.ok x0 x1)
theorem br_mAlike (h : BR w0 R W p T q U) (u : T.Use) (x0 x1 y0 y1 : Int) :
    Calls Try.prog 103 #[.pointer (some ⟨p, 0, none⟩), .agg #[.int .i64 x0, .int .i64 x1], .agg #[.int .i64 y0, .int .i64 y1]] W fun e w' => e = .returned (.tuple #[.bool (T.mAlike x0 x1 y0 y1).2.1, .int .i64 (T.mAlike x0 x1 y0 y1).2.2]) ∧ BR w0 R w' p (T.mAlike x0 x1 y0 y1).1 q U ∧ SameR R W w' :=
  h.opd (P := fun e => e = .returned (.tuple #[.bool (T.mAlike x0 x1 y0 y1).2.1, .int .i64 (T.mAlike x0 x1 y0 y1).2.2])) fun R hb => m_Alike hb u x0 x1 y0 y1
theorem br_mAlike2 (h : BR w0 R W p V q T.ref) (u : T.Doc) (x0 x1 y0 y1 : Int) :
    Calls Try.prog 104 #[.pointer (some ⟨q, 0, none⟩), .agg #[.int .i64 x0, .int .i64 x1], .agg #[.int .i64 y0, .int .i64 y1]] W fun e w' => e = .returned (.tuple #[.bool (T.mAlike x0 x1 y0 y1).2.1, .int .i64 (T.mAlike x0 x1 y0 y1).2.2]) ∧ BR w0 R w' p V q (T.mAlike x0 x1 y0 y1).1.ref ∧ SameR R W w' :=
  h.opr (P := fun e => e = .returned (.tuple #[.bool (T.mAlike x0 x1 y0 y1).2.1, .int .i64 (T.mAlike x0 x1 y0 y1).2.2])) fun R hb => doc_Alike hb u x0 x1 y0 y1
theorem br_mRead (h : BR w0 R W p T q U) (u : T.Use) (x0 x1 y0 y1 : Int) :
    Calls Try.prog 99 #[.pointer (some ⟨p, 0, none⟩), .agg #[.int .i64 x0, .int .i64 x1], .agg #[.int .i64 y0, .int .i64 y1]] W fun e w' => e = .returned (.tuple #[.agg (u8s (T.mRead x0 x1 y0 y1).1).toArray, .int .i64 (T.mRead x0 x1 y0 y1).2]) ∧ Kept W w' :=
  (m_Read h.disk u x0 x1 y0 y1).mono fun e w' ⟨he, _, _, hk⟩ => ⟨he, hk⟩
theorem br_mRead2 (h : BR w0 R W p V q T.ref) (u : T.Doc) (x0 x1 y0 y1 : Int) :
    Calls Try.prog 102 #[.pointer (some ⟨q, 0, none⟩), .agg #[.int .i64 x0, .int .i64 x1], .agg #[.int .i64 y0, .int .i64 y1]] W fun e w' => e = .returned (.tuple #[.agg (u8s (T.mRead x0 x1 y0 y1).1).toArray, .int .i64 (T.mRead x0 x1 y0 y1).2]) ∧ Kept W w' :=
  doc_Read (B := T) h.doc u x0 x1 y0 y1
theorem br_Write (h : BR w0 R W p T q U) (u : T.Use) (d a : Int) {s : List Int} (hs : s.length = 64) :
    Calls Try.prog 10 #[.pointer (some ⟨p, 0, none⟩), .agg #[.int .i64 d, .int .i64 a], .agg (u8s s).toArray] W fun e w' => e = .returned (.int .i64 (T.write d a s).2) ∧ BR w0 R w' p (T.write d a s).1 q U ∧ SameR R W w' :=
  h.opd (P := fun e => e = .returned (.int .i64 (T.write d a s).2)) fun R hb => bk_Write hb u d a hs
theorem br_Write2 (h : BR w0 R W p V q T.ref) (u : T.Doc) (d a : Int) {s : List Int} (hs : s.length = 64 ∧ ∀ x ∈ s, IsByte x) :
    Calls Try.prog 107 #[.pointer (some ⟨q, 0, none⟩), .agg #[.int .i64 d, .int .i64 a], .agg (u8s s).toArray] W fun e w' => e = .returned (.int .i64 (T.write d a s).2) ∧ BR w0 R w' p V q (T.write d a s).1.ref ∧ SameR R W w' :=
  h.opr (P := fun e => e = .returned (.int .i64 (T.write d a s).2)) fun R hb => rb_Write hb u d a hs
theorem br_Fail (h : BR w0 R W p T q U) (u : T.Use) (d : Int) :
    Calls Try.prog 44 #[.pointer (some ⟨p, 0, none⟩), .int .i64 d] W fun e w' => e = .returned (.int .i64 (T.failC d).2) ∧ BR w0 R w' p (T.failC d).1 q U ∧ SameR R W w' :=
  h.opd (P := fun e => e = .returned (.int .i64 (T.failC d).2)) fun R hb => bk_Fail hb u d
theorem br_Fail2 (h : BR w0 R W p V q T.ref) (u : T.Doc) (d : Int) :
    Calls Try.prog 45 #[.pointer (some ⟨q, 0, none⟩), .int .i64 d] W fun e w' => e = .returned (.int .i64 (T.failC d).2) ∧ BR w0 R w' p V q (T.failC d).1.ref ∧ SameR R W w' :=
  h.opr (P := fun e => e = .returned (.int .i64 (T.failC d).2)) fun R hb => rb_Fail hb u d
theorem br_Flush (h : BR w0 R W p T q U) (u : T.Use) (d : Int) :
    Calls Try.prog 58 #[.pointer (some ⟨p, 0, none⟩), .int .i64 d] W fun e w' => e = .returned (.int .i64 (T.flushC d).2) ∧ BR w0 R w' p (T.flushC d).1 q U ∧ SameR R W w' :=
  h.opd (P := fun e => e = .returned (.int .i64 (T.flushC d).2)) fun R hb => bk_Flush hb u d
theorem br_Flush2 (h : BR w0 R W p V q T.ref) (u : T.Doc) (d : Int) :
    Calls Try.prog 109 #[.pointer (some ⟨q, 0, none⟩), .int .i64 d] W fun e w' => e = .returned (.int .i64 (T.flushC d).2) ∧ BR w0 R w' p V q (T.flushC d).1.ref ∧ SameR R W w' :=
  h.opr (P := fun e => e = .returned (.int .i64 (T.flushC d).2)) fun R hb => rb_Flush hb u d
theorem br_FailAt (h : BR w0 R W p T q U) (u : T.Use) (d n : Int) :
    Calls Try.prog 17 #[.pointer (some ⟨p, 0, none⟩), .int .i64 d, .int .i64 n] W fun e w' => e = .returned (.tuple #[]) ∧ BR w0 R w' p (T.failAt d n) q U ∧ SameR R W w' :=
  h.opd (P := fun e => e = .returned (.tuple #[])) fun R hb => bk_FailAtX hb u d n
theorem br_FailAt2 (h : BR w0 R W p V q T.ref) (u : T.Doc) (d n : Int) :
    Calls Try.prog 108 #[.pointer (some ⟨q, 0, none⟩), .int .i64 d, .int .i64 n] W fun e w' => e = .returned (.tuple #[]) ∧ BR w0 R w' p V q (T.failAt d n).ref ∧ SameR R W w' :=
  h.opr (P := fun e => e = .returned (.tuple #[])) fun R hb => rb_FailAt hb u d n
theorem br_Arm (h : BR w0 R W p T q U) (n m : Int) :
    Calls Try.prog 46 #[.pointer (some ⟨p, 0, none⟩), .int .i64 n, .int .u64 m] W fun e w' => e = .returned (.tuple #[]) ∧ BR w0 R w' p (T.arm n m) q U ∧ SameR R W w' :=
  h.opd (P := fun e => e = .returned (.tuple #[])) fun R hb => bk_Arm hb n m
theorem br_Arm2 (h : BR w0 R W p V q T.ref) (n m : Int) :
    Calls Try.prog 47 #[.pointer (some ⟨q, 0, none⟩), .int .i64 n, .int .u64 m] W fun e w' => e = .returned (.tuple #[]) ∧ BR w0 R w' p V q (T.arm n m).ref ∧ SameR R W w' :=
  h.opr (P := fun e => e = .returned (.tuple #[])) fun R hb => rb_Arm hb n m
theorem br_Crash (h : BR w0 R W p T q U) (u : T.Use) (m : Int) (h0 : 0 ≤ m) (h1 : m < 18446744073709551616) :
    Calls Try.prog 16 #[.pointer (some ⟨p, 0, none⟩), .int .u64 m] W fun e w' => e = .returned (.tuple #[]) ∧ BR w0 R w' p (T.crash m) q U ∧ SameR R W w' :=
  h.opd (P := fun e => e = .returned (.tuple #[])) fun R hb => bk_Crash hb u m h0 h1
theorem br_Crash2 (h : BR w0 R W p V q T.ref) (u : T.Doc) (m : Int) (h0 : 0 ≤ m) :
    Calls Try.prog 54 #[.pointer (some ⟨q, 0, none⟩), .int .u64 m] W fun e w' => e = .returned (.tuple #[]) ∧ BR w0 R w' p V q (T.crash m).ref ∧ SameR R W w' :=
  h.opr (P := fun e => e = .returned (.tuple #[])) fun R hb => rb_Crash hb u m h0
theorem br_Start (h : BR w0 R W p T q U) :
    Calls Try.prog 13 #[.pointer (some ⟨p, 0, none⟩)] W fun e w' => e = .returned (.tuple #[]) ∧ BR w0 R w' p T.start q U ∧ SameR R W w' :=
  h.opd (P := fun e => e = .returned (.tuple #[])) fun R hb => bk_Start hb
theorem br_Start2 (h : BR w0 R W p V q T.ref) :
    Calls Try.prog 55 #[.pointer (some ⟨q, 0, none⟩)] W fun e w' => e = .returned (.tuple #[]) ∧ BR w0 R w' p V q T.start.ref ∧ SameR R W w' :=
  h.opr (P := fun e => e = .returned (.tuple #[])) fun R hb => rb_Start hb
theorem br_Read (h : BR w0 R W p T q U) (u : T.Use) (d a : Int) :
    Calls Try.prog 19 #[.pointer (some ⟨p, 0, none⟩), .agg #[.int .i64 d, .int .i64 a]] W fun e w' => e = .returned (.tuple #[.agg (u8s (T.read d a).1).toArray, .int .i64 (T.read d a).2]) ∧ Kept W w' :=
  (bk_Read h.disk u d a).mono fun e w' ⟨he, _, _, hk⟩ => ⟨he, hk⟩
theorem br_Read2 (h : BR w0 R W p V q T.ref) (u : T.Doc) (d a : Int) :
    Calls Try.prog 41 #[.pointer (some ⟨q, 0, none⟩), .agg #[.int .i64 d, .int .i64 a]] W fun e w' => e = .returned (.tuple #[.agg (u8s (T.read d a).1).toArray, .int .i64 (T.read d a).2]) ∧ Kept W w' :=
  rb_Read (B := T) h.doc u d a
end
end Go.Proofs.Ytglplhmclfekfaa
/- law12: its steps as they come in (gen_open.py braidworklaw12 OpM KSrc kops opM kind:i n:i x0,x1:p y0,y1:p m:u); the document's bank laid. -/
namespace Go.Proofs.Ytglplhmclfekfaa
open Go.RowKit Go.ChangeMaps
set_option linter.unusedVariables false
set_option linter.unusedSimpArgs false

/-- a step of braidworklaw12 -/
structure OpM where
  kind : Int
  n : Int
  x0 : Int
  x1 : Int
  y0 : Int
  y1 : Int
  m : Int
def KSrc (w : World) (v : Value) (l : List OpM) : Prop := ∃ oa cap, v = .slice oa l.length cap ∧ l.length ≤ cap ∧ cap ≤ maxLen ∧ ∀ k (hk : k < l.length), ∃ b off, oa = some ⟨b, off, none⟩ ∧
  Cells w b (off + k * 7) [.int .i64 l[k].kind, .int .i64 l[k].n, .int .i64 l[k].x0, .int .i64 l[k].x1, .int .i64 l[k].y0, .int .i64 l[k].y1, .int .u64 l[k].m] ∧ (-9223372036854775808 ≤ l[k].kind ∧ l[k].kind ≤ 9223372036854775807) ∧ (-9223372036854775808 ≤ l[k].n ∧ l[k].n ≤ 9223372036854775807) ∧ (-9223372036854775808 ≤ l[k].x0 ∧ l[k].x0 ≤ 9223372036854775807) ∧ (-9223372036854775808 ≤ l[k].x1 ∧ l[k].x1 ≤ 9223372036854775807) ∧ (-9223372036854775808 ≤ l[k].y0 ∧ l[k].y0 ≤ 9223372036854775807) ∧ (-9223372036854775808 ≤ l[k].y1 ∧ l[k].y1 ≤ 9223372036854775807) ∧ (0 ≤ l[k].m ∧ l[k].m < 18446744073709551616)
theorem KSrc.kept {w w' : World} {v : Value} {l : List OpM} (h : KSrc w v l) (hk : Kept w w') : KSrc w' v l := by
  obtain ⟨oa, cap, rfl, h1, h2, h3⟩ := h
  refine ⟨oa, cap, rfl, h1, h2, fun k hkl => ?_⟩
  obtain ⟨b, off, e, c0, r⟩ := h3 k hkl
  exact ⟨b, off, e, c0.kept hk, r⟩
theorem KSrc.at {w : World} {oa : Option Addr} {n cap : Nat} {l : List OpM} (h : KSrc w (.slice oa n cap) l) (k : Nat) (hk : k < l.length) : ∃ b off, oa = some ⟨b, off, none⟩ ∧
    Cells w b (off + k * 7) [.int .i64 l[k].kind, .int .i64 l[k].n, .int .i64 l[k].x0, .int .i64 l[k].x1, .int .i64 l[k].y0, .int .i64 l[k].y1, .int .u64 l[k].m] ∧ (-9223372036854775808 ≤ l[k].kind ∧ l[k].kind ≤ 9223372036854775807) ∧ (-9223372036854775808 ≤ l[k].n ∧ l[k].n ≤ 9223372036854775807) ∧ (-9223372036854775808 ≤ l[k].x0 ∧ l[k].x0 ≤ 9223372036854775807) ∧ (-9223372036854775808 ≤ l[k].x1 ∧ l[k].x1 ≤ 9223372036854775807) ∧ (-9223372036854775808 ≤ l[k].y0 ∧ l[k].y0 ≤ 9223372036854775807) ∧ (-9223372036854775808 ≤ l[k].y1 ∧ l[k].y1 ≤ 9223372036854775807) ∧ (0 ≤ l[k].m ∧ l[k].m < 18446744073709551616) := by
  obtain ⟨oa', cap', e, h1, h2, h3⟩ := h
  cases e
  exact h3 k hk
theorem wf_ikops {z : Int} (h : (Lit.int .i64 z).wf = true) : -9223372036854775808 ≤ z ∧ z ≤ 9223372036854775807 := by
  have h1 : IntKind.i64.min = -9223372036854775808 := rfl
  have h2 : IntKind.i64.max = 9223372036854775807 := rfl
  simp [Lit.wf] at h; omega
theorem wf_ukops {z : Int} (h : (Lit.int .u64 z).wf = true) : 0 ≤ z ∧ z < 18446744073709551616 := by
  have h1 : IntKind.u64.min = 0 := rfl
  have h2 : IntKind.u64.max = 18446744073709551615 := rfl
  simp [Lit.wf] at h; omega
set_option maxRecDepth 100000 in
theorem open_kops {H : Type} {enc : TypeId × Value → H} {w : World} {base : Nat} {spare : Nat → Bool} {held : Bool} {fuel : Nat} {v : Value} {x : DataW H × List MemPlace}
    (h : DataW.trod enc Try.prog w base spare held fuel 62 [v] = some x) : ∃ l, KSrc w v l := by
  rcases Go.Deep.open_slice Try.underlying62 h with ⟨hcs, _⟩ | ⟨a, len, cap, m, n, D, Pl, hcs, _, hl, hmx, hm, _, hi⟩
  · simp at hcs; subst hcs; exact ⟨[], none, 0, rfl, Nat.le_refl _, by decide, fun k hk => by cases hk⟩
  simp at hcs
  subst hcs
  have hlm : len ≤ m := by rw [hm]; split <;> omega
  have hC : Try.prog.cellsOf 70 = 7 := by kernel_rfl
  have hCi : Try.prog.cellsOf 3 = 1 := by kernel_rfl
  have hCu : Try.prog.cellsOf 23 = 1 := by kernel_rfl
  have hCp : Try.prog.cellsOf 32 = 2 := by kernel_rfl
  have key : ∀ i, ∃ y : OpM, i < len → w.cell? ((a.add (i * 7)).add 0) = some (.int .i64 y.kind) ∧ w.cell? ((a.add (i * 7)).add 1) = some (.int .i64 y.n) ∧ w.cell? ((a.add (i * 7)).add 2) = some (.int .i64 y.x0) ∧ w.cell? ((a.add (i * 7)).add 3) = some (.int .i64 y.x1) ∧ w.cell? ((a.add (i * 7)).add 4) = some (.int .i64 y.y0) ∧ w.cell? ((a.add (i * 7)).add 5) = some (.int .i64 y.y1) ∧ w.cell? ((a.add (i * 7)).add 6) = some (.int .u64 y.m) ∧ (-9223372036854775808 ≤ y.kind ∧ y.kind ≤ 9223372036854775807) ∧ (-9223372036854775808 ≤ y.n ∧ y.n ≤ 9223372036854775807) ∧ (-9223372036854775808 ≤ y.x0 ∧ y.x0 ≤ 9223372036854775807) ∧ (-9223372036854775808 ≤ y.x1 ∧ y.x1 ≤ 9223372036854775807) ∧ (-9223372036854775808 ≤ y.y0 ∧ y.y0 ≤ 9223372036854775807) ∧ (-9223372036854775808 ≤ y.y1 ∧ y.y1 ≤ 9223372036854775807) ∧ (0 ≤ y.m ∧ y.m < 18446744073709551616) := by
    intro i
    by_cases hil : i < len
    · obtain ⟨cs', hc, ht⟩ := hi i (by omega)
      rw [hC] at hc
      obtain ⟨_, hcl, hat⟩ := World.cells?_some hc
      obtain ⟨xs, n', _, _, _, hxl, hf⟩ := DataW.trod_struct Try.underlying70 ht
      replace hxl : xs.length = 5 := hxl
      rcases cs' with _ | ⟨c0, _ | ⟨c1, _ | ⟨c2, _ | ⟨c3, _ | ⟨c4, _ | ⟨c5, _ | ⟨c6, _ | ⟨c7, r⟩⟩⟩⟩⟩⟩⟩⟩ <;> simp at hcl
      have f0 : DataW.trod enc Try.prog w base spare held n' 3 ((([c0, c1, c2, c3, c4, c5, c6] : List Value).drop 0).take (Try.prog.cellsOf 3)) = xs[0]? := hf 0 _ rfl
      rw [hCi, List.getElem?_eq_getElem (by omega)] at f0
      obtain ⟨z0, hz0, _, w0⟩ := DataW.trod_int Try.underlying3 f0
      have f1 : DataW.trod enc Try.prog w base spare held n' 3 ((([c0, c1, c2, c3, c4, c5, c6] : List Value).drop 1).take (Try.prog.cellsOf 3)) = xs[1]? := hf 1 _ rfl
      rw [hCi, List.getElem?_eq_getElem (by omega)] at f1
      obtain ⟨z1, hz1, _, w1⟩ := DataW.trod_int Try.underlying3 f1
      have f2 : DataW.trod enc Try.prog w base spare held n' 32 ((([c0, c1, c2, c3, c4, c5, c6] : List Value).drop 2).take (Try.prog.cellsOf 32)) = xs[2]? := hf 2 _ rfl
      rw [hCp, List.getElem?_eq_getElem (by omega)] at f2
      obtain ⟨ys2, m2, _, _, _, hyl2, hg2⟩ := DataW.trod_struct Try.underlying32 f2
      replace hyl2 : ys2.length = 2 := hyl2
      have g2 : DataW.trod enc Try.prog w base spare held m2 3 (((([c0, c1, c2, c3, c4, c5, c6] : List Value).drop 2).take 2).drop 0 |>.take (Try.prog.cellsOf 3)) = ys2[0]? := hg2 0 _ rfl
      rw [hCi, List.getElem?_eq_getElem (by omega)] at g2
      obtain ⟨z2, hz2, _, w2⟩ := DataW.trod_int Try.underlying3 g2
      have g3 : DataW.trod enc Try.prog w base spare held m2 3 (((([c0, c1, c2, c3, c4, c5, c6] : List Value).drop 2).take 2).drop 1 |>.take (Try.prog.cellsOf 3)) = ys2[1]? := hg2 1 _ rfl
      rw [hCi, List.getElem?_eq_getElem (by omega)] at g3
      obtain ⟨z3, hz3, _, w3⟩ := DataW.trod_int Try.underlying3 g3
      have f3 : DataW.trod enc Try.prog w base spare held n' 32 ((([c0, c1, c2, c3, c4, c5, c6] : List Value).drop 4).take (Try.prog.cellsOf 32)) = xs[3]? := hf 3 _ rfl
      rw [hCp, List.getElem?_eq_getElem (by omega)] at f3
      obtain ⟨ys3, m3, _, _, _, hyl3, hg3⟩ := DataW.trod_struct Try.underlying32 f3
      replace hyl3 : ys3.length = 2 := hyl3
      have g4 : DataW.trod enc Try.prog w base spare held m3 3 (((([c0, c1, c2, c3, c4, c5, c6] : List Value).drop 4).take 2).drop 0 |>.take (Try.prog.cellsOf 3)) = ys3[0]? := hg3 0 _ rfl
      rw [hCi, List.getElem?_eq_getElem (by omega)] at g4
      obtain ⟨z4, hz4, _, w4⟩ := DataW.trod_int Try.underlying3 g4
      have g5 : DataW.trod enc Try.prog w base spare held m3 3 (((([c0, c1, c2, c3, c4, c5, c6] : List Value).drop 4).take 2).drop 1 |>.take (Try.prog.cellsOf 3)) = ys3[1]? := hg3 1 _ rfl
      rw [hCi, List.getElem?_eq_getElem (by omega)] at g5
      obtain ⟨z5, hz5, _, w5⟩ := DataW.trod_int Try.underlying3 g5
      have f4 : DataW.trod enc Try.prog w base spare held n' 23 ((([c0, c1, c2, c3, c4, c5, c6] : List Value).drop 6).take (Try.prog.cellsOf 23)) = xs[4]? := hf 4 _ rfl
      rw [hCu, List.getElem?_eq_getElem (by omega)] at f4
      obtain ⟨z6, hz6, _, w6⟩ := DataW.trod_int Try.underlying23 f4
      simp at hz0 hz1 hz2 hz3 hz4 hz5 hz6
      subst hz0 hz1 hz2 hz3 hz4 hz5 hz6
      exact ⟨⟨z0, z1, z2, z3, z4, z5, z6⟩, fun _ => ⟨hat 0 (by simp), hat 1 (by simp), hat 2 (by simp), hat 3 (by simp), hat 4 (by simp), hat 5 (by simp), hat 6 (by simp), wf_ikops w0, wf_ikops w1, wf_ikops w2, wf_ikops w3, wf_ikops w4, wf_ikops w5, wf_ukops w6⟩⟩
    · exact ⟨⟨0, 0, 0, 0, 0, 0, 0⟩, fun h' => absurd h' hil⟩
  obtain ⟨f, hf⟩ := Classical.axiomOfChoice key
  refine ⟨(List.range len).map f, some a, cap, by simp, by simpa using hl, hmx, fun k hk => ?_⟩
  have hk' : k < len := by simpa using hk
  have h1 := hf k hk'
  obtain ⟨b, off, spot⟩ := a
  have hsp := World.cell?_spot (hf 0 (by omega)).1
  have hspot : spot = none := by simpa [Addr.add] using hsp
  subst hspot
  refine ⟨b, off, rfl, ?_⟩
  simp only [Addr.add_mid] at h1
  simp only [List.getElem_map, List.getElem_range]
  obtain ⟨e0, e1, e2, e3, e4, e5, e6, d9⟩ := h1
  refine ⟨fun j hj => ?_, d9⟩
  rcases j with _ | _ | _ | _ | _ | _ | _ | j
  · exact e0
  · exact e1
  · exact e2
  · exact e3
  · exact e4
  · exact e5
  · exact e6
  · simp at hj; omega
theorem ty_opM : AggT Try.prog 70 7 := ⟨⟨_, Try.underlying70, rfl⟩, by kernel_rfl⟩
theorem zero_opM (w : World) : (zeroValue 70).run Try.prog w = .ok (.agg [Value.int .i64 0, .int .i64 0, .int .i64 0, .int .i64 0, .int .i64 0, .int .i64 0, .int .u64 0].toArray) w := by kernel_rfl
theorem addZ_since (z : Nat) : ∀ (n : Nat) (p : Nat × Nat), (addZ z n).since p = 0
  | 0, p => rfl
  | n + 1, p => by rw [show addZ z (n + 1) = (addZ z n).add z from rfl, BankT.since_add]; exact addZ_since z n p
theorem addZ_ref (z : Nat) {n : Nat} (hn : n + 1 ≤ 31) (hz : z ≤ 4096) : (addZ z (n + 1)).ref = (addZ z n).ref.add z := by
  have o1 : (addZ z (n + 1)).order = [] := BankT.order_nil (addZ_still hz hn).inv fun p _ => addZ_since z _ p
  have o2 : (addZ z n).order = [] := BankT.order_nil (addZ_still hz (by omega)).inv fun p _ => addZ_since z _ p
  unfold BankT.ref
  rw [o1, o2]
  unfold BankT.refL RT.add
  show (⟨List.map Med.ref ((addZ z n).l ++ [Med.fresh z]), _, _, _, _, _⟩ : RT) = _
  rw [List.map_append]
  rfl
theorem zero_ref (z : Nat) : (addZ z 0).ref = RT.zero := by
  have o2 : (addZ z 0).order = [] := rfl
  unfold BankT.ref
  rw [o2]; rfl
section
variable {w0 W : World} {R : Nat → Prop} {p q : Nat} {T V : BankT}
theorem br_Add2 {z k : Nat} (h : BR w0 R W p V q (addZ z k).ref) (hk : k + 1 ≤ 31) (hz : 1 ≤ z ∧ z ≤ 4096) :
    Calls Try.prog 38 #[.pointer (some ⟨q, 0, none⟩), .int .i64 (z : Int)] W fun e w' => e = .returned (.tuple #[.int .i64 (k : Int), .int .i64 0]) ∧ BR w0 R w' p V q (addZ z (k + 1)).ref ∧ SameR R W w' := by
  have hl : (addZ z k).ref.l.length = k := (ref_len _ _).trans (addZ_len z k)
  rw [addZ_ref z hk hz.2]
  exact h.opr (P := fun e => e = .returned (.tuple #[.int .i64 (k : Int), .int .i64 0])) fun R hb => (rk_Add hb (by rw [hl]; omega) z hz.1 hz.2).mono fun e w' ⟨h1, h2, h3⟩ => ⟨by rw [h1, hl], h2, h3⟩
theorem br_New2 (z : Nat) (h : BK w0 R W p V) : Calls Try.prog 37 #[] W fun e w' => ∃ q, e = .returned (.pointer (some ⟨q, 0, none⟩)) ∧ BR w0 R w' p V q (addZ z 0).ref := by
  rw [zero_ref]; exact br_New h
theorem br_NewS (z : Nat) (h : BK w0 R W p V) : Calls Try.prog 37 #[] W fun e w' => ∃ q, e = .returned (.pointer (some ⟨q, 0, none⟩)) ∧ BR w0 R w' p V q (addZ z 0).ref ∧ SameR R W w' := by
  rw [zero_ref]
  obtain ⟨Y, h0, h⟩ := h
  exact (rk_New w0 W (fun k => Y.In V.l.length k ∨ R k) h.keeps (fun k hk => by
    rcases hk with hk | hk
    · exact h.d.lt hk
    · exact (h.off k hk).1)).mono fun e w' ⟨qr, he, hb, hk⟩ => ⟨qr, he, ⟨Y, h0, h.d.kept hk, h.own, fun k hk => (h.off k hk).2, hb⟩, fun k hk' => hk.block_eq (h.off k hk').1⟩
/-- what a law reads of the document's bank itself -/
theorem BR.cells (h : BR w0 R W p V q T.ref) : ∃ oa cap, W.cell? ⟨q, 1, none⟩ = some (.slice oa T.looseN cap) ∧ W.cell? ⟨q, 2, none⟩ = some (.bool T.down) ∧ W.cell? ⟨q, 3, none⟩ = some (.int .i64 T.writes) := by
  obtain ⟨Y, rfl, hd, _⟩ := h.doc
  have hn : T.looseN = T.ref.loose.length := (sortBy_perm _ _).length_eq.symm
  have hb := hd.bank
  have c1 := cell_of_row _ _ 1 _ _ _ hb
  have c2 := cell_of_row _ _ 2 _ _ _ hb
  have c3 := cell_of_row _ _ 3 _ _ _ hb
  rw [hn]
  rcases owns_form hd.loo with ⟨e, e0, _⟩ | ⟨g, cap, e, _⟩
  · refine ⟨none, 0, ?_, c2, c3⟩
    rw [c1, e0]
    show some Y.lv = _
    rw [e]
  · refine ⟨some ⟨g, 0, none⟩, cap, ?_, c2, c3⟩
    rw [c1]
    show some Y.lv = _
    rw [e]
end
end Go.Proofs.Ytglplhmclfekfaa
