/- label's Save, and the document's, of any label (gen_qa.py). -/
import Derived.Test.YtglplhmclfekfaaRkf
import Derived.Test.YtglplhmclfekfaaFeA
import Derived.Test.YtglplhmclfekfaaFcA
namespace Go.Proofs.Ytglplhmclfekfaa
open Go.RowKit
set_option linter.unusedVariables false
set_option linter.unusedSimpArgs false

theorem right_len {l : Lab} (h : rightB l = true) : l.ms.length ≤ 12 := by
  simp only [rightB, headB, inB, Bool.and_eq_true, decide_eq_true_eq] at h
  omega
theorem right_gen {l : Lab} (h : rightB l = true) : ∃ g : Nat, l.gen = (g : Int) := by
  simp only [rightB, headB, inB, Bool.and_eq_true, decide_eq_true_eq] at h
  exact ⟨l.gen.toNat, by omega⟩
theorem right_sec {l : Lab} (h : rightB l = true) : l.sec.length = 64 ∧ ∀ x ∈ l.sec, IsByte x := ⟨l.sec_length (right_len h), sec_bytes l⟩
/-- what Save does with any label -/
def BankT.saveX (T : BankT) (l : Lab) : BankT × Int := if rightB l then T.saveL l else (T, 1)
theorem Sane.saveX {T : BankT} {n z c : Nat} (h : Sane T n z c) (l : Lab) : Sane (T.saveX l).1 n z (c + 1) := by
  unfold BankT.saveX
  split
  · rename_i hr
    have h1 := h.write l.member (l.gen.tmod 2) (right_sec hr)
    unfold BankT.saveL
    split
    · exact h1
    · exact h1.flushC l.member
  · exact h.le (by omega)
section
variable {w0 W : World} {R : Nat → Prop} {q : Nat} {T B : BankT}
set_option maxHeartbeats 2000000
set_option maxRecDepth 100000
theorem label_Save_no (h : BK w0 R W q T) (l : Lab) (sl : Value) (hlen : l.ms.length ≤ 9223372036854775807) (hm : MSl W sl l.ms) (hr : rightB l = false) :
    Calls Try.prog 49 #[.pointer (some ⟨q, 0, none⟩), l.val sl] W fun e w' => e = .returned (.int .i64 1) ∧ BK w0 R w' q T ∧ SameR R W w' := by
  have HSL1 := Lib.hid hm.one
  have HMS := Lib.hid hm
  have HX := Lib.hid zeroB_sec
  have HPUT := Lib.hid (fun (W' : World) (hm' : MSl W' sl l.ms) => (label_Put l sl W' hlen hm').mono (R' := fun e w' => e = .returned (.tuple #[secV zeroB, .int .i64 1]) ∧ Kept W' w') fun e w' hh => by unfold putSec putErr at hh; rw [hr] at hh; exact hh)
  have HB := Lib.hid h
  clear hr h hm hlen
  obtain ⟨sec, hsec⟩ : ∃ s, s = zeroB := ⟨_, rfl⟩
  rw [← hsec] at HPUT HX
  clear hsec
  have hv : l.val sl = .agg #[.int .i64 l.array, .int .i64 l.gen, .int .i64 l.member, .int .i64 l.blocks, sl] := rfl
  have HV := Lib.hid hv
  generalize l.member = m at *
  generalize l.array = ar at *
  generalize l.blocks = bl at *
  generalize l.gen = g at *
  rw [hv]
  clear hv
  go_enter Try.func49, Try.ntmps49
  go_wp2_with (refine stop_at (o := ⟨some 3, _, _, _, _, _⟩) ?_)
  refine Stop.mk ?_
  refine wpList_box_row rfl _ _ rfl [.int .i64 ar, .int .i64 g, .int .i64 m, .int .i64 bl, sl] rfl ?_
  intro w1 hz1' hs1 hk1
  have p1 : w1.cell? ⟨W.heap.size, 1, none⟩ = some (.int .i64 g) := cell_of_row _ _ 1 _ _ _ hz1'.out
  have p2 : w1.cell? ⟨W.heap.size, 2, none⟩ = some (.int .i64 m) := cell_of_row _ _ 2 _ _ _ hz1'.out
  have HL1 := Lib.hid (Cells.of_block hz1'.out)
  have HB1 := Lib.hid (HB.out.box hk1 hs1)
  have HS := Lib.hid (show SameR R W w1 from (HB.out.kept hk1).2)
  have HM1 := Lib.hid (HMS.out.kept hk1)
  generalize W.heap.size = X at *
  clear hz1' hs1 hk1 HB HMS
  go_wp2_with (refine stop_at (o := ⟨some 9, _, _, _, _, _⟩) ?_)
  refine Stop.mk ?_
  refine wpList_load_agg rfl _ rfl ty_lab X 0 rfl [.int .i64 ar, .int .i64 g, .int .i64 m, .int .i64 bl, sl] HL1.out rfl ?_
  rw [← HV.out]
  go_wp2_with fail
  refine Calls.mono (HPUT.out w1 HM1.out) ?_
  rintro e w2 ⟨rfl, hk2⟩
  replace p1 := hk2.cell' p1
  replace p2 := hk2.cell' p2
  have HB2 := Lib.hid (HB1.out.kept hk2).1
  replace HS := Lib.hid (show SameR R W w2 from HS.out.trans fun k hk => (HB1.out.kept hk2).2 k (.inl hk))
  clear hk2 HB1 HM1 HL1 HPUT
  go_wp2_with (refine stop_at (o := ⟨some 5, _, _, _, _, _⟩) ?_)
  refine Stop.mk ?_
  refine wpList_new_row rfl rfl _ _ rfl rfl ty_sec (u8s zeroB) zero_sec (by rw [u8s_length, zeroB_length]) (u8s sec) rfl (by rw [u8s_length, HX.out.1]) (u8s_one _) rfl ?_
  intro w4 hz4 hs4 hk4
  have HB4 := Lib.hid (HB2.out.kept hk4).1
  have HX4 := hz4
  replace p1 := hk4.cell' p1
  replace p2 := hk4.cell' p2
  replace HS := Lib.hid (show SameR R W w4 from HS.out.trans fun k hk => (HB2.out.kept hk4).2 k (.inl hk))
  clear hz4 hs4 hk4 HB2
  go_wp2
  go_ret
  exact ⟨rfl, HB4.out.less (fun k hk => .inl hk), HS.out⟩
theorem doc_Save_no (h : RB w0 R W q B) (l : Lab) (sl : Value) (hlen : l.ms.length ≤ 9223372036854775807) (hm : MSl W sl l.ms) (hr : rightB l = false) :
    Calls Try.prog 50 #[.pointer (some ⟨q, 0, none⟩), l.val sl] W fun e w' => e = .returned (.int .i64 1) ∧ RB w0 R w' q B ∧ SameR R W w' := by
  have HSL1 := Lib.hid hm.one
  have HMS := Lib.hid hm
  have HX := Lib.hid zeroB_sec
  have HPUT := Lib.hid (fun (W' : World) (hm' : MSl W' sl l.ms) => (ref_LPut l sl W' hlen hm').mono (R' := fun e w' => e = .returned (.tuple #[secV zeroB, .int .i64 1]) ∧ Kept W' w') fun e w' hh => by unfold putSec putErr at hh; rw [hr] at hh; exact hh)
  have HB := Lib.hid h
  clear hr h hm hlen
  obtain ⟨sec, hsec⟩ : ∃ s, s = zeroB := ⟨_, rfl⟩
  rw [← hsec] at HPUT HX
  clear hsec
  have hv : l.val sl = .agg #[.int .i64 l.array, .int .i64 l.gen, .int .i64 l.member, .int .i64 l.blocks, sl] := rfl
  have HV := Lib.hid hv
  generalize l.member = m at *
  generalize l.array = ar at *
  generalize l.blocks = bl at *
  generalize l.gen = g at *
  rw [hv]
  clear hv
  go_enter Try.func50, Try.ntmps50
  go_wp2_with (refine stop_at (o := ⟨some 3, _, _, _, _, _⟩) ?_)
  refine Stop.mk ?_
  refine wpList_box_row rfl _ _ rfl [.int .i64 ar, .int .i64 g, .int .i64 m, .int .i64 bl, sl] rfl ?_
  intro w1 hz1' hs1 hk1
  have p1 : w1.cell? ⟨W.heap.size, 1, none⟩ = some (.int .i64 g) := cell_of_row _ _ 1 _ _ _ hz1'.out
  have p2 : w1.cell? ⟨W.heap.size, 2, none⟩ = some (.int .i64 m) := cell_of_row _ _ 2 _ _ _ hz1'.out
  have HL1 := Lib.hid (Cells.of_block hz1'.out)
  have HB1 := Lib.hid (HB.out.box hk1 hs1)
  have HS := Lib.hid (show SameR R W w1 from (HB.out.kept hk1).2)
  have HM1 := Lib.hid (HMS.out.kept hk1)
  generalize W.heap.size = X at *
  clear hz1' hs1 hk1 HB HMS
  go_wp2_with (refine stop_at (o := ⟨some 8, _, _, _, _, _⟩) ?_)
  refine Stop.mk ?_
  refine wpList_load_agg rfl _ rfl ty_lab X 0 rfl [.int .i64 ar, .int .i64 g, .int .i64 m, .int .i64 bl, sl] HL1.out rfl ?_
  rw [← HV.out]
  go_wp2_with fail
  refine Calls.mono (HPUT.out w1 HM1.out) ?_
  rintro e w2 ⟨rfl, hk2⟩
  replace p1 := hk2.cell' p1
  replace p2 := hk2.cell' p2
  have HB2 := Lib.hid (HB1.out.kept hk2).1
  replace HS := Lib.hid (show SameR R W w2 from HS.out.trans fun k hk => (HB1.out.kept hk2).2 k (.inl hk))
  clear hk2 HB1 HM1 HL1 HPUT
  go_wp2_with (refine stop_at (o := ⟨some 5, _, _, _, _, _⟩) ?_)
  refine Stop.mk ?_
  refine wpList_new_row rfl rfl _ _ rfl rfl ty_sec (u8s zeroB) zero_sec (by rw [u8s_length, zeroB_length]) (u8s sec) rfl (by rw [u8s_length, HX.out.1]) (u8s_one _) rfl ?_
  intro w4 hz4 hs4 hk4
  have HB4 := Lib.hid (HB2.out.kept hk4).1
  have HX4 := hz4
  replace p1 := hk4.cell' p1
  replace p2 := hk4.cell' p2
  replace HS := Lib.hid (show SameR R W w4 from HS.out.trans fun k hk => (HB2.out.kept hk4).2 k (.inl hk))
  clear hz4 hs4 hk4 HB2
  go_wp2
  go_ret
  exact ⟨rfl, HB4.out.less (fun k hk => .inl hk), HS.out⟩
theorem doc_Save_ok (h : RB w0 R W q B) (u : B.Doc) (l : Lab) (sl : Value) (hm : MSl W sl l.ms) (hr : rightB l = true) (u1 : (B.write l.member (l.gen.tmod 2) l.sec).1.Doc) :
    Calls Try.prog 50 #[.pointer (some ⟨q, 0, none⟩), l.val sl] W fun e w' => e = .returned (.int .i64 (B.saveL l).2) ∧ RB w0 R w' q (B.saveL l).1 ∧ SameR R W w' := by
  obtain ⟨gn, hg⟩ := right_gen hr
  have HX := Lib.hid (right_sec hr)
  have HSL1 := Lib.hid hm.one
  have HMS := Lib.hid hm
  have HPUT := Lib.hid (fun (W' : World) (hm' : MSl W' sl l.ms) => ref_LPut_ok l sl W' hm' hr)
  obtain ⟨T1, c, hw⟩ : ∃ T1 c, B.write l.member (l.gen.tmod 2) l.sec = (T1, c) := ⟨_, _, rfl⟩
  unfold BankT.saveL
  rw [hw] at u1 ⊢
  simp only [] at u1 ⊢
  obtain ⟨T2, d, hf⟩ : ∃ T2 d, T1.flushC l.member = (T2, d) := ⟨_, _, rfl⟩
  rw [hf]
  obtain ⟨Tr, cr, hres⟩ : ∃ Tr cr, (if c ≠ 0 then (T1, c) else (T2, d)) = (Tr, cr) := ⟨_, _, rfl⟩
  rw [hres]
  have hz : l.gen.tmod 2 = ((gn % 2 : Nat) : Int) := by rw [hg, Int.tmod_eq_emod_of_nonneg (by omega)]; rfl
  rw [hz] at hw
  have hz1 : l.gen % 2 = ((gn % 2 : Nat) : Int) := by omega
  generalize gn % 2 = k at *
  have HW := Lib.hid (fun (R' : Nat → Prop) (W' : World) (h' : RB w0 R' W' q B) => (rb_Write h' u l.member (k : Int) (s := l.sec) HX.out).mono (R' := fun e w' => e = .returned (.int .i64 c) ∧ RB w0 R' w' q T1 ∧ SameR R' W' w') fun e w' hh => by rw [hw] at hh; exact hh)
  have HF := Lib.hid (fun (R' : Nat → Prop) (W' : World) (h' : RB w0 R' W' q T1) => (rb_Flush h' u1 l.member).mono (R' := fun e w' => e = .returned (.int .i64 d) ∧ RB w0 R' w' q T2 ∧ SameR R' W' w') fun e w' hh => by rw [hf] at hh; exact hh)
  have HB := Lib.hid h; have HRES := Lib.hid hres
  clear hw hf u u1 h hres hm hr hg
  have hv : l.val sl = .agg #[.int .i64 l.array, .int .i64 l.gen, .int .i64 l.member, .int .i64 l.blocks, sl] := rfl
  have HV := Lib.hid hv
  generalize l.sec = sec at *
  generalize l.member = m at *
  generalize l.array = ar at *
  generalize l.blocks = bl at *
  generalize l.gen = g at *
  rw [hv]
  clear hv
  go_enter Try.func50, Try.ntmps50
  go_wp2_with (refine stop_at (o := ⟨some 3, _, _, _, _, _⟩) ?_)
  refine Stop.mk ?_
  refine wpList_box_row rfl _ _ rfl [.int .i64 ar, .int .i64 g, .int .i64 m, .int .i64 bl, sl] rfl ?_
  intro w1 hz1' hs1 hk1
  have p1 : w1.cell? ⟨W.heap.size, 1, none⟩ = some (.int .i64 g) := cell_of_row _ _ 1 _ _ _ hz1'.out
  have p2 : w1.cell? ⟨W.heap.size, 2, none⟩ = some (.int .i64 m) := cell_of_row _ _ 2 _ _ _ hz1'.out
  have HL1 := Lib.hid (Cells.of_block hz1'.out)
  have HB1 := Lib.hid (HB.out.box hk1 hs1)
  have HS := Lib.hid (show SameR R W w1 from (HB.out.kept hk1).2)
  have HM1 := Lib.hid (HMS.out.kept hk1)
  generalize W.heap.size = X at *
  clear hz1' hs1 hk1 HB HMS
  go_wp2_with (refine stop_at (o := ⟨some 8, _, _, _, _, _⟩) ?_)
  refine Stop.mk ?_
  refine wpList_load_agg rfl _ rfl ty_lab X 0 rfl [.int .i64 ar, .int .i64 g, .int .i64 m, .int .i64 bl, sl] HL1.out rfl ?_
  rw [← HV.out]
  go_wp2_with fail
  refine Calls.mono (HPUT.out w1 HM1.out) ?_
  rintro e w2 ⟨rfl, hk2⟩
  replace p1 := hk2.cell' p1
  replace p2 := hk2.cell' p2
  have HB2 := Lib.hid (HB1.out.kept hk2).1
  replace HS := Lib.hid (show SameR R W w2 from HS.out.trans fun k hk => (HB1.out.kept hk2).2 k (.inl hk))
  clear hk2 HB1 HM1 HL1 HPUT
  go_wp2_with (refine stop_at (o := ⟨some 5, _, _, _, _, _⟩) ?_)
  refine Stop.mk ?_
  refine wpList_new_row rfl rfl _ _ rfl rfl ty_sec (u8s zeroB) zero_sec (by rw [u8s_length, zeroB_length]) (u8s sec) rfl (by rw [u8s_length, HX.out.1]) (u8s_one _) rfl ?_
  intro w4 hz4 hs4 hk4
  have HB4 := Lib.hid (HB2.out.kept hk4).1
  have HX4 := hz4
  replace p1 := hk4.cell' p1
  replace p2 := hk4.cell' p2
  replace HS := Lib.hid (show SameR R W w4 from HS.out.trans fun k hk => (HB2.out.kept hk4).2 k (.inl hk))
  clear hz4 hs4 hk4 HB2
  go_wp2_with (refine stop_at (o := ⟨some 22, _, _, _, _, _⟩) ?_)
  refine Stop.mk ?_
  refine wpList_load_agg rfl _ rfl ty_sec w2.heap.size 0 rfl (u8s sec) (by simpa using Cells.of_block HX4.out) (by rw [u8s_length, HX.out.1]) ?_
  go_wp2_with fail
  refine Calls.mono (HW.out _ _ HB4.out) ?_
  rintro e w5 ⟨rfl, hb5, hs5⟩
  have HB5 := Lib.hid hb5
  replace p2 := (World.cell?_of_block (a := ⟨X, 2, none⟩) (hs5 X (.inr rfl))).trans p2
  replace HS := Lib.hid (show SameR R W w5 from HS.out.trans fun k hk => hs5 k (.inl hk))
  clear hb5 hs5 HB4 p1
  by_cases hc : c = 0
  · subst hc
    have hres := HRES.out
    rw [if_neg (by decide)] at hres
    obtain ⟨rfl, rfl⟩ : T2 = Tr ∧ d = cr := by cases hres; exact ⟨rfl, rfl⟩
    clear hres HRES
    go_wp2_with fail
    refine Calls.mono (HF.out _ _ HB5.out) ?_
    rintro e w6 ⟨rfl, hb6, hs6⟩
    go_wp2
    go_ret
    exact ⟨rfl, hb6.less (fun k hk => .inl hk), HS.out.trans fun k hk => hs6 k (.inl hk)⟩
  · have hres := HRES.out
    rw [if_pos hc] at hres
    obtain ⟨rfl, rfl⟩ : T1 = Tr ∧ c = cr := by cases hres; exact ⟨rfl, rfl⟩
    clear hres HRES
    have hcb : (c == 0) = false := by simpa using hc
    go_wp2
    go_ret
    exact ⟨rfl, HB5.out.less (fun k hk => .inl hk), HS.out⟩
end
section
variable {w0 W : World} {R : Nat → Prop} {p q : Nat} {T V : BankT} {U : RT}
theorem br_Save (h : BR w0 R W p T q U) (u : T.Use) (l : Lab) (sl : Value) (hlen : l.ms.length ≤ 9223372036854775807) (hm : MSl W sl l.ms) (u1 : rightB l = true → (T.write l.member (l.gen.tmod 2) l.sec).1.Use) :
    Calls Try.prog 49 #[.pointer (some ⟨p, 0, none⟩), l.val sl] W fun e w' => e = .returned (.int .i64 (T.saveX l).2) ∧ BR w0 R w' p (T.saveX l).1 q U ∧ SameR R W w' := by
  unfold BankT.saveX
  cases hr : rightB l with
  | true =>
    obtain ⟨g, hg⟩ := right_gen hr
    exact h.opd (P := fun e => e = .returned (.int .i64 (T.saveL l).2)) fun R hb => label_Save hb u l sl hm hr g hg (u1 hr)
  | false => exact h.opd (P := fun e => e = .returned (.int .i64 1)) fun R hb => label_Save_no hb l sl hlen hm hr
theorem br_Save2 (h : BR w0 R W p V q T.ref) (u : T.Doc) (l : Lab) (sl : Value) (hlen : l.ms.length ≤ 9223372036854775807) (hm : MSl W sl l.ms) (u1 : rightB l = true → (T.write l.member (l.gen.tmod 2) l.sec).1.Doc) :
    Calls Try.prog 50 #[.pointer (some ⟨q, 0, none⟩), l.val sl] W fun e w' => e = .returned (.int .i64 (T.saveX l).2) ∧ BR w0 R w' p V q (T.saveX l).1.ref ∧ SameR R W w' := by
  unfold BankT.saveX
  cases hr : rightB l with
  | true => exact h.opr (P := fun e => e = .returned (.int .i64 (T.saveL l).2)) fun R hb => doc_Save_ok (B := T) hb u l sl hm hr (u1 hr)
  | false => exact h.opr (P := fun e => e = .returned (.int .i64 1)) fun R hb => doc_Save_no (B := T) hb l sl hlen hm hr
end
end Go.Proofs.Ytglplhmclfekfaa
