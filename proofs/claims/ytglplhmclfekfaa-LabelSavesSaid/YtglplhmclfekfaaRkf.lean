/- label.Save on a law's bank; law04's sectors: six sectors of a bank, read into a slice. -/
import Derived.Test.YtglplhmclfekfaaRke
import Derived.Test.YtglplhmclfekfaaFdA
import Derived.Test.YtglplhmclfekfaaRsl
import Derived.Great.BuildSlice
namespace Go.Proofs.Ytglplhmclfekfaa
open Go.RowKit
set_option linter.unusedVariables false
set_option linter.unusedSimpArgs false

/-- what label.Save does with a label that is right -/
def BankT.saveL (T : BankT) (l : Lab) : BankT × Int := if (T.write l.member (l.gen.tmod 2) l.sec).2 ≠ 0 then T.write l.member (l.gen.tmod 2) l.sec else (T.write l.member (l.gen.tmod 2) l.sec).1.flushC l.member
section
variable {w0 W : World} {R : Nat → Prop} {q : Nat} {T : BankT}
set_option maxHeartbeats 2000000
set_option maxRecDepth 100000
theorem label_Save (h : BK w0 R W q T) (u : T.Use) (l : Lab) (sl : Value) (hm : MSl W sl l.ms) (hr : rightB l = true) (g : Nat) (hg : l.gen = (g : Int)) (u1 : (T.write l.member (l.gen.tmod 2) l.sec).1.Use) :
    Calls Try.prog 49 #[.pointer (some ⟨q, 0, none⟩), l.val sl] W fun e w' => e = .returned (.int .i64 (T.saveL l).2) ∧ BK w0 R w' q (T.saveL l).1 ∧ SameR R W w' := by
  have hN : l.ms.length ≤ 12 := by
    simp only [rightB, headB, inB, Bool.and_eq_true, decide_eq_true_eq] at hr
    omega
  have HX := Lib.hid (l.sec_length hN)
  have HSL1 := Lib.hid hm.one
  have HMS := Lib.hid hm
  have HPUT := Lib.hid (fun (W' : World) (hm' : MSl W' sl l.ms) => label_Put_ok l sl W' hm' hr)
  obtain ⟨T1, c, hw⟩ : ∃ T1 c, T.write l.member (l.gen.tmod 2) l.sec = (T1, c) := ⟨_, _, rfl⟩
  unfold BankT.saveL
  rw [hw] at u1 ⊢
  simp only [] at u1 ⊢
  obtain ⟨T2, d, hf⟩ : ∃ T2 d, T1.flushC l.member = (T2, d) := ⟨_, _, rfl⟩
  rw [hf]
  obtain ⟨Tr, cr, hres⟩ : ∃ Tr cr, (if c ≠ 0 then (T1, c) else (T2, d)) = (Tr, cr) := ⟨_, _, rfl⟩
  rw [hres]
  have hz : l.gen.tmod 2 = ((g % 2 : Nat) : Int) := by rw [hg, Int.tmod_eq_emod_of_nonneg (by omega)]; rfl
  rw [hz] at hw
  have hz1 : (g : Int) % 2 = ((g % 2 : Nat) : Int) := by omega
  have hz2 : (g : Int).tmod 2 = ((g % 2 : Nat) : Int) := by rw [← hg]; exact hz
  generalize g % 2 = k at *
  have HW := Lib.hid hw; have HF := Lib.hid hf; have HU := Lib.hid u; have HU1 := Lib.hid u1; have HB := Lib.hid h; have HRES := Lib.hid hres
  clear hw hf u u1 h hres hz hm hr hN
  have hv : l.val sl = .agg #[.int .i64 l.array, .int .i64 (g : Int), .int .i64 l.member, .int .i64 l.blocks, sl] := by unfold Lab.val; rw [hg]
  have HV := Lib.hid hv
  generalize l.sec = sec at *
  generalize l.member = m at *
  generalize l.array = ar at *
  generalize l.blocks = bl at *
  rw [hv]
  clear hv hg
  go_enter Try.func49, Try.ntmps49
  go_wp2_with (refine stop_at (o := ⟨some 3, _, _, _, _, _⟩) ?_)
  refine Stop.mk ?_
  refine wpList_box_row rfl _ _ rfl [.int .i64 ar, .int .i64 (g : Int), .int .i64 m, .int .i64 bl, sl] rfl ?_
  intro w1 hz1' hs1 hk1
  have p1 : w1.cell? ⟨W.heap.size, 1, none⟩ = some (.int .i64 (g : Int)) := cell_of_row _ _ 1 _ _ _ hz1'.out
  have p2 : w1.cell? ⟨W.heap.size, 2, none⟩ = some (.int .i64 m) := cell_of_row _ _ 2 _ _ _ hz1'.out
  have HL1 := Lib.hid (Cells.of_block hz1'.out)
  have HB1 := Lib.hid (HB.out.box hk1 hs1)
  have HS := Lib.hid (show SameR R W w1 from (HB.out.kept hk1).2)
  have HM1 := Lib.hid (HMS.out.kept hk1)
  have HLT := Lib.hid hs1
  generalize W.heap.size = X at *
  clear hz1' hs1 hk1 HB HMS
  go_wp2_with (refine stop_at (o := ⟨some 9, _, _, _, _, _⟩) ?_)
  refine Stop.mk ?_
  refine wpList_load_agg rfl _ rfl ty_lab X 0 rfl [.int .i64 ar, .int .i64 (g : Int), .int .i64 m, .int .i64 bl, sl] HL1.out rfl ?_
  rw [← HV.out]
  go_wp2_with fail
  refine Calls.mono (HPUT.out w1 HM1.out) ?_
  rintro e w2 ⟨rfl, hk2⟩
  replace p1 := hk2.cell' p1
  replace p2 := hk2.cell' p2
  have HB2 := Lib.hid (HB1.out.kept hk2).1
  replace HS := Lib.hid (show SameR R W w2 from HS.out.trans fun k hk => (HB1.out.kept hk2).2 k (.inl hk))
  clear hk2 HB1 HM1 HL1 HPUT
  go_wp2_with (refine stop_at (o := ⟨some 5, _, _, _, _, _⟩) ?_)
  refine Stop.mk ?_
  refine wpList_new_row rfl rfl _ _ rfl rfl ty_sec (u8s zeroB) zero_sec (by rw [u8s_length, zeroB_length]) (u8s sec) rfl (by rw [u8s_length, HX.out]) (u8s_one _) rfl ?_
  intro w4 hz4 hs4 hk4
  have HB4 := Lib.hid (HB2.out.kept hk4).1
  have HX4 := hz4
  replace p1 := hk4.cell' p1
  replace p2 := hk4.cell' p2
  replace HS := Lib.hid (show SameR R W w4 from HS.out.trans fun k hk => (HB2.out.kept hk4).2 k (.inl hk))
  clear hz4 hs4 hk4 HB2
  go_wp2_with (refine stop_at (o := ⟨some 23, _, _, _, _, _⟩) ?_)
  refine Stop.mk ?_
  refine wpList_load_agg rfl _ rfl ty_sec w2.heap.size 0 rfl (u8s sec) (by simpa using Cells.of_block HX4.out) (by rw [u8s_length, HX.out]) ?_
  go_wp2_with fail
  refine Calls.mono (st_writeE HB4.out HU.out m (k : Int) HX.out HW.out) ?_
  rintro e w5 ⟨rfl, hb5, hs5⟩
  have HB5 := Lib.hid hb5
  replace p2 := (World.cell?_of_block (a := ⟨X, 2, none⟩) (hs5 X (.inr rfl))).trans p2
  replace HS := Lib.hid (show SameR R W w5 from HS.out.trans fun k hk => hs5 k (.inl hk))
  clear hb5 hs5 HB4 p1
  by_cases hc : c = 0
  · subst hc
    have hres := HRES.out
    rw [if_neg (by decide)] at hres
    obtain ⟨rfl, rfl⟩ : T2 = Tr ∧ d = cr := by cases hres; exact ⟨rfl, rfl⟩
    clear hres HRES
    go_wp2_with fail
    refine Calls.mono (st_flush HB5.out HU1.out m (c := d) (T' := T2) (by rw [HF.out]) (by rw [HF.out])) ?_
    rintro e w6 ⟨rfl, hb6, hs6⟩
    go_wp2
    go_ret
    exact ⟨rfl, hb6.less (fun k hk => .inl hk), HS.out.trans fun k hk => hs6 k (.inl hk)⟩
  · have hres := HRES.out
    rw [if_pos hc] at hres
    obtain ⟨rfl, rfl⟩ : T1 = Tr ∧ c = cr := by cases hres; exact ⟨rfl, rfl⟩
    clear hres HRES
    have hcb : (c == 0) = false := by simpa using hc
    go_wp2
    go_ret
    exact ⟨rfl, HB5.out.less (fun k hk => .inl hk), HS.out⟩
end
/-- the first six sectors of three disks -/
def BankT.six (T : BankT) : Nat → List (List Int)
  | 0 => []
  | k + 1 => BankT.six T k ++ [T.N (k % 3) (k / 3)]
theorem BankT.six_len (T : BankT) (k : Nat) : (T.six k).length = k := by
  induction k with
  | zero => rfl
  | succ k ih => rw [BankT.six, List.length_append, ih]; rfl
theorem BankT.six_at (T : BankT) (k i : Nat) (h : i < (T.six k).length) : (T.six k)[i] = T.N (i % 3) (i / 3) := by
  induction k with
  | zero => exact absurd h (Nat.not_lt_zero _)
  | succ k ih =>
    have hl := T.six_len k
    by_cases e : i < k
    · have : (T.six (k + 1))[i]? = (T.six k)[i]? := by rw [BankT.six, List.getElem?_append_left (by omega)]
      rw [List.getElem?_eq_getElem h, List.getElem?_eq_getElem (by omega)] at this
      rw [Option.some.inj this]; exact ih (by omega)
    · have e2 : i = k := by rw [BankT.six_len] at h; omega
      subst e2
      have : (T.six (i + 1))[i]? = some (T.N (i % 3) (i / 3)) := by rw [BankT.six, List.getElem?_append_right (by omega), hl]; simp
      rw [List.getElem?_eq_getElem h] at this
      exact Option.some.inj this
section
variable {w0 W : World} {R : Nat → Prop} {q : Nat} {T : BankT}
set_option maxHeartbeats 2000000
set_option maxRecDepth 100000
--
--
--
--
--
--
--
--
--
--
--
--
--
--
--
--
--
--
--
--
--
--
--
--
--
--
--
--
--
--
--
--
--
--
--
--
--
--
--
--
--
--
--
--
--
--
--
--
--
--
--
--
--
--
--
--
--
--
--
--
--
--
--
--
--
--
--
--
--
--
--
--
--
--
--
--
end
set_option maxRecDepth 100000 in
theorem open_ssrc {H : Type} {enc : TypeId × Value → H} {w : World} {base : Nat} {spare : Nat → Bool} {held : Bool} {fuel : Nat} {v : Value} {x : DataW H × List MemPlace}
    (h : DataW.trod enc Try.prog w base spare held fuel 77 [v] = some x) : ∃ l, SSrc w v l := by
  rcases Go.Deep.open_slice Try.underlying77 h with ⟨hcs, _⟩ | ⟨a, len, cap, m, n, D, Pl, hcs, _, hl, hmx, hm, _, hi⟩
  · simp at hcs; subst hcs; exact ⟨[], SSrc.nil w⟩
  simp at hcs
  subst hcs
  have hlm : len ≤ m := by rw [hm]; split <;> omega
  have hu : Try.prog.underlying 34 = some (.array 64 5) := by kernel_rfl
  have hC : Try.prog.cellsOf 34 = 64 := by kernel_rfl
  have hC1 : Try.prog.cellsOf 5 = 1 := by kernel_rfl
  have key : ∀ i, ∃ s : List Int, i < len → (∀ j, j < 64 → w.cell? ((a.add (i * 64)).add j) = some (.int .u8 (s.getD j 0))) ∧ s.length = 64 ∧ ∀ x ∈ s, IsByte x := by
    intro i
    by_cases hil : i < len
    · obtain ⟨cs', hc, ht⟩ := hi i (by omega)
      rw [hC] at hc
      obtain ⟨_, hcl, hat⟩ := World.cells?_some hc
      obtain ⟨xs, n', _, _, _, hxl, hf⟩ := DataW.trod_array hu ht
      have k2 : ∀ j, ∃ z : Int, j < 64 → cs'[j]? = some (.int .u8 z) ∧ IsByte z := by
        intro j
        by_cases hj : j < 64
        · have h1 := hf j hj
          rw [hC1, Nat.mul_one, List.getElem?_eq_getElem (by omega)] at h1
          have h2 : (cs'.drop j).take 1 = [cs'[j]] := by rw [List.drop_eq_getElem_cons (by omega)]; rfl
          rw [h2] at h1
          obtain ⟨z, hz, _, hw⟩ := DataW.trod_int Try.underlying5 h1
          simp at hz
          refine ⟨z, fun _ => ⟨by rw [List.getElem?_eq_getElem (by omega), hz], ?_⟩⟩
          simp [Lit.wf, IntKind.min, IntKind.max, IntKind.signed, IntKind.bits] at hw
          exact ⟨by omega, by omega⟩
        · exact ⟨0, fun h => absurd h hj⟩
      obtain ⟨f, hf'⟩ := Classical.axiomOfChoice k2
      refine ⟨(List.range 64).map f, fun _ => ⟨fun j hj => ?_, by simp, fun x hx => ?_⟩⟩
      · have h1 := (hf' j hj).1
        have h2 := hat j (by omega)
        rw [h2, h1]
        simp [List.getD_eq_getElem?_getD, hj]
      · simp only [List.mem_map, List.mem_range] at hx
        obtain ⟨j, hj, rfl⟩ := hx
        exact (hf' j hj).2
    · exact ⟨[], fun h' => absurd h' hil⟩
  obtain ⟨f, hf⟩ := Classical.axiomOfChoice key
  refine ⟨(List.range len).map f, some a, cap, by simp, by simpa using hl, hmx, fun k hk => ?_⟩
  have hk' : k < len := by simpa using hk
  obtain ⟨h1, h2, h3⟩ := hf k hk'
  obtain ⟨b, off, spot⟩ := a
  have hsp := World.cell?_spot ((hf 0 (by omega)).1 0 (by decide))
  have hspot : spot = none := by simpa [Addr.add] using hsp
  subst hspot
  have e : ((List.range len).map f)[k] = f k := by simp
  refine ⟨b, off, rfl, ?_, by rw [e]; exact h2, by rw [e]; exact h3⟩
  rw [e]
  intro j hj
  rw [u8s_length, h2] at hj
  have := h1 j hj
  simp only [Addr.add_mid] at this
  rw [this]
  simp [u8s, List.getD_eq_getElem?_getD, List.getElem?_eq_getElem (show j < (f k).length by omega)]
end Go.Proofs.Ytglplhmclfekfaa
