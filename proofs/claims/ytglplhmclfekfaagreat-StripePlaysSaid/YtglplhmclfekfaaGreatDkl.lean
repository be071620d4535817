/- A disk.Bank: Write, its counting given. -/
import Derived.Test.YtglplhmclfekfaaGreatDkk
import Derived.Test.YtglplhmclfekfaaGreatEA
namespace Go.Proofs.YtglplhmclfekfaaGreat
open Go.RowKit
set_option linter.unusedVariables false
set_option linter.unusedSimpArgs false

theorem BankT.inE_in {T : BankT} {k b : Nat} (hr : T.readyE (k : Int) = 0) (hb : b < (T.d k).sin.length) : T.inE (k : Int) (b : Int) = 0 := by
  unfold BankT.inE; rw [hr, if_neg (by decide), Int.toNat_natCast, if_neg (by omega)]
theorem BankT.inE_out {T : BankT} {k : Nat} (hr : T.readyE (k : Int) = 0) {a : Int} (hb : a < 0 ∨ ((T.d k).sin.length : Int) ≤ a) : T.inE (k : Int) a = 3 := by
  unfold BankT.inE; rw [hr, if_neg (by decide), Int.toNat_natCast, if_pos hb]
theorem BankT.inE_no {T : BankT} {d : Int} (hr : T.readyE d ≠ 0) (a : Int) : T.inE d a = T.readyE d := by
  unfold BankT.inE; rw [if_pos hr]
theorem BankT.readyE_ne {T : BankT} {d : Int} : (T.readyE d == 0) = decide (T.readyE d = 0) := by
  rw [Bool.eq_iff_iff]; simp
section
variable {w : World} {Y : Lay} {T : BankT}
set_option maxHeartbeats 1000000
set_option maxRecDepth 100000
/-- what Write does behind its counting: T is the bank then -/
def BankT.wrote (r : BankT × Bool) (d a : Int) (s : List Int) : BankT × Int :=
  if r.2 = false then (r.1, 6) else if r.1.inE d a = 0 then (r.1.put d.toNat a.toNat s, 0) else (r.1, r.1.inE d a)
theorem write_of (r : BankT × Bool) (h : BankD w Y T) (hl : r.1.l.length = T.l.length) (ok : r.1.Ok) (hN : T.l.length ≠ 0) (hc0 : 0 ≤ r.1.clock) (hc1 : r.1.clock < 1000000000) (d a : Int) {s : List Int} (hs : s.length = 64)
    (HC : ∀ w1, BankD w1 Y T → Calls Tryz.prog 75 #[.pointer (some ⟨Y.A 0, 0, none⟩)] w1 fun e w' => e = .returned (.bool r.2) ∧ BankD w' Y r.1 ∧ But (Y.In T.l.length) w1 w') :
    Calls Tryz.prog 34 #[.pointer (some ⟨Y.A 0, 0, none⟩), .agg #[.int .i64 d, .int .i64 a], .agg (u8s s).toArray] w fun e w' =>
      e = .returned (.int .i64 (BankT.wrote r d a s).2) ∧ BankD w' Y (BankT.wrote r d a s).1 ∧ But (Y.In T.l.length) w w' := by
  obtain ⟨T1, b⟩ := r
  have H := Lib.hid h
  have HC' := Lib.hid HC
  have hnot := h.not_in
  have hnot1 : ¬ Y.In T.l.length (w.heap.size + 1) := fun hi => by have := h.lt hi; omega
  clear h HC
  go_enter Tryz.func34, Tryz.ntmps34
  go_wp2_with fail
  refine Calls.mono (HC'.out _ (H.out.kept (((Kept.refl w).alloc _).alloc _))) ?_
  rintro e w1 ⟨rfl, hb, hu⟩
  have hU := (But.kept (S := Y.In T.l.length) (((Kept.refl w).alloc (.cells #[.int .i64 d, .int .i64 a] 47)).alloc (.cells (u8s s).toArray 43))).trans hu
  have g0 := hu.blk hnot (((Kept.refl (w.alloc (.cells #[.int .i64 d, .int .i64 a] 47))).alloc (.cells (u8s s).toArray 43)).block (heap_alloc_new w (.cells #[.int .i64 d, .int .i64 a] 47)))
  have g1 := hu.blk (by rw [World.size_alloc]; exact hnot1) (heap_alloc_new (w.alloc (.cells #[.int .i64 d, .int .i64 a] 47)) (.cells (u8s s).toArray 43))
  rw [World.size_alloc] at g1
  have p0 : w1.cell? ⟨w.heap.size, 0, none⟩ = some (.int .i64 d) := cell_of_row _ _ 0 _ _ _ g0
  have p1 : w1.cell? ⟨w.heap.size, 1, none⟩ = some (.int .i64 a) := cell_of_row _ _ 1 _ _ _ g0
  have HB := Lib.hid hb; have HU := Lib.hid hU; have HG := Lib.hid g1
  clear hb hu hU g0 g1 HC' H
  cases b with
  | false =>
    have e := Lib.hid (show BankT.wrote (T1, false) d a s = (T1, 6) from rfl)
    go_wp2
    go_ret
    exact ⟨by rw [e.out]; rfl, by rw [e.out]; exact HB.out, HU.out⟩
  | true =>
    replace hl : T1.l.length = T.l.length := hl
    replace ok : T1.Ok := ok
    replace hc0 : 0 ≤ T1.clock := hc0
    replace hc1 : T1.clock < 1000000000 := hc1
    have hN1 : T1.l.length ≠ 0 := by rw [hl]; exact hN
    have HR := Lib.hid (bank_ready HB.out hN1 d)
    by_cases hr : T1.readyE d = 0
    · obtain ⟨k, rfl, hk⟩ := BankT.readyE_in hr
      have HR2 := HR.out
      simp only [hr, if_true, Int.toNat_natCast] at HR2
      have HRR := Lib.hid HR2
      clear HR HR2
      by_cases hin : a < 0 ∨ ((T1.d k).sin.length : Int) ≤ a
      · have HI := Lib.hid (fun ww (hkk : Kept w1 ww) => (med_in (HB.out.kept hkk) hk a).mono (R' := fun e w' => e = .returned (.bool false) ∧ w' = ww) fun e w' ⟨he, hw⟩ => ⟨by rw [he]; simp; omega, hw.symm⟩)
        have E := Lib.hid (show BankT.wrote (T1, true) (k : Int) a s = (T1, 3) by unfold BankT.wrote; simp [BankT.inE_out hr hin])
        clear hr hin
        go_wp2_with fail
        refine Calls.mono HRR.out ?_
        rintro e w' ⟨rfl, rfl⟩
        go_upto_region 6 with fail
        go_quiet (first | (go_at_call 50; refine Calls.quiet_of_same (HI.out _ ((Kept.refl _).drewN _))))
        go_wp2
        go_ret
        exact ⟨by rw [E.out]; rfl, by rw [E.out]; exact HB.out.kept ((Kept.refl _).drewN _), HU.out.keep ((Kept.refl _).drewN _)⟩
      · obtain ⟨b, rfl, hb⟩ : ∃ b : Nat, a = (b : Int) ∧ b < (T1.d k).sin.length := ⟨a.toNat, by omega, by omega⟩
        have HI := Lib.hid (fun ww (hkk : Kept w1 ww) => (med_in (HB.out.kept hkk) hk (b : Int)).mono (R' := fun e w' => e = .returned (.bool true) ∧ w' = ww) fun e w' ⟨he, hw⟩ => ⟨by rw [he]; simp; omega, hw.symm⟩)
        have E := Lib.hid (show BankT.wrote (T1, true) (k : Int) (b : Int) s = (T1.put k b s, 0) by unfold BankT.wrote; simp [BankT.inE_in hr hb])
        clear hr hin
        have okd := ok.d hk
        have c1 := HB.out.m1 hk
        have c2 := HB.out.m2 hk
        have cs := HB.out.cell_sin hk hb
        have cb := HB.out.b2
        have nl := okd.new.1
        have hlen := okd.len
        have n24 : Y.A (2 + 4 * k) ≠ Y.A (4 + 4 * k) := HB.out.ne (by omega) (by omega) (by omega) (by omega)
        have n45 : Y.A (4 + 4 * k) ≠ Y.A (5 + 4 * k) := HB.out.ne (by omega) (by omega) (by omega) (by omega)
        have n04 : Y.A 0 ≠ Y.A (4 + 4 * k) := HB.out.ne (by omega) (by omega) (by omega) (by omega)
        have n02 : Y.A 0 ≠ Y.A (2 + 4 * k) := HB.out.ne (by omega) (by omega) (by omega) (by omega)
        have n05 : Y.A 0 ≠ Y.A (5 + 4 * k) := HB.out.ne (by omega) (by omega) (by omega) (by omega)
        have np4 : w.heap.size ≠ Y.A (4 + 4 * k) := fun e => hnot (e ▸ hl ▸ Y.in_ hk 4 (by decide) (by decide))
        have np0 : w.heap.size ≠ Y.A 0 := fun e => hnot (e ▸ Y.in0 _)
        have pn := Lib.hid (splice_flatJ (T1.d k).new (fun s hs => (okd.new.2 s hs).1) b (by omega) s hs (Y.J (4 + 4 * k)))
        have qn := Lib.hid (secs_length (T1.d k).new (fun s hs => (okd.new.2 s hs).1))
        have EP := Lib.hid (show T1.put k b s = if (T1.d k).sin.getD b 0 = 0 then { T1.up k ((T1.d k).put b s (T1.clock + 1)) with clock := T1.clock + 1 } else T1.up k ((T1.d k).put b s ((T1.d k).sin.getD b 0)) from rfl)
        have hself : (T1.d k).sin.set b ((T1.d k).sin.getD b 0) = (T1.d k).sin := by
          apply List.ext_getElem (by simp)
          intro i h1 h2
          by_cases e : b = i
          · subst e; simp [hb]
          · simp [List.getElem_set, e]
        have HSELF := Lib.hid hself; clear hself
        generalize hx : (T1.d k).sin.getD b 0 = x at *
        go_wp2_with fail
        refine Calls.mono HRR.out ?_
        rintro e w' ⟨rfl, rfl⟩
        go_upto_region 6 with fail
        go_quiet (first | (go_at_call 50; refine Calls.quiet_of_same (HI.out _ ((Kept.refl _).drewN _))))
        go_wp2
        refine wp_still_tail 9 (by kernel_rfl) (by kernel_rfl) fun ws hks hhs => ?_
        have hkk : Kept w1 ws := ((Kept.refl _).drewN _).trans hks
        have c1' := hkk.cell' c1
        have q1 := hkk.cell' p1
        simp only [List.take_succ_cons, List.take_zero, List.drop_succ_cons, List.drop_zero]
        iterate 7 still_step
        refine still_load_agg rfl _ rfl ty_sec (w.heap.size + 1) 0 rfl (u8s s) ((by simpa using Cells.of_block HG.out : Cells w1 (w.heap.size + 1) 0 (u8s s)).kept hkk) (by rw [u8s_length, hs]) ?_
        iterate 1 still_step
        refine wpStill_nil ?_
        refine wpList_store_agg rfl _ _ rfl ty_sec (Y.A (4 + 4 * k)) (b * 64) rfl _ rfl (by rw [u8s_length, hs]) (u8s_one _) _ _ ((HB.out.kept hkk).new k hk) (by rw [List.length_append, qn.out, nl]; omega) ?_
        intro w2 hw2
        rw [pn.out] at hw2
        obtain ⟨B2, U2⟩ := (HB.out.kept hkk).wrote_new hk hw2
        rw [hl] at U2
        have d0 : w2.cell? ⟨w.heap.size, 1, none⟩ = some (.int .i64 (b : Int)) := (World.cell?_of_block (a := ⟨w.heap.size, 1, none⟩) (hw2.oth _ np4)).trans q1
        have HB2 := Lib.hid B2; have HU2 := Lib.hid ((HU.out.keep hkk).trans U2)
        clear B2 U2 hw2 c1' q1 hhs c1 cs
        have e2 := HB2.out.m2 (k := k) (by rw [BankT.up_len]; exact hk)
        have es := HB2.out.cell_sin (k := k) (by rw [BankT.up_len]; exact hk) (j := b) (by rw [BankT.up_self _ hk]; exact hb)
        rw [BankT.up_self _ hk] at e2 es
        simp only [hx] at e2 es
        have eb : w2.cell? ⟨Y.A 0, 2, none⟩ = some (.int .i64 T1.clock) := HB2.out.b2
        have hkl : k < (T1.up k { T1.d k with new := (T1.d k).new.set b s }).l.length := by rw [BankT.up_len]; exact hk
        by_cases hx0 : x = 0
        · subst hx0
          go_upto_region 9 with fail
          go_quiet (fail)
          go_wp2_with (refine stop_at (o := ⟨none, .store _ _ _, _, _, _, _⟩) ?_)
          refine Stop.mk ?_
          refine wpList_set_cell rfl _ _ rfl size_int (Y.A 0) 2 rfl (.int .i64 (T1.clock + 1)) rfl rfl rfl _ _ ((HB2.out.kept ((Kept.refl _).drewN _)).bank) (by simp [bankVals]) ?_
          intro w3 hw3
          obtain ⟨B3, U3⟩ := (HB2.out.kept ((Kept.refl _).drewN _)).wrote_bank (T' := { T1.up k { T1.d k with new := (T1.d k).new.set b s } with clock := T1.clock + 1 }) rfl hw3
          rw [BankT.up_len, hl] at U3
          have d3 : w3.cell? ⟨w.heap.size, 1, none⟩ = some (.int .i64 (b : Int)) := (World.cell?_of_block (a := ⟨w.heap.size, 1, none⟩) (hw3.oth _ np0)).trans d0
          have HB3 := Lib.hid B3; have HU3 := Lib.hid ((HU2.out.keep ((Kept.refl _).drewN _)).trans U3)
          clear B3 U3 hw3 d0 e2 es eb
          have f2 := HB3.out.m2 (k := k) hkl
          have fb := HB3.out.b2
          rw [BankT.d_clock, BankT.up_self _ hk] at f2
          have fb' : w3.cell? ⟨Y.A 0, 2, none⟩ = some (.int .i64 (T1.clock + 1)) := fb
          clear fb
          have HD3 := Lib.hid (show ({ T1.up k { T1.d k with new := (T1.d k).new.set b s } with clock := T1.clock + 1 } : BankT).d k = { T1.d k with new := (T1.d k).new.set b s } from BankT.up_self _ hk)
          go_wp2
          refine wp_still_tail 12 (by kernel_rfl) (by kernel_rfl) fun ws2 hks2 hhs2 => ?_
          have f2' := hks2.cell' f2
          have d3' := hks2.cell' d3
          have fb2 := hks2.cell' fb'
          simp only [List.take_succ_cons, List.take_zero, List.drop_succ_cons, List.drop_zero]
          iterate 12 still_step
          refine wpStill_nil ?_
          have hs3 := (HB3.out.kept hks2).sin k hkl
          rw [BankT.d_clock, BankT.up_self _ hk] at hs3
          refine wpList_set_cell rfl _ _ rfl size_int (Y.A (5 + 4 * k)) b rfl (.int .i64 (T1.clock + 1)) rfl rfl rfl _ _ hs3 (by rw [List.length_append, ints_length]; exact Nat.lt_of_lt_of_le hb (Nat.le_add_right _ _)) ?_
          intro w4 hw4
          have hse : (ints (T1.d k).sin ++ Y.J (5 + 4 * k)).set b (.int .i64 (T1.clock + 1)) = ints ((T1.d k).sin.set b (T1.clock + 1)) ++ Y.J (5 + 4 * k) := by rw [List.set_append_left _ _ (by rw [ints_length]; exact hb)]; simp [ints]
          simp only [hse] at hw4
          obtain ⟨B4, U4⟩ := (HB3.out.kept hks2).wrote_sin (k := k) (l := (T1.d k).sin.set b (T1.clock + 1)) hkl (by rw [HD3.out, List.length_set]) hw4
          have hU4 : But (Y.In T.l.length) ws2 w4 := by
            have : (T1.up k { T1.d k with new := (T1.d k).new.set b s }).l.length = T.l.length := by rw [BankT.up_len, hl]
            rw [← this]; exact U4
          have HB4 := Lib.hid B4; have HU4 := Lib.hid ((HU3.out.keep hks2).trans hU4)
          clear B4 U4 hU4 hw4 f2' d3' fb2 f2 d3 fb' hs3 hse
          go_wp2
          go_ret
          refine ⟨by rw [E.out]; rfl, ?_, HU4.out⟩
          rw [E.out, EP.out, if_pos trivial]
          have := HB4.out
          rw [HD3.out] at this
          simpa [BankT.up, Med.put, List.set_set] using this
        · have hx1 : ((x : Int) == 0) = false := by simp [hx0]
          go_upto_region 9 with fail
          go_quiet (fail)
          go_wp2
          go_ret
          refine ⟨by rw [E.out]; rfl, ?_, HU2.out.keep ((Kept.refl _).drewN _)⟩
          rw [E.out, EP.out, if_neg hx0]
          have := HB2.out.kept ((Kept.refl _).drewN nq)
          rw [show (T1.d k).put b s x = { T1.d k with new := (T1.d k).new.set b s } by unfold Med.put; rw [HSELF.out]]
          exact this
    · have E := Lib.hid (show BankT.wrote (T1, true) d a s = (T1, T1.readyE d) by unfold BankT.wrote; simp [BankT.inE_no hr, hr])
      have HR2 := HR.out
      rw [if_neg hr] at HR2
      have HRR := Lib.hid HR2
      clear HR HR2
      generalize hr' : T1.readyE d = r at *
      have hr1 : ((r : Int) == 0) = false := by simp [hr]
      clear hr'
      go_wp2_with fail
      refine Calls.mono HRR.out ?_
      rintro e w' ⟨rfl, rfl⟩
      go_wp2
      go_ret
      exact ⟨by rw [E.out]; rfl, by rw [E.out]; exact HB.out, HU.out⟩
end
end Go.Proofs.YtglplhmclfekfaaGreat
