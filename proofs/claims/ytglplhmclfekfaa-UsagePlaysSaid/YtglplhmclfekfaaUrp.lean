/- law14: UsagePlays, the walk. -/
import Derived.Test.YtglplhmclfekfaaUro
namespace Go.Proofs.Ytglplhmclfekfaa
open Go.RowKit
set_option linter.unusedVariables false
set_option linter.unusedSimpArgs false

set_option maxHeartbeats 2000000
set_option maxRecDepth 100000
theorem law_plays14 (vl : Value) (l : List OpV) (w : World) (hs : VSrc w vl l) :
    Calls Try.prog 4 #[vl] w fun e w' => e = .returned (.bool true) ∧ Kept w w' := by
  have HSRC0 := Lib.hid hs
  obtain ⟨oa, cap, rfl, hlc, hcm, _⟩ := hs
  have HSRC := HSRC0
  clear HSRC0
  go_enter Try.func4, Try.ntmps4
  go_wp2_with fail
  refine Calls.mono (usage_shown w) ?_
  rintro e w1 ⟨rfl, hk1⟩
  have HK1 := Lib.hid hk1
  clear hk1
  go_wp2_with fail
  refine Calls.mono (own_New w w1 HK1.out) ?_
  rintro e w2 ⟨p0, rfl, hx2, hk2⟩
  have HX2 := Lib.hid hx2
  clear hx2 hk2 HK1
  go_wp2_with fail
  refine Calls.mono (ur_New w2) ?_
  rintro e w3 ⟨rfl, hx3, hk3⟩
  have HP3 := Lib.hid (PU.first HX2.out HX2.out.keeps hx3 hk3)
  obtain ⟨q, hq⟩ : ∃ q, q = w2.heap.size := ⟨_, rfl⟩
  rw [← hq] at HP3 ⊢
  clear hx3 hk3 hq HX2
  go_wp2
  go_loopw [4, 6, 7, 8] (fun mv ov wv i wr => ∃ (k p : Nat) (T : Tab) (G : UG) (L : UL) (vg vu : Value) (R : Nat → Prop), k ≤ l.length ∧ k ≤ 150 ∧ i = .int .i64 k ∧ mv = .pointer (some ⟨p, 0, none⟩) ∧ Hid (PU w R wr p q T k G L vg vu) ∧
    ((ov = .pointer none ∧ wv = .pointer none) ∨ ∃ po qo, ov = .pointer (some ⟨po, 0, none⟩) ∧ wv = .pointer (some ⟨qo, 0, none⟩) ∧ Hid (OldU w wr R po qo))) (fun _ _ _ i _ => l.length - (intOf i).toNat)
  case atStart => exact ⟨0, p0, _, _, _, _, _, _, Nat.zero_le _, Nat.zero_le _, rfl, rfl, HP3, .inl ⟨rfl, rfl⟩⟩
  case round =>
    clear HP3
    obtain ⟨k, p, T, G, L, vg, vu, R, hk, hk150, rfl, rfl, HP, hold⟩ := hrel
    by_cases hgo : k < l.length ∧ k < 150
    · obtain ⟨hlt, h150⟩ := hgo
      obtain ⟨b, off, rfl, hcs, hg1⟩ := (HSRC.out.kept HP.out.own.keeps).at k hlt
      have HG1 := Lib.hid hg1
      have HCS := Lib.hid hcs
      generalize l[k] = o at *
      clear hcs hg1
      obtain ⟨kd, g, s, bk, n⟩ := o
      simp only at HCS HG1
      go_wp2_with (refine stop_at (o := ⟨some 30, _, _, _, _, _⟩) ?_)
      refine Stop.mk ?_
      refine wpList_load_agg rfl _ rfl ty_opV b (off + k * 5) rfl _ HCS.out rfl ?_
      go_wp2_with (refine stop_at (o := ⟨some 9, _, _, _, _, _⟩) ?_)
      refine Stop.mk ?_
      refine wpList_new_aggU rfl rfl _ _ rfl rfl ty_opV [Value.int .i64 0, .int .i64 0, .int .i64 0, .int .i64 0, .int .i64 0] zero_opV rfl [Value.int .i64 kd, .int .i64 g, .int .i64 s, .int .i64 bk, .int .i64 n] rfl rfl (by simp [Value.oneCell']) rfl ?_
      intro w4 HB4 hs4 hk4
      obtain ⟨Bo, hBo⟩ : ∃ Bo, Bo = wr.heap.size := ⟨_, rfl⟩
      rw [← hBo] at HB4 hs4 ⊢
      have hBs : wr.heap.size ≤ Bo := Nat.le_of_eq hBo.symm
      have p4 := cell_of_row _ _ 4 _ _ _ HB4.out
      have HK4 := Lib.hid hk4
      clear hk4 hBo HCS
      go_wp2_with (refine stop_at (o := ⟨none, .store _ _ _, _, _, _, _⟩) ?_)
      refine Stop.mk ?_
      refine wpList_set_cell rfl _ _ rfl size_intV Bo 4 rfl (.int .i64 (min n 60)) rfl rfl rfl _ _ HB4.out (by simp) ?_
      intro w5 hw5
      generalize min n 60 = m at *
      have hw5 : Wrote w4 w5 Bo [.int .i64 kd, .int .i64 g, .int .i64 s, .int .i64 bk, .int .i64 m] 49 := hw5
      have hk5 := hw5.kept HK4.out hBs
      have HS5 := Lib.hid (HP.out.kept hk5).2
      have HP5 := Lib.hid (HP.out.more hk5 Bo hBs (Array.getElem?_eq_some_iff.1 hw5.blk).1)
      have HB5 := Lib.hid hw5.blk
      have p0 := cell_of_row _ _ 0 _ _ _ hw5.blk
      clear hk5 hw5 HB4 HK4 hs4 p4
      by_cases e5 : kd = 5
      · subst e5
        clear hold HG1
        go_wp2_with fail
        refine Calls.mono (pu_CloneU HP5.out (by omega)) ?_
        rintro e w6 ⟨q2, vg2, vl2, rfl, hp6, hk6⟩
        have HP6 := Lib.hid hp6
        have HB6 := Lib.hid (hk6.block HB5.out)
        clear hp6 hk6 HP HP5 HB5 p0 HS5
        go_wp2_with fail
        refine Calls.mono (pu_CloneT HP6.out (by omega)) ?_
        rintro e w7 ⟨p7, R7, rfl, hp7, ho7, hk7⟩
        have HP7 := Lib.hid hp7
        have HO7 := Lib.hid ho7
        have HB7 := Lib.hid (hk7.block HB6.out)
        clear hp7 ho7 hk7 HP6 HB6
        go_wp2_with (refine stop_at (o := ⟨some 53, _, _, _, _, _⟩) ?_)
        refine Stop.mk ?_
        refine wpList_load_agg rfl _ rfl ty_opV Bo 0 rfl _ (by simpa using Cells.of_block HB7.out) rfl ?_
        go_wp2_with fail
        refine Calls.mono (law_same14 HP7.out (by omega) 5 g s bk m) ?_
        rintro e w8 ⟨rfl, hk8⟩
        have HP8 := Lib.hid (PU.c1 (HP7.out.kept hk8).1)
        have HO8 := Lib.hid (HO7.out.still (HP7.out.kept hk8).2)
        clear hk8 HP7 HO7 HB7
        go_wp2
        go_roundw
        case rel => exact ⟨k + 1, p7, _, _, _, _, _, _, hlt, h150, by go_num, rfl, HP8, .inr ⟨_, _, rfl, rfl, HO8⟩⟩
        case measure => simp [intOf]; omega
      · have k5 : (kd == 5) = false := by simpa using e5
        clear e5
        go_wp2_with (refine stop_at (o := ⟨some 45, _, _, _, _, _⟩) ?_)
        refine Stop.mk ?_
        refine wpList_load_agg rfl _ rfl ty_opV Bo 0 rfl _ (by simpa using Cells.of_block HB5.out) rfl ?_
        go_wp2_with fail
        refine Calls.mono (law_does14 HP5.out (by omega) kd g s bk m HG1.out) ?_
        rintro e w6 ⟨rfl, T6, G6, L6, vg6, vu6, hp6, hs6⟩
        have HP6 := Lib.hid hp6
        have HS6 := Lib.hid hs6
        have HB6 := Lib.hid ((hs6 Bo (.inr rfl)).trans HB5.out)
        clear hp6 hs6 HP5 HP HB5 HG1 k5
        go_wp2_with (refine stop_at (o := ⟨some 53, _, _, _, _, _⟩) ?_)
        refine Stop.mk ?_
        refine wpList_load_agg rfl _ rfl ty_opV Bo 0 rfl _ (by simpa using Cells.of_block HB6.out) rfl ?_
        go_wp2_with fail
        refine Calls.mono (law_same14 HP6.out (by omega) kd g s bk m) ?_
        rintro e w7 ⟨rfl, hk7⟩
        have HP7 := Lib.hid (PU.less (R' := R) (HP6.out.kept hk7).1 fun k hk => .inl hk)
        have HS7 : Hid (SameR R wr w7) := Lib.hid fun k hk => ((HP6.out.kept hk7).2 k (.inl hk)).trans ((HS6.out k (.inl hk)).trans (HS5.out k hk))
        clear hk7 HP6 HS6 HS5 HB6
        rcases hold with ⟨rfl, rfl⟩ | ⟨po, qo, rfl, rfl, HO⟩
        · go_wp2
          go_roundw
          case rel => exact ⟨k + 1, p, _, _, _, _, _, _, hlt, h150, by go_num, rfl, HP7, .inl ⟨rfl, rfl⟩⟩
          case measure => simp [intOf]; omega
        · have HO7 := Lib.hid (HO.out.still HS7.out)
          go_wp2
          go_roundw
          case rel => exact ⟨k + 1, p, _, _, _, _, _, _, hlt, h150, by go_num, rfl, HP7, .inr ⟨po, qo, rfl, rfl, HO7⟩⟩
          case measure => simp [intOf]; omega
    · have hcase : k = l.length ∨ (k < l.length ∧ k = 150) := by omega
      clear hgo
      rcases hold with ⟨rfl, rfl⟩ | ⟨po, qo, rfl, rfl, HO⟩
      · rcases hcase with rfl | ⟨hlt, rfl⟩
        · go_wp2
          go_ret
          exact ⟨rfl, HP.out.own.keeps⟩
        · go_wp2
          go_ret
          exact ⟨rfl, HP.out.own.keeps⟩
      · obtain ⟨To, Go_, Lo, vgo, vuo, hpo⟩ := HO.out.now HP.out.own.keeps
        have HPO := Lib.hid hpo
        clear hpo HO
        rcases hcase with rfl | ⟨hlt, rfl⟩
        · go_wp2_with fail
          refine Calls.mono (law_same14 HPO.out (by omega) 0 0 0 0 0) ?_
          rintro e w6 ⟨rfl, hk6⟩
          have HK6 := Lib.hid (HP.out.own.keeps.trans hk6)
          clear hk6
          go_wp2
          go_ret
          exact ⟨rfl, HK6.out⟩
        · go_wp2_with fail
          refine Calls.mono (law_same14 HPO.out (by omega) 0 0 0 0 0) ?_
          rintro e w6 ⟨rfl, hk6⟩
          have HK6 := Lib.hid (HP.out.own.keeps.trans hk6)
          clear hk6
          go_wp2
          go_ret
          exact ⟨rfl, HK6.out⟩
end Go.Proofs.Ytglplhmclfekfaa
