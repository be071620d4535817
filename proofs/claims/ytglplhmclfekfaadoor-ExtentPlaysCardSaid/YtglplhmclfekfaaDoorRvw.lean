/- law06: ExtentPlays, the walk. -/
import Derived.Test.YtglplhmclfekfaaDoorRvv
namespace Go.Proofs.YtglplhmclfekfaaDoor
open Go.RowKit
set_option linter.unusedVariables false
set_option linter.unusedSimpArgs false

set_option maxHeartbeats 2000000
set_option maxRecDepth 100000
theorem law_plays06 (vl : Value) (l : List OpE) (w : World) (hs : ESrc w vl l) (hT : DbAt w) :
    Calls Tryd.prog 4 #[vl] w fun e w' => e = .returned (.bool true) ∧ Kept w w' := by
  have HSRC0 := Lib.hid hs
  obtain ⟨oa, cap, rfl, hlc, hcm, _⟩ := hs
  have HT := Lib.hid hT
  have HSRC := HSRC0
  clear hT HSRC0
  go_enter Tryd.func4, Tryd.ntmps4
  go_wp2_with fail
  refine Calls.mono (law_shown w HT.out) ?_
  rintro e w1 ⟨rfl, hk1⟩
  have HK1 := Lib.hid hk1
  clear hk1
  go_wp2_with fail
  refine Calls.mono (xo_New w w1 HK1.out) ?_
  rintro e w2 ⟨q0, rfl, hx2, hk2⟩
  have HX2 := Lib.hid hx2
  clear hx2 hk2 HK1
  go_wp2_with fail
  refine Calls.mono (xr_New w2) ?_
  rintro e w3 ⟨rfl, hx3, hk3⟩
  have HP3 := Lib.hid (PX.first HX2.out HX2.out.keeps hx3 hk3)
  obtain ⟨q2, hq2⟩ : ∃ q2, q2 = w2.heap.size := ⟨_, rfl⟩
  rw [← hq2] at HP3 ⊢
  clear hx3 hk3 hq2 HX2
  go_wp2
  go_loopw [4, 6, 7, 8] (fun mv ov wv i wr => ∃ (k qm : Nat) (E : XT) (M : RM) (v : Value) (tb : Nat → Nat) (tj : Nat → List Value) (R : Nat → Prop), k ≤ l.length ∧ k ≤ 150 ∧ i = .int .i64 k ∧ mv = .pointer (some ⟨qm, 0, none⟩) ∧ Hid (PX w R wr qm q2 E k M v tb tj) ∧
    ((ov = .pointer none ∧ wv = .pointer none) ∨ ∃ qo qw, ov = .pointer (some ⟨qo, 0, none⟩) ∧ wv = .pointer (some ⟨qw, 0, none⟩) ∧ Hid (OldP w wr R qo qw))) (fun _ _ _ i _ => l.length - (intOf i).toNat)
  case atStart => exact ⟨0, q0, _, _, _, _, _, _, Nat.zero_le _, Nat.zero_le _, rfl, rfl, HP3, .inl ⟨rfl, rfl⟩⟩
  case round =>
    clear HP3
    obtain ⟨k, qm, E, M, v, tb, tj, R, hk, hk150, rfl, rfl, HP, hold⟩ := hrel
    by_cases hgo : k < l.length ∧ k < 150
    · obtain ⟨hlt, h150⟩ := hgo
      obtain ⟨b, off, rfl, c0, c1, c2, hi1, hi2⟩ := (HSRC.out.kept HP.out.xo.keeps).at k hlt
      have HI1 := Lib.hid hi1
      have HI2 := Lib.hid hi2
      have HCS := Lib.hid (cells_3 c0 c1 c2)
      generalize l[k] = o at *
      clear c1 c2 hi1 hi2
      obtain ⟨kd, d, n⟩ := o
      simp only at c0 HCS HI1 HI2
      by_cases e6 : kd = 6
      · subst e6
        have hnew : Hid (∀ (qo qw : Nat) (ov wv : Value), True) := Lib.hid (fun _ _ _ _ => trivial)
        clear hnew hold HI1 HI2 HCS
        go_wp2_with fail
        refine Calls.mono (px_CloneX HP.out (by omega)) ?_
        rintro e w4 ⟨q3, v3, tb3, tj3, rfl, hp4⟩
        have HP4 := Lib.hid hp4
        clear hp4 HP c0
        go_wp2_with fail
        refine Calls.mono (px_CloneE HP4.out (by omega)) ?_
        rintro e w5 ⟨q4, R4, rfl, hp5, ho5⟩
        have HP5 := Lib.hid hp5
        have HO5 := Lib.hid ho5
        clear hp5 ho5 HP4
        go_wp2_with fail
        refine Calls.mono (law_same06 HP5.out (by omega)) ?_
        rintro e w6 ⟨rfl, hk6⟩
        have HP6 := Lib.hid (PX.c1 (HP5.out.kept hk6).1)
        have HO6 := Lib.hid (HO5.out.still (HP5.out.kept hk6).2)
        clear hk6 HP5 HO5
        go_wp2
        go_roundw
        case rel => exact ⟨k + 1, q4, _, _, _, _, _, _, hlt, h150, by go_num, rfl, HP6, .inr ⟨_, _, rfl, rfl, HO6⟩⟩
        case measure => simp [intOf]; omega
      · have k6 : (kd == 6) = false := by simpa using e6
        clear e6
        go_wp2_with (refine stop_at (o := ⟨some 42, _, _, _, _, _⟩) ?_)
        refine Stop.mk ?_
        refine wpList_load_agg rfl _ rfl ty_opE b (off + k * 3) rfl _ HCS.out rfl ?_
        go_wp2_with fail
        refine Calls.mono (law_does06 HP.out HT.out (by omega) kd d n HI1.out HI2.out) ?_
        rintro e w4 ⟨rfl, E4, M4, v4, tb4, tj4, hp4, hs4⟩
        have HP4 := Lib.hid hp4
        have HS4 := Lib.hid hs4
        clear hp4 hs4 HP c0 HCS HI1 HI2 k6
        go_wp2_with fail
        refine Calls.mono (law_same06 HP4.out (by omega)) ?_
        rintro e w6 ⟨rfl, hk6⟩
        have HP6 := Lib.hid (HP4.out.kept hk6).1
        have HS6 := Lib.hid (HS4.out.trans (HP4.out.kept hk6).2)
        clear hk6 HP4 HS4
        rcases hold with ⟨rfl, rfl⟩ | ⟨qo, qw, rfl, rfl, HO⟩
        · go_wp2
          go_roundw
          case rel => exact ⟨k + 1, qm, _, _, _, _, _, _, hlt, h150, by go_num, rfl, HP6, .inl ⟨rfl, rfl⟩⟩
          case measure => simp [intOf]; omega
        · have HO6 := Lib.hid (HO.out.still HS6.out)
          go_wp2
          go_roundw
          case rel => exact ⟨k + 1, qm, _, _, _, _, _, _, hlt, h150, by go_num, rfl, HP6, .inr ⟨qo, qw, rfl, rfl, HO6⟩⟩
          case measure => simp [intOf]; omega
    · have hcase : k = l.length ∨ (k < l.length ∧ k = 150) := by omega
      clear hgo
      rcases hold with ⟨rfl, rfl⟩ | ⟨qo, qw, rfl, rfl, HO⟩
      · rcases hcase with rfl | ⟨hlt, rfl⟩
        · go_wp2
          go_ret
          exact ⟨rfl, HP.out.xo.keeps⟩
        · go_wp2
          go_ret
          exact ⟨rfl, HP.out.xo.keeps⟩
      · obtain ⟨Eo, Mo, vo, tbo, tjo, hpo⟩ := HO.out.now HP.out.xo.keeps
        have HPO := Lib.hid hpo
        clear hpo HO
        rcases hcase with rfl | ⟨hlt, rfl⟩
        · go_wp2_with fail
          refine Calls.mono (law_same06 HPO.out (by omega)) ?_
          rintro e w6 ⟨rfl, hk6⟩
          have HK6 := Lib.hid (HP.out.xo.keeps.trans hk6)
          clear hk6
          go_wp2
          go_ret
          exact ⟨rfl, HK6.out⟩
        · go_wp2_with fail
          refine Calls.mono (law_same06 HPO.out (by omega)) ?_
          rintro e w6 ⟨rfl, hk6⟩
          have HK6 := Lib.hid (HP.out.xo.keeps.trans hk6)
          clear hk6
          go_wp2
          go_ret
          exact ⟨rfl, HK6.out⟩
end Go.Proofs.YtglplhmclfekfaaDoor
