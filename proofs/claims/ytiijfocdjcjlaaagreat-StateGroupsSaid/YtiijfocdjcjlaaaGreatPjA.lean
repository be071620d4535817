/- PjA: several texts in one: Stw Stx. -/
import Derived.Test.YtiijfocdjcjlaaaGreatPgA
import Derived.Test.YtiijfocdjcjlaaaGreatPhA
import Derived.Test.YtiijfocdjcjlaaaGreatPcA
/- state.mapped. -/
namespace Go.Proofs.YtiijfocdjcjlaaaGreat
open Go.RowKit
set_option linter.unusedVariables false
set_option linter.unusedSimpArgs false
set_option maxRecDepth 100000
set_option maxHeartbeats 1000000
theorem ty_chg : ElemT Tryz.prog 45 116 4 32 := by
  obtain ⟨i, h1, h2, h3, h4⟩ := info_parts (P := Tryz.prog) (e := 116) (z := .agg #[.int .i64 0, .int .i64 0, .int .i64 0, .int .i64 0]) (size := 4) (bytes := 32) (by kernel_rfl)
  exact ⟨by kernel_rfl, ⟨i, _, h1, h2, h3, h4, by rfl⟩, by decide⟩
theorem chs_snoc (ws : List Wh) (k : Nat) (hk : k < ws.length) : chs (ws.take (k + 1)) = chs (ws.take k) ++ [((k : Int), ws[k])] := by
  unfold chs
  rw [List.take_succ_eq_append_getElem hk, List.zipIdx_append, List.map_append]
  have : (ws.take k).length = k := by rw [List.length_take]; omega
  simp [this]
theorem st_mapped (bl : Int) (sm sd : Value) (pl : List Value) (hpl : pl.length = 131) (raw : List Gw) (gs : List Grp) (oa : Option Addr) (cap : Nat) (ws : List Wh) (sp : Value) (w : World) (hlen : raw.length ≤ 4096) (hg : RSl grw 3 w (.slice oa raw.length cap) raw) (hr : GRels w raw gs) (hm : RSl trip 3 w sp ws) (h1 : 1 ≤ ws.length) (h96 : ws.length ≤ 96) :
    Calls Tryz.prog 30 #[.agg (stv bl sm (.slice oa raw.length cap) sp sd pl).toArray] w fun e w' => e = .returned (.bool ((ws.all mayW && onceW ws) && ws.all fun x => x.1 == 0 || placeG gs x)) ∧ Kept w w' := by
  obtain ⟨om, cm, rfl, _⟩ := hm.form
  have hA := fun (q : Nat) (W : World) (hk : Kept w W) (hq : Cells W q 0 (stv bl sm (.slice oa raw.length cap) (.slice om ws.length cm) sd pl)) =>
    all_mapped q bl sm (.slice om ws.length cm) sd pl hpl raw gs oa cap W hlen (hg.kept hk) (hr.kept hk) hq ws (.slice om ws.length cm) (by omega) (hm.kept hk)
  have HA := Lib.hid hA; clear hA
  have HM := Lib.hid hm
  have HL := Lib.hid (stv_len (bl := bl) (sm := sm) (sg := .slice oa raw.length cap) (sp := .slice om ws.length cm) (sd := sd) hpl)
  clear hg hr hm
  go_enter Tryz.func30, Tryz.ntmps30
  go_wp2_with (refine stop_at (o := ⟨some 1, _, _, _, _, _⟩) ?_)
  refine Stop.mk ?_
  refine wpList_box_rowS rfl _ _ rfl (stv bl sm (.slice oa raw.length cap) (.slice om ws.length cm) sd pl) rfl ?_
  intro w1 hz1 hs1 hk1
  have hcs := Cells.of_block hz1.out
  obtain ⟨_, _, _, c3, _⟩ := stv_cells hcs
  have HCS := Lib.hid hcs
  have HK1 := Lib.hid hk1; clear hz1 hk1 hcs
  obtain ⟨X, hX⟩ : ∃ X, X = w.heap.size := ⟨_, rfl⟩
  rw [← hX] at HCS c3 ⊢
  have HX := Lib.hid hX; clear hX
  go_wp2_with fail
  refine Calls.mono (vm_New ws.length w1 h1 h96) ?_
  rintro e w2 ⟨p, v0, m, rfl, hp1, hblk, hv0, hk2⟩
  obtain ⟨o0, k0, rfl, _⟩ := hv0.form
  rw [List.length_replicate] at hblk hv0
  replace c3 := hk2.cell' c3
  have HP := Lib.hid (show w.heap.size ≤ p by have := HK1.out.size; omega)
  have HPX := Lib.hid (show X < p by have := HX.out; omega)
  have HCS2 := Lib.hid (HCS.out.kept hk2)
  have HK2 := Lib.hid (HK1.out.trans hk2)
  have HB := Lib.hid hblk; have HV0 := Lib.hid hv0
  have HPl := Lib.hid (show p < w2.heap.size from (Array.getElem?_eq_some_iff.1 hblk).1)
  clear hk2 hblk hv0 hp1 hs1 HCS HK1
  go_wp2
  go_loopw [14, 4] (fun i v wr => ∃ k : Nat, k ≤ ws.length ∧ i = .int .i64 (k : Int) ∧ Hid (Kept w2 wr ∧ wr.ownsRow w2.heap.size 116 4 v (chs (ws.take k)).length ((chs (ws.take k)).flatMap chg))) (fun i _ _ => ws.length - (intOf i).toNat)
  case atStart => exact ⟨0, by omega, rfl, Lib.hid ⟨Kept.refl _, World.ownsRow_nil _ _ _ _⟩⟩
  case round =>
    obtain ⟨k, hk, rfl, HR⟩ := hrel
    by_cases hlt : k < ws.length
    · obtain ⟨b, off, rfl, hb, hcs⟩ := HM.out.at hlt
      have hcs := hcs.kept (HK2.out.trans HR.out.1)
      have d0 := hcs 0 (by rw [trip_len]; decide)
      have d1 := hcs 1 (by rw [trip_len]; decide)
      have d2 := hcs 2 (by rw [trip_len]; decide)
      simp only [Nat.add_zero, trip, List.getElem_cons_zero, List.getElem_cons_succ] at d0 d1 d2
      clear hcs
      go_wp2_with (refine stop_at (o := ⟨some 6, .alloc _, _, _, _, _⟩) ?_)
      refine Stop.mk ?_
      refine wpList_alloc_abs rfl _ rfl _ zero_whr ?_
      intro w3 hz3 hs3 hs3' hk3
      go_wp2_with (refine stop_at (o := ⟨none, .store _ _ _, _, _, _, _⟩) ?_)
      refine Stop.mk ?_
      refine wpList_store_agg (o := ⟨none, .store _ _ _, _, _, _, _⟩) rfl _ _ rfl agT_whr wr.heap.size 0 rfl (trip ws[k]) rfl rfl (trip_one _) _ _ hz3.out (by simp) ?_
      intro w4 hw4
      replace hw4 := hw4.all rfl
      have hkr : Kept wr w4 := hw4.kept hk3 (Nat.le_refl _)
      have hn := hw4.cells
      have n0 := hn 0 (by rw [trip_len]; decide)
      have n1 := hn 1 (by rw [trip_len]; decide)
      have n2 := hn 2 (by rw [trip_len]; decide)
      simp only [Nat.add_zero, Nat.zero_add, trip, List.getElem_cons_zero, List.getElem_cons_succ] at n0 n1 n2
      have HKR := Lib.hid hkr
      clear hz3 hs3 hs3' hk3 hw4 hkr hn d0 d1 d2
      generalize wr.heap.size = Y at *
      go_wp2_with (refine stop_at (o := ⟨some 23, _, _, _, _, _⟩) ?_)
      refine Stop.mk ?_
      refine wpList_one_agg rfl _ rfl ty_chg (by decide) (chg ((k : Int), ws[k])) rfl rfl ?_
      intro w5 hz5 hs5 hk5
      refine wpList_push_rec rfl _ _ rfl ty_chg (by decide) chg chg_len w2.heap.size (chs (ws.take k)) ((k : Int), ws[k]) (chg_one _) (by rw [chs_len, List.length_take]; omega) _ rfl (ownsRow_kept HR.out.2 (HKR.out.trans hk5)) w4.heap.size rfl hz5.out (by have := HR.out.1.size; have := HKR.out.size; have := hk5.size; omega) ?_
      intro v6 w6 ho6 hg6 hb6
      have HO := Lib.hid (show w6.ownsRow w2.heap.size 116 4 v6 (chs (ws.take (k + 1))).length ((chs (ws.take (k + 1))).flatMap chg) by rw [chs_snoc ws k hlt]; exact ho6)
      have HK6 := Lib.hid (show Kept w2 w6 from ((HR.out.1.trans HKR.out).trans hk5).below (Nat.le_refl _) hb6)
      clear hz5 hs5 hk5 ho6 hg6 hb6 n0 n1 n2
      go_wp2
      go_roundw
      case rel => exact ⟨k + 1, by omega, by go_num, Lib.hid ⟨HK6.out, HO.out⟩⟩
      case measure => simp [intOf]; omega
    · have HO := Lib.hid (show RSl chg 4 wr _ (chs ws) by have := HR.out.2; rw [List.take_of_length_le (by omega)] at this; exact RSl.of_owns chg_len rfl this)
      have HKW := Lib.hid (HK2.out.trans HR.out.1)
      have hset := vm_Set p m _ _ _ ws wr h1 h96 _ (HR.out.1.block HB.out) (HV0.out.kept HR.out.1) HO.out
      have HS2 := Lib.hid (HCS2.out.kept HR.out.1)
      clear HB HV0 HCS2 HK2
      cases hok : (ws.all mayW && onceW ws) with
      | false =>
        have hset2 : Calls Tryz.prog 69 _ wr fun e w' => ∃ r, e = .returned (.int .i64 r) ∧ (r == 0) = false ∧ But (fun k => k = p) wr w' := hset.mono (by
          rintro e w' ⟨r, he, h2, h3⟩
          rw [hok] at h2
          exact ⟨r, he, by simpa using h2, h3⟩)
        have HSET := Lib.hid hset2
        have HOK := Lib.hid hok
        clear hset hset2 hok
        go_wp2_with (go_at_call 69; refine HSET.out.mono ?_; rintro e w7 ⟨r, rfl, hr0, hb7⟩)
        go_ret
        exact ⟨by rw [HOK.out]; rfl, But.to_kept HKW.out hb7 (fun i hi => by subst hi; exact HP.out)⟩
      | true =>
        have hset2 : Calls Tryz.prog 69 _ wr fun e w' => e = .returned (.int .i64 0) ∧ But (fun k => k = p) wr w' := hset.mono (by
          rintro e w' ⟨r, he, h2, h3⟩
          rw [hok] at h2
          obtain rfl : r = 0 := by simpa using h2
          exact ⟨he, h3⟩)
        have HSET := Lib.hid hset2
        have HOK := Lib.hid hok
        clear hset hset2 hok
        go_wp2_with fail
        refine Calls.mono HSET.out ?_
        rintro e w7 ⟨rfl, hb7⟩
        have HK7 := Lib.hid (But.to_kept HKW.out hb7 (fun i hi => by subst hi; exact HP.out))
        have HS7 : Hid (Cells w7 X 0 (stv bl sm (.slice oa raw.length cap) (.slice om ws.length cm) sd pl)) := Lib.hid (fun j hj => hb7.cell (by show ¬ X = p; have := HPX.out; omega) (HS2.out j hj))
        have hc := (stv_cells HS7.out).2.2.2.1
        have hall := HA.out X w7 HK7.out HS7.out
        have HALL := Lib.hid hall
        clear hall hb7
        go_wp2_with (go_at_call 70; refine HALL.out.mono ?_; rintro e w8 ⟨rfl, hk8⟩)
        go_ret
        exact ⟨by rw [HOK.out]; rfl, HK7.out.trans hk8⟩
end Go.Proofs.YtiijfocdjcjlaaaGreat
/- state.plug. -/
namespace Go.Proofs.YtiijfocdjcjlaaaGreat
open Go.RowKit
set_option linter.unusedVariables false
set_option linter.unusedSimpArgs false
set_option maxRecDepth 100000
set_option maxHeartbeats 1000000
def plugG (gs : List Grp) (ws : List Wh) (p : Plg) : Bool := if p.is then placeG gs (2, p.group, p.slot) && !(ws.contains (2, p.group, p.slot)) else zeroP p
theorem plugG_eq (s : St) : plugG s.gs s.mp s.plug = plugB s := rfl
theorem stv_pl {W : World} {b : Nat} {bl : Int} {sm sg sp sd : Value} {pl : List Value} (h : Cells W b 0 (stv bl sm sg sp sd pl)) : Cells W b 5 pl := fun j hj => by
  have := h (j + 5) (by simp [stv]; omega)
  rw [Nat.zero_add] at this
  rw [Nat.add_comm 5 j]
  exact this
theorem st_plug (bl : Int) (sm sd : Value) (P : Plg) (hP : PlgOk P) (raw : List Gw) (gs : List Grp) (oa : Option Addr) (cap : Nat) (ws : List Wh) (sp : Value) (w : World) (hlen : raw.length ≤ 4096) (hg : RSl grw 3 w (.slice oa raw.length cap) raw) (hr : GRels w raw gs) (hm : RSl trip 3 w sp ws) (h96 : ws.length ≤ 96) :
    Calls Tryz.prog 34 #[.agg (stv bl sm (.slice oa raw.length cap) sp sd (plv P)).toArray] w fun e w' => e = .returned (.bool (plugG gs ws P)) ∧ Kept w w' := by
  have hpl := fun (W : World) (hk : Kept w W) => st_place bl sm sp sd (plv P) (plv_len hP) raw gs oa cap (2, P.group, P.slot) W hlen (hg.kept hk) (hr.kept hk)
  have hcon := fun (W : World) (hk : Kept w W) => sl_Contains_w (2, P.group, P.slot) ws sp W (by omega) (hm.kept hk)
  obtain ⟨om, cm, rfl, _⟩ := hm.form
  simp only [trip] at hpl hcon
  have HPL := Lib.hid hpl; have HCON := Lib.hid hcon
  have HL := Lib.hid (stv_len (bl := bl) (sm := sm) (sg := .slice oa raw.length cap) (sp := .slice om ws.length cm) (sd := sd) (plv_len hP))
  clear hg hr hm hpl hcon
  have HPL5 := Lib.hid (plv_len hP)
  have HPO := Lib.hid hP; clear hP
  go_enter Tryz.func34, Tryz.ntmps34
  go_wp2_with (refine stop_at (o := ⟨some 1, _, _, _, _, _⟩) ?_)
  refine Stop.mk ?_
  refine wpList_box_rowS rfl _ _ rfl (stv bl sm (.slice oa raw.length cap) (.slice om ws.length cm) sd (plv P)) rfl ?_
  intro w1 hz1 hs1 hk1
  have hcs := Cells.of_block hz1.out
  obtain ⟨_, _, _, c3, _⟩ := stv_cells hcs
  have c5 : w1.cell? ⟨w.heap.size, 5, none⟩ = some (.bool P.is) := hcs 5 (by show 5 < (stv _ _ _ _ _ _).length; rw [HL.out]; decide)
  have c6 : w1.cell? ⟨w.heap.size, 6, none⟩ = some (.int .i64 P.group) := hcs 6 (by show 6 < (stv _ _ _ _ _ _).length; rw [HL.out]; decide)
  have c7 : w1.cell? ⟨w.heap.size, 7, none⟩ = some (.int .i64 P.slot) := hcs 7 (by show 7 < (stv _ _ _ _ _ _).length; rw [HL.out]; decide)
  have hp5 := stv_pl hcs
  have HCS := Lib.hid hcs
  have HP5 := Lib.hid hp5
  have HK1 := Lib.hid hk1; clear hz1 hk1 hcs hp5
  obtain ⟨X, hX⟩ : ∃ X, X = w.heap.size := ⟨_, rfl⟩
  rw [← hX] at HCS HP5 c3 c5 c6 c7 ⊢
  have HX := Lib.hid hX; clear hX hs1
  cases his : P.is with
  | false =>
    have HQ := Lib.hid (show plugG gs ws P = zeroP P by unfold plugG; rw [his]; rfl)
    have HE := Lib.hid (show (P.is == zeroPlg.is && (P.group == zeroPlg.group && (P.slot == zeroPlg.slot && (P.data == zeroPlg.data && P.par == zeroPlg.par)))) = zeroP P by rw [plg_zero P HPO.out, his]; rfl)
    rw [his] at c5
    clear his
    go_wp2_with (refine stop_at (o := ⟨some 9, _, _, _, _, _⟩) ?_)
    refine Stop.mk ?_
    refine wpList_load_agg rfl _ rfl ty_plg X 5 rfl _ HP5.out HPL5.out ?_
    refine wpList_zero_plg rfl rfl ?_
    refine wpList_eq_plg rfl _ _ rfl P zeroPlg HPO.out zeroPlg_ok rfl rfl ?_
    rw [HE.out]
    go_wp2
    go_ret
    exact ⟨by rw [HQ.out]; rfl, HK1.out⟩
  | true =>
    have HQ := Lib.hid (show plugG gs ws P = (placeG gs (2, P.group, P.slot) && !(ws.contains (2, P.group, P.slot))) by unfold plugG; rw [his]; rfl)
    rw [his] at c5
    clear his
    go_wp2_with (refine stop_at (o := ⟨some 3, .alloc _, _, _, _, _⟩) ?_)
    refine Stop.mk ?_
    refine wpList_alloc_abs rfl _ rfl _ zero_whr ?_
    intro w3 hz3 hs3 hs3' hk3
    refine wpList_store_agg (o := ⟨none, .store _ _ _, _, _, _, _⟩) rfl _ _ rfl agT_whr w1.heap.size 0 rfl (trip (2, P.group, P.slot)) rfl rfl (trip_one _) _ _ hz3.out (by simp) ?_
    intro w4 hw4
    replace hw4 := hw4.all rfl
    have hkr : Kept w1 w4 := hw4.kept hk3 (Nat.le_refl _)
    have hn := hw4.cells
    have n0 := hn 0 (by rw [trip_len]; decide)
    have n1 := hn 1 (by rw [trip_len]; decide)
    have n2 := hn 2 (by rw [trip_len]; decide)
    simp only [Nat.add_zero, Nat.zero_add, trip, List.getElem_cons_zero, List.getElem_cons_succ] at n0 n1 n2
    have HS4 := Lib.hid (HCS.out.kept hkr)
    replace c3 := hkr.cell' c3
    have HK4 := Lib.hid (HK1.out.trans hkr)
    clear hz3 hs3 hs3' hk3 hw4 hkr hn c5 c6 c7 HP5 HCS HK1
    generalize w1.heap.size = Y at *
    go_wp2_with (refine stop_at (o := ⟨some 19, _, _, _, _, _⟩) ?_)
    refine Stop.mk ?_
    refine wpList_load_agg rfl _ rfl agT_state X 0 rfl _ HS4.out HL.out ?_
    go_wp2_with fail
    refine Calls.mono (HPL.out _ HK4.out) ?_
    rintro e w5 ⟨rfl, hk5⟩
    replace c3 := hk5.cell' c3
    replace n0 := hk5.cell' n0
    replace n1 := hk5.cell' n1
    replace n2 := hk5.cell' n2
    have HK5 := Lib.hid (HK4.out.trans hk5)
    cases hpl : placeG gs (2, P.group, P.slot) with
    | false =>
      rw [hpl] at HQ
      go_wp2
      go_ret
      exact ⟨by rw [HQ.out]; rfl, HK5.out⟩
    | true =>
      rw [hpl] at HQ
      clear hk5 hpl
      generalize ws.contains (2, P.group, P.slot) = cb at *
      go_wp2_with (go_at_call 80; refine (HCON.out _ HK5.out).mono ?_; rintro e w6 ⟨rfl, hk6⟩)
      go_ret
      exact ⟨by rw [HQ.out]; rfl, HK5.out.trans hk6⟩
end Go.Proofs.YtiijfocdjcjlaaaGreat
