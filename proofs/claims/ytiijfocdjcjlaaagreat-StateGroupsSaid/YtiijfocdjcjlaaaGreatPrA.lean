/- PrA: several texts in one: Byt Shw. -/
import Derived.Test.YtiijfocdjcjlaaaGreatPqA
/- state.Bytes: how many there are. -/
namespace Go.Proofs.YtiijfocdjcjlaaaGreat
open Go.RowKit Go.ChangeMaps Go.MapKept
set_option linter.unusedVariables false
set_option linter.unusedSimpArgs false
set_option maxRecDepth 100000
set_option maxHeartbeats 1000000
def whW (x : Wh) : Bool := [x.1, x.2.1, x.2.2].all (fun x => mayPut x 1)
def glen (gs : List Grp) : Nat := (gs.map fun g => 3 + 3 * g.ext.length).sum
theorem glen_take (gs : List Grp) (k : Nat) (hk : k < gs.length) : glen (gs.take (k + 1)) = glen (gs.take k) + (3 + 3 * gs[k].ext.length) := by
  unfold glen
  rw [List.take_succ_eq_append_getElem hk, List.map_append, List.sum_append]
  simp only [List.map_cons, List.map_nil, List.sum_cons, List.sum_nil, Nat.add_zero]
theorem glen_le (gs : List Grp) (k : Nat) : glen (gs.take k) ≤ glen gs := by
  have : glen gs = glen (gs.take k) + glen (gs.drop k) := by
    unfold glen
    rw [← List.sum_append, ← List.map_append, List.take_append_drop]
  omega
def okBytes (s : St) : Bool := mayPut s.blocks 1 && ((okMany 12 s.ms.length && s.ms.all mbW) && (okMany 24 s.gs.length && (s.gs.all grW && (s.mp.all whW && (okMany 24 s.dirty.length && s.dirty.all fun x => mayPut x 1)))))
def bytesLen (s : St) : Nat := 1 + 1 + 4 * s.ms.length + 1 + glen s.gs + 3 * s.mp.length + 1 + s.dirty.length + 1
theorem agS_grp3 : (Tryz.prog.info? 37).map (·.size) = some 3 := by kernel_rfl
theorem st_Bytes (s : St) (sm sg sp sd : Value) (raw : List Gw) (w : World) (h : StM w s sm sg sp sd raw) (hright : rightS s = true) (hpl : s.plug.is = false) (hok : okBytes s = true) (hbd : glen s.gs ≤ 50000) :
    Calls Tryz.prog 18 #[.agg (stC s sm sg sp sd).toArray] w fun e w' => (∃ ax cc, e = .returned (.tuple #[.slice ax (bytesLen s) cc, .int .i64 0])) ∧ Kept w w' := by
  obtain ⟨om, cm, rfl, _⟩ := h.ms.form
  obtain ⟨og, cg, rfl, _⟩ := h.gs.form
  obtain ⟨op, cp, rfl, _⟩ := h.mp.form
  obtain ⟨od, cd, rfl, _⟩ := h.dirty.form
  have hl1 := h.lms; have hl3 := h.lmp; have hl4 := h.ldi
  have HLR := Lib.hid h.rel.len
  have hr4 : raw.length ≤ 4096 := by rw [h.rel.len]; exact h.lgs
  have HH := Lib.hid h; clear h
  have HRT := Lib.hid hright; clear hright
  unfold okBytes at hok
  simp only [Bool.and_eq_true] at hok
  obtain ⟨k1, ⟨k2, k3⟩, k4, k5, k6, k7, k8⟩ := hok
  have HL := Lib.hid (show (stC s (.slice om s.ms.length cm) (.slice og raw.length cg) (.slice op s.mp.length cp) (.slice od s.dirty.length cd)).length = 136 from stv_len (plv_len HH.out.plug))
  have K1 := Lib.hid k1; have K2 := Lib.hid k2; have K3 := Lib.hid k3; have K4 := Lib.hid k4; have K5 := Lib.hid k5; have K6 := Lib.hid k6; have K7 := Lib.hid k7; have K8 := Lib.hid k8
  clear k1 k2 k3 k4 k5 k6 k7 k8
  go_enter Tryz.func18, Tryz.ntmps18
  go_wp2_with (refine stop_at (o := ⟨some 1, _, _, _, _, _⟩) ?_)
  refine Stop.mk ?_
  refine wpList_box_rowS rfl _ _ rfl (stC s (.slice om s.ms.length cm) (.slice og raw.length cg) (.slice op s.mp.length cp) (.slice od s.dirty.length cd)) rfl ?_
  intro w1 hz1 hs1 hk1
  obtain ⟨X, hX⟩ : ∃ X, X = w.heap.size := ⟨_, rfl⟩
  rw [← hX] at hz1 ⊢
  have HCS := Lib.hid (Cells.of_block hz1.out : Cells w1 X 0 (stC s (.slice om s.ms.length cm) (.slice og raw.length cg) (.slice op s.mp.length cp) (.slice od s.dirty.length cd)))
  have HXl := Lib.hid (show X < w1.heap.size by omega)
  have HXw := Lib.hid hX
  have HK1 := Lib.hid hk1
  clear hz1 hs1 hk1 hX
  go_wp2_with (refine stop_at (o := ⟨some 9, _, _, _, _, _⟩) ?_)
  refine Stop.mk ?_
  refine wpList_load_agg rfl _ rfl agT_state X 0 rfl _ HCS.out HL.out ?_
  have hrt := st_Right s (.slice om s.ms.length cm) (.slice og raw.length cg) (.slice op s.mp.length cp) (.slice od s.dirty.length cd) raw w1 (HH.out.kept HK1.out)
  rw [HRT.out] at hrt
  have HRTC := Lib.hid hrt; clear hrt
  go_wp2_with fail
  refine Calls.mono HRTC.out ?_
  rintro e w2 ⟨rfl, hk2⟩
  have HCS2 := Lib.hid (HCS.out.kept hk2)
  have HK2 := Lib.hid (HK1.out.trans hk2)
  have HXl2 := Lib.hid (Nat.lt_of_lt_of_le HXl.out hk2.size)
  clear hk2 HRTC HCS HK1
  go_wp2_with (refine stop_at (o := ⟨some 13, _, _, _, _, _⟩) ?_)
  refine Stop.mk ?_
  refine wpList_box_rowS rfl _ _ rfl [.slice none 0 0, .bool false] rfl ?_
  intro w3 hz3 hs3 hk3
  obtain ⟨B, hB⟩ : ∃ B, B = w2.heap.size := ⟨_, rfl⟩
  rw [← hB] at hz3 ⊢
  have H3 := Lib.hid (WrL.fresh hz3.out)
  have HK3 := Lib.hid (HK2.out.trans hk3)
  have HBw : Hid (w.heap.size ≤ B) := Lib.hid (by have := HK2.out.size; omega)
  have HXB : Hid (X ≠ B) := Lib.hid (by have := HXl2.out; omega)
  have HC3 := Lib.hid (stv_cells (HCS2.out.kept hk3))
  have h5c : w3.cell? ⟨X, 5, none⟩ = some (.bool false) := by
    have := (stv_pl (HCS2.out.kept hk3)) 0 (by rw [plv_len HH.out.plug]; decide)
    rw [this]; show some (Value.bool s.plug.is) = _; rw [hpl]
  have HC5 := Lib.hid h5c
  clear hz3 hs3 hk3 hB HXl2 HXl HK2 h5c
  have HOB := Lib.hid (show ∀ W, OnlyB B w3 W → W.cell? ⟨X, 0, none⟩ = some (.int .i64 s.blocks) ∧ W.cell? ⟨X, 1, none⟩ = some (.slice om s.ms.length cm) ∧ W.cell? ⟨X, 2, none⟩ = some (.slice og raw.length cg) ∧ W.cell? ⟨X, 3, none⟩ = some (.slice op s.mp.length cp) ∧ W.cell? ⟨X, 4, none⟩ = some (.slice od s.dirty.length cd) ∧ W.cell? ⟨X, 5, none⟩ = some (.bool false) from
    fun W hb => ⟨hb.cell (by exact HXB.out) HC3.out.1, hb.cell (by exact HXB.out) HC3.out.2.1, hb.cell (by exact HXB.out) HC3.out.2.2.1, hb.cell (by exact HXB.out) HC3.out.2.2.2.1, hb.cell (by exact HXB.out) HC3.out.2.2.2.2, hb.cell (by exact HXB.out) HC5.out⟩)
  obtain ⟨c0, c1, c2, c3, c4, c5⟩ := HOB.out w3 (But.refl _ _)
  go_wp2_with fail
  refine Calls.mono (wl_number1 B 0 false s.blocks w3 H3.out (by omega)) ?_
  rintro e w4 ⟨rfl, h4, o4⟩
  rw [K1.out] at h4
  have H4 : Hid (WrL w4 B 1 false) := Lib.hid h4
  have O4 := Lib.hid o4
  clear c0 c1 c2 c3 c4 c5 h4 o4
  obtain ⟨c0, c1, c2, c3, c4, c5⟩ := HOB.out w4 O4.out
  go_wp2_with fail
  refine Calls.mono (wl_members w B 1 false s.ms (.slice om s.ms.length cm) w4 H4.out (by omega) HBw.out (only_kept HK3.out O4.out HBw.out) HH.out.ms) ?_
  rintro e w5 ⟨rfl, h5, o5⟩
  have H5 : Hid (WrL w5 B (1 + 1 + 4 * s.ms.length) false) := Lib.hid (by
    have k2 := K2.out
    unfold okMany at k2
    have e1 : (decide ((12 : Int) < s.ms.length) || !mayPut s.ms.length 1) = false := by simpa using k2
    rw [e1, K3.out] at h5; exact h5)
  have O5 := Lib.hid (O4.out.trans o5)
  clear c0 c1 c2 c3 c4 c5 h5 o5
  obtain ⟨c0, c1, c2, c3, c4, c5⟩ := HOB.out w5 O5.out
  go_wp2_with fail
  refine Calls.mono (wl_count B _ false raw.length 24 w5 H5.out (by omega)) ?_
  rintro e w6 ⟨rfl, h6, o6⟩
  have H6 : Hid (WrL w6 B (1 + 1 + 4 * s.ms.length + 1) false) := Lib.hid (by
    have k4 := K4.out
    unfold okMany at k4
    have e1 : (decide ((24 : Int) < raw.length) || !mayPut raw.length 1) = false := by rw [HLR.out]; simpa using k4
    rw [e1] at h6; exact h6)
  have O6 := Lib.hid (O5.out.trans o6)
  clear c0 c1 c2 c3 c4 c5 h6 o6
  obtain ⟨c0, c1, c2, c3, c4, c5⟩ := HOB.out w6 O6.out
  go_wp2
  obtain ⟨n1, hn1⟩ : ∃ n1, n1 = 1 + 1 + 4 * s.ms.length + 1 := ⟨_, rfl⟩
  have hn1b : n1 ≤ 20000 := by omega
  rw [← hn1] at H6
  have HN1 := Lib.hid hn1; clear hn1
  clear c0 c1 c2 c3 c4 c5
  go_loopw [30] (fun i wr => ∃ k : Nat, k ≤ raw.length ∧ i = .int .i64 (k : Int) ∧ Hid (WrL wr B (n1 + glen (s.gs.take k)) false ∧ OnlyB B w3 wr)) (fun i _ => raw.length - (intOf i).toNat)
  case atStart => exact ⟨0, by omega, rfl, Lib.hid ⟨by simpa [glen] using H6.out, O6.out⟩⟩
  case round =>
    obtain ⟨k, hk, rfl, HR⟩ := hrel
    by_cases hlt : k < raw.length
    · have hkr := only_kept HK3.out HR.out.2 HBw.out
      obtain ⟨b', off, rfl, hb', hcs⟩ := HH.out.gs.at hlt
      have hcs := hcs.kept hkr
      have d0 := hcs 0 (by rw [grw_len]; decide)
      have d1 := hcs 1 (by rw [grw_len]; decide)
      have d2 := hcs 2 (by rw [grw_len]; decide)
      simp only [Nat.add_zero, grw, List.getElem_cons_zero, List.getElem_cons_succ] at d0 d1 d2
      have hgk : k < s.gs.length := by have := HLR.out; omega
      have HREL := Lib.hid (HH.out.rel.at_ k hlt hgk)
      have HGW : Hid (grW s.gs[k] = true) := Lib.hid (List.all_eq_true.1 K5.out _ (List.getElem_mem _))
      have HBR := Lib.hid HR.out.1.lt
      have HONE := Lib.hid (HH.out.rel.one raw[k] (List.getElem_mem _))
      have hle : glen (s.gs.take k) + (3 + 3 * s.gs[k].ext.length) ≤ 50000 := by
        have h1 := glen_take s.gs k hgk
        have h2 := glen_le s.gs (k + 1)
        omega
      clear hcs
      go_wp2_with (refine stop_at (o := ⟨some 6, .alloc _, _, _, _, _⟩) ?_)
      refine Stop.mk ?_
      refine wpList_alloc_abs rfl _ rfl _ zero_grpA ?_
      intro w7 hz7 hs7 hs7' hk7
      refine wpList_store_agg (o := ⟨none, .store _ _ _, _, _, _, _⟩) rfl _ _ rfl agT_grp wr.heap.size 0 rfl (grw raw[k]) rfl rfl HONE.out _ _ hz7.out (by simp) ?_
      intro w8 hw8
      replace hw8 := hw8.all rfl
      have hkr8 : Kept wr w8 := hw8.kept hk7 (Nat.le_refl _)
      have hcn := hw8.cells
      have n0 := hcn 0 (by rw [grw_len]; decide)
      have n1' := hcn 1 (by rw [grw_len]; decide)
      have n2 := hcn 2 (by rw [grw_len]; decide)
      simp only [Nat.add_zero, Nat.zero_add, grw, List.getElem_cons_zero, List.getElem_cons_succ] at n0 n1' n2
      have HR8 := Lib.hid (HR.out.1.kept hkr8)
      have HO8 := Lib.hid (HR.out.2.keep hkr8)
      have HK8 := Lib.hid (hkr.trans hkr8)
      have hC := wl_group w B (n1 + glen (s.gs.take k)) false raw[k] s.gs[k] w8 HR8.out (by omega) HBw.out HK8.out HREL.out
      rw [HGW.out] at hC
      simp only [grw] at hC
      have HC := Lib.hid hC
      clear hz7 hs7 hs7' hk7 hw8 hkr8 hcn d0 d1 d2 hkr hC
      generalize wr.heap.size = Y at *
      go_wp2_with fail
      refine Calls.mono HC.out ?_
      rintro e w9 ⟨rfl, h9, o9⟩
      have H9 : Hid (WrL w9 B (n1 + glen (s.gs.take (k + 1))) false) := Lib.hid (by
        rw [glen_take s.gs k hgk]
        have e1 : n1 + glen (s.gs.take k) + 3 + 3 * s.gs[k].ext.length = n1 + (glen (s.gs.take k) + (3 + 3 * s.gs[k].ext.length)) := by omega
        rw [← e1]; exact h9)
      have HO9 := Lib.hid (HO8.out.trans o9)
      clear h9 o9 n0 n1' n2 HC
      go_wp2
      go_roundw
      case rel => exact ⟨k + 1, by omega, by go_num, Lib.hid ⟨H9.out, HO9.out⟩⟩
      case measure => simp [intOf]; omega
    · have H7 : Hid (WrL wr B (n1 + glen s.gs) false) := Lib.hid (by
        have := HR.out.1
        rwa [List.take_of_length_le (by have := HLR.out; omega)] at this)
      have O7 := Lib.hid HR.out.2
      obtain ⟨c0, c1, c2, c3, c4, c5⟩ := HOB.out wr O7.out
      clear HR H6 O6 H5 O5 H4 O4
      go_wp2
      clear c0 c1 c2 c3 c4 c5
      obtain ⟨n2, hn2⟩ : ∃ n2, n2 = n1 + glen s.gs := ⟨_, rfl⟩
      have hn2b : n2 ≤ 70000 := by omega
      rw [← hn2] at H7
      have HN2 := Lib.hid hn2; clear hn2
      go_loopw [41] (fun i wr => ∃ k : Nat, k ≤ s.mp.length ∧ i = .int .i64 (k : Int) ∧ Hid (WrL wr B (n2 + 3 * k) false ∧ OnlyB B w3 wr)) (fun i _ => s.mp.length - (intOf i).toNat)
      case atStart => exact ⟨0, by omega, rfl, Lib.hid ⟨by simpa using H7.out, O7.out⟩⟩
      case round =>
        obtain ⟨k, hk, rfl, HR⟩ := hrel
        by_cases hlt : k < s.mp.length
        · have hkr := only_kept HK3.out HR.out.2 HBw.out
          obtain ⟨b', off, rfl, hb', hcs⟩ := HH.out.mp.at hlt
          have hcs := hcs.kept hkr
          have d0 := hcs 0 (by rw [trip_len]; decide)
          have d1 := hcs 1 (by rw [trip_len]; decide)
          have d2 := hcs 2 (by rw [trip_len]; decide)
          simp only [Nat.add_zero, trip, List.getElem_cons_zero, List.getElem_cons_succ] at d0 d1 d2
          have HGW : Hid (whW s.mp[k] = true) := Lib.hid (List.all_eq_true.1 K6.out _ (List.getElem_mem _))
          clear hcs
          go_wp2_with (refine stop_at (o := ⟨some 8, .alloc _, _, _, _, _⟩) ?_)
          refine Stop.mk ?_
          refine wpList_alloc_abs rfl _ rfl _ zero_whr ?_
          intro w7 hz7 hs7 hs7' hk7
          refine wpList_store_agg (o := ⟨none, .store _ _ _, _, _, _, _⟩) rfl _ _ rfl agT_whr wr.heap.size 0 rfl (trip s.mp[k]) rfl rfl (trip_one _) _ _ hz7.out (by simp) ?_
          intro w8 hw8
          replace hw8 := hw8.all rfl
          have hkr8 : Kept wr w8 := hw8.kept hk7 (Nat.le_refl _)
          have hcn := hw8.cells
          have n0 := hcn 0 (by rw [trip_len]; decide)
          have n1' := hcn 1 (by rw [trip_len]; decide)
          have n2' := hcn 2 (by rw [trip_len]; decide)
          simp only [Nat.add_zero, Nat.zero_add, trip, List.getElem_cons_zero, List.getElem_cons_succ] at n0 n1' n2'
          have HR8 := Lib.hid (HR.out.1.kept hkr8)
          have HO8 := Lib.hid (HR.out.2.keep hkr8)
          have HK8 := Lib.hid (hkr.trans hkr8)
          have hC := wl_where w B (n2 + 3 * k) false s.mp[k] w8 HR8.out (by omega) HBw.out HK8.out
          rw [show [s.mp[k].1, s.mp[k].2.1, s.mp[k].2.2].all (fun x => mayPut x 1) = true from HGW.out] at hC
          simp only [trip] at hC
          have HC := Lib.hid hC
          clear hz7 hs7 hs7' hk7 hw8 hkr8 hcn d0 d1 d2 hkr hC
          generalize wr.heap.size = Y at *
          go_wp2_with fail
          refine Calls.mono HC.out ?_
          rintro e w9 ⟨rfl, h9, o9⟩
          have H9 : Hid (WrL w9 B (n2 + 3 * (k + 1)) false) := Lib.hid (by
            have e1 : n2 + 3 * k + 3 = n2 + 3 * (k + 1) := by omega
            rw [← e1]; exact h9)
          have HO9 := Lib.hid (HO8.out.trans o9)
          clear h9 o9 n0 n1' n2' HC
          go_wp2
          go_roundw
          case rel => exact ⟨k + 1, by omega, by go_num, Lib.hid ⟨H9.out, HO9.out⟩⟩
          case measure => simp [intOf]; omega
        · obtain rfl : k = s.mp.length := by omega
          have H8 := Lib.hid HR.out.1
          have O8 := Lib.hid HR.out.2
          obtain ⟨c0, c1, c2, c3, c4, c5⟩ := HOB.out wr O8.out
          clear HR H7 O7
          go_wp2_with fail
          refine Calls.mono (wl_count B _ false s.dirty.length 24 _ H8.out (by omega)) ?_
          rintro e w10 ⟨rfl, h10, o10⟩
          have H10 : Hid (WrL w10 B (n2 + 3 * s.mp.length + 1) false) := Lib.hid (by
            have k7 := K7.out
            unfold okMany at k7
            have e1 : (decide ((24 : Int) < s.dirty.length) || !mayPut s.dirty.length 1) = false := by simpa using k7
            rw [e1] at h10; exact h10)
          have O10 := Lib.hid (O8.out.trans o10)
          clear c0 c1 c2 c3 c4 c5 h10 o10
          obtain ⟨c0, c1, c2, c3, c4, c5⟩ := HOB.out w10 O10.out
          go_wp2_with fail
          refine Calls.mono (wl_numbers w B _ false s.dirty (.slice od s.dirty.length cd) w10 H10.out (by omega) HBw.out (only_kept HK3.out O10.out HBw.out) (fun W hk _ => HH.out.dirty.kept hk)) ?_
          rintro e w11 ⟨rfl, h11, o11⟩
          rw [K8.out] at h11
          have H11 : Hid (WrL w11 B (n2 + 3 * s.mp.length + 1 + s.dirty.length) false) := Lib.hid h11
          have O11 := Lib.hid (O10.out.trans o11)
          clear c0 c1 c2 c3 c4 c5 h11 o11
          obtain ⟨c0, c1, c2, c3, c4, c5⟩ := HOB.out w11 O11.out
          go_wp2_with fail
          refine Calls.mono (wl_flag B _ false false w11 H11.out (by omega)) ?_
          rintro e w12 ⟨rfl, h12, o12⟩
          have O12 := Lib.hid (O11.out.trans o12)
          obtain ⟨ax, mm, cc, e0, e1, hmm⟩ := h12.cells
          have HMM := Lib.hid (show mm = bytesLen s by rw [hmm rfl, HN2.out, HN1.out]; unfold bytesLen; omega)
          clear c0 c1 c2 c3 c4 c5 h12 o12 hmm
          obtain ⟨c0, c1, c2, c3, c4, c5⟩ := HOB.out w12 O12.out
          have HKF := Lib.hid (only_kept HK3.out O12.out HBw.out)
          go_wp2
          go_ret2
          exact ⟨⟨ax, cc, by rw [← HMM.out]; rfl⟩, HKF.out⟩
end Go.Proofs.YtiijfocdjcjlaaaGreat
/- law18: three, shown; records made. -/
namespace Go.Proofs.YtiijfocdjcjlaaaGreat
open Go.RowKit Go.ChangeMaps Go.MapKept
set_option linter.unusedVariables false
set_option linter.unusedSimpArgs false
set_option maxRecDepth 100000
set_option maxHeartbeats 1000000
section
variable {ops : Array Oper} {rest : List Oper} {o : Oper} {a : Act} {w : World} {Q : Exit → Act → World → Prop}
theorem wpList_rec_drop0 (hgd : Region.wanted o (yielded ops a.tmps) = true) (x : Operand) (ho : o.op = .build 47 #[(0, x)]) (hx : a.eval x = .int .i64 3) (h : wpList Tryz.prog ops Q rest (a.put o.dst (.agg (rcDrop 0).toArray)) w) : wpList Tryz.prog ops Q (o :: rest) a w := by
  refine BigFrame.wpList_want hgd fun K hK => ?_
  have hr := run_build (P := Tryz.prog) w 47 #[(0, Value.int .i64 3)] (rcDrop 0).toArray (by kernel_rfl)
  unfold Oper.wp execOp
  simp only [ho, List.map_toArray, List.map_cons, List.map_nil, hx, Sem.run_bind, hr, Result.andThen_ok, Sem.run_pure]
  exact hK _ _ h
theorem wpList_rec_drop (hgd : Region.wanted o (yielded ops a.tmps) = true) (x y : Operand) (ho : o.op = .build 47 #[(0, x), (3, y)]) (id : Int) (hx : a.eval x = .int .i64 3) (hy : a.eval y = .int .i64 id) (h : wpList Tryz.prog ops Q rest (a.put o.dst (.agg (rcDrop id).toArray)) w) : wpList Tryz.prog ops Q (o :: rest) a w := by
  refine BigFrame.wpList_want hgd fun K hK => ?_
  have hr := run_build (P := Tryz.prog) w 47 #[(0, Value.int .i64 3), (3, Value.int .i64 id)] (rcDrop id).toArray (by kernel_rfl)
  unfold Oper.wp execOp
  simp only [ho, List.map_toArray, List.map_cons, List.map_nil, hx, hy, Sem.run_bind, hr, Result.andThen_ok, Sem.run_pure]
  exact hK _ _ h
theorem wpList_rec_make (hgd : Region.wanted o (yielded ops a.tmps) = true) (x y : Operand) (ho : o.op = .build 47 #[(0, x), (2, y)]) (id k : Int) (oe : Option Addr) (n c : Nat) (hx : a.eval x = .int .i64 2) (hy : a.eval y = .agg #[.int .i64 id, .int .i64 k, .slice oe n c]) (h : wpList Tryz.prog ops Q rest (a.put o.dst (.agg (rcMake (id, k, .slice oe n c)).toArray)) w) : wpList Tryz.prog ops Q (o :: rest) a w := by
  refine BigFrame.wpList_want hgd fun K hK => ?_
  have hr := run_build (P := Tryz.prog) w 47 #[(0, Value.int .i64 2), (2, .agg #[.int .i64 id, .int .i64 k, .slice oe n c])] (rcMake (id, k, .slice oe n c)).toArray (by kernel_rfl)
  unfold Oper.wp execOp
  simp only [ho, List.map_toArray, List.map_cons, List.map_nil, hx, hy, Sem.run_bind, hr, Result.andThen_ok, Sem.run_pure]
  exact hK _ _ h
theorem wpList_rec_dirty (hgd : Region.wanted o (yielded ops a.tmps) = true) (x y : Operand) (ho : o.op = .build 47 #[(0, x), (6, y)]) (oe : Option Addr) (n c : Nat) (hx : a.eval x = .int .i64 5) (hy : a.eval y = .slice oe n c) (h : wpList Tryz.prog ops Q rest (a.put o.dst (.agg (rcDirty (.slice oe n c)).toArray)) w) : wpList Tryz.prog ops Q (o :: rest) a w := by
  refine BigFrame.wpList_want hgd fun K hK => ?_
  have hr := run_build (P := Tryz.prog) w 47 #[(0, Value.int .i64 5), (6, .slice oe n c)] (rcDirty (.slice oe n c)).toArray (by kernel_rfl)
  unfold Oper.wp execOp
  simp only [ho, List.map_toArray, List.map_cons, List.map_nil, hx, hy, Sem.run_bind, hr, Result.andThen_ok, Sem.run_pure]
  exact hK _ _ h
theorem wpList_rec_clean (hgd : Region.wanted o (yielded ops a.tmps) = true) (x y : Operand) (ho : o.op = .build 47 #[(0, x), (6, y)]) (oe : Option Addr) (n c : Nat) (hx : a.eval x = .int .i64 6) (hy : a.eval y = .slice oe n c) (h : wpList Tryz.prog ops Q rest (a.put o.dst (.agg (rcClean (.slice oe n c)).toArray)) w) : wpList Tryz.prog ops Q (o :: rest) a w := by
  refine BigFrame.wpList_want hgd fun K hK => ?_
  have hr := run_build (P := Tryz.prog) w 47 #[(0, Value.int .i64 6), (6, .slice oe n c)] (rcClean (.slice oe n c)).toArray (by kernel_rfl)
  unfold Oper.wp execOp
  simp only [ho, List.map_toArray, List.map_cons, List.map_nil, hx, hy, Sem.run_bind, hr, Result.andThen_ok, Sem.run_pure]
  exact hK _ _ h
theorem wpList_rec_members (hgd : Region.wanted o (yielded ops a.tmps) = true) (x y : Operand) (ho : o.op = .build 47 #[(0, x), (8, y)]) (oe : Option Addr) (n c : Nat) (hx : a.eval x = .int .i64 9) (hy : a.eval y = .slice oe n c) (h : wpList Tryz.prog ops Q rest (a.put o.dst (.agg (rcMembers (.slice oe n c)).toArray)) w) : wpList Tryz.prog ops Q (o :: rest) a w := by
  refine BigFrame.wpList_want hgd fun K hK => ?_
  have hr := run_build (P := Tryz.prog) w 47 #[(0, Value.int .i64 9), (8, .slice oe n c)] (rcMembers (.slice oe n c)).toArray (by kernel_rfl)
  unfold Oper.wp execOp
  simp only [ho, List.map_toArray, List.map_cons, List.map_nil, hx, hy, Sem.run_bind, hr, Result.andThen_ok, Sem.run_pure]
  exact hK _ _ h
end
def threeL : List Mb := [(0, 200, 0), (1, 200, 0), (3, 160, 0)]
theorem law_three (w : World) : Calls Tryz.prog 17 #[] w fun e w' => ∃ v, e = .returned v ∧ RSl trip 3 w' v threeL ∧ Kept w w' := by
  go_enter Tryz.func17, Tryz.ntmps17
  go_wp2
  go_ret
  refine ⟨_, rfl, RSl.of_cells (l := threeL) trip_len (by simp) (Nat.le_refl _) (Cells.of_block (heap_alloc_new w _)), (Kept.refl _).alloc _⟩
def S0 : St := newS 4 threeL
def G0 : Grp := ⟨2, 1, [(0, 114), (3, 122)]⟩
def S1 : St := makeAt S0 0 G0
theorem s0_right : rightS S0 = true := by kernel_rfl
theorem s1_right : rightS S1 = true := by kernel_rfl
theorem s0_drop : applyE (mayPut 0 1) S0 (if (S0.gs.find? (fun g => g.id == 0)).isNone then 8 else 0) (dropS S0 0) = 8 := by kernel_rfl
theorem s0_make : applyE (grW G0) S0 (if false then 9 else 0) S1 = 0 := by kernel_rfl
theorem s1_ok : okBytes S1 = true := by kernel_rfl
theorem s1_len : bytesLen S1 = 38 := by kernel_rfl
theorem st_one {W : World} {s : St} {sm sg sp sd : Value} {raw : List Gw} (h : StM W s sm sg sp sd raw) : ∀ v ∈ stC s sm sg sp sd, v.oneCell' = true := by
  obtain ⟨_, _, hf1, _⟩ := h.ms.form; obtain ⟨_, _, hf2, _⟩ := h.gs.form; obtain ⟨_, _, hf3, _⟩ := h.mp.form; obtain ⟨_, _, hf4, _⟩ := h.dirty.form
  exact stC_one (slice_one hf1).2 (slice_one hf2).2 (slice_one hf3).2 (slice_one hf4).2
theorem st_len {W : World} {s : St} {sm sg sp sd : Value} {raw : List Gw} (h : StM W s sm sg sp sd raw) : (stC s sm sg sp sd).length = 136 := stv_len (plv_len h.plug)
section
variable {ops : Array Oper} {rest : List Oper} {o1 o2 : Oper} {a : Act} {w : World} {Q : Exit → Act → World → Prop}
/-- a new variable of a state, and what it is given; the world a letter -/
theorem wpList_new_state (hg1 : o1.guard = none) (hg2 : o2.guard = none) (x y : Operand) (ho1 : o1.op = .alloc 31) (ho2 : o2.op = .store 31 x y)
    (xs : List Value) (hy : (a.put o1.dst (.pointer (some ⟨w.heap.size, 0, none⟩))).eval y = .agg xs.toArray) (hl : xs.length = 136) (h1 : ∀ v ∈ xs, v.oneCell' = true)
    (hx : (a.put o1.dst (.pointer (some ⟨w.heap.size, 0, none⟩))).eval x = .pointer (some ⟨w.heap.size, 0, none⟩))
    (h : ∀ w1, Hid (w1.heap[w.heap.size]? = some (.cells xs.toArray 31 (0, 0))) → Kept w w1 → wpList Tryz.prog ops Q rest ((a.put o1.dst (.pointer (some ⟨w.heap.size, 0, none⟩))).put o2.dst undef) w1) : wpList Tryz.prog ops Q (o1 :: o2 :: rest) a w := by
  refine wpList_alloc_abs hg1 31 ho1 _ zero_state ?_
  intro w1 hz1 hs1 hn1 hk1
  refine wpList_store_agg hg2 x y ho2 agT_state w.heap.size 0 hx xs hy hl h1 _ 31 hz1.out (by show 0 + 136 ≤ (stv 0 nilS nilS nilS nilS (plv zeroPlg)).length; decide) ?_
  intro w2 hw2
  replace hw2 := hw2.all (by rw [hl]; rfl)
  exact h w2 (Lib.hid hw2.blk) (hw2.kept hk1 (Nat.le_refl _))
end
theorem law_shown (w : World) : Calls Tryz.prog 8 #[] w fun e w' => e = .returned (.bool true) ∧ Kept w w' := by
  go_enter Tryz.func8, Tryz.ntmps8
  go_wp2_with fail
  refine Calls.mono (law_three w) ?_
  rintro e w1 ⟨v1, rfl, hv1, hk1⟩
  have HNEW := Lib.hid (st_New 4 threeL v1 w1 (by decide) (by decide) (by decide) hv1 s0_right)
  have HK1 := Lib.hid hk1
  clear hv1 hk1
  go_wp2_with fail
  refine Calls.mono HNEW.out ?_
  rintro e w2 ⟨sm, sg, sp, sd, raw, rfl, hst, hk2⟩
  have HST2 := Lib.hid hst
  have HK2 := Lib.hid (HK1.out.trans hk2)
  clear hst hk2 HNEW HK1
  go_wp2_with (refine stop_at (o := ⟨some 1, .alloc _, _, _, _, _⟩) ?_)
  refine Stop.mk ?_
  refine wpList_new_state rfl rfl _ _ rfl rfl (stC (newS 4 threeL) sm sg sp sd) rfl (st_len HST2.out) (st_one HST2.out) rfl ?_
  intro w3 hz3 hk3
  obtain ⟨X, hX⟩ : ∃ X, X = w2.heap.size := ⟨_, rfl⟩
  rw [← hX] at hz3 ⊢
  have HX3 := Lib.hid (Cells.of_block hz3.out : Cells w3 X 0 (stC S0 sm sg sp sd))
  have HST3 : Hid (StM w3 S0 sm sg sp sd raw) := Lib.hid (HST2.out.kept hk3)
  have HK3 := Lib.hid (HK2.out.trans hk3)
  clear hz3 hk3 hX HST2 HK2
  go_wp2_with (refine stop_at (o := ⟨some 15, _, _, _, _, _⟩) ?_)
  refine Stop.mk ?_
  refine wpList_load_agg rfl _ rfl agT_state X 0 rfl _ HX3.out (st_len HST3.out) ?_
  refine wpList_rec_drop0 rfl _ rfl rfl ?_
  have happ := st_Apply (rcDrop 0) (rcv_len _ _ _ _ _ _ _ _ _ _ _) (mayPut 0 1) _ S0 (dropS S0 0) sm sg sp sd raw w3 HST3.out (fun W _ => record_drop 0 W) (fun _ _ => step_drop w3 S0 0)
  rw [s0_drop] at happ
  have HAPP := Lib.hid happ; clear happ
  go_wp2_with fail
  refine Calls.mono HAPP.out ?_
  rintro e w4 ⟨cells4, rfl, _, hk4, hl4, ho4⟩
  have HX4 := Lib.hid (HX3.out.kept hk4); have HST4 := Lib.hid (HST3.out.kept hk4); have HK4 := Lib.hid (HK3.out.trans hk4)
  have HL4 := Lib.hid hl4; have HO4 := Lib.hid ho4
  clear hk4 hl4 ho4 HX3 HST3 HK3 HAPP
  go_wp2_with (refine stop_at (o := ⟨some 3, .alloc _, _, _, _, _⟩) ?_)
  refine Stop.mk ?_
  refine wpList_new_state rfl rfl _ _ rfl rfl cells4 rfl HL4.out HO4.out rfl ?_
  intro w5 hz5 hk5
  have HX5 := Lib.hid (HX4.out.kept hk5); have HST5 := Lib.hid (HST4.out.kept hk5); have HK5 := Lib.hid (HK4.out.trans hk5)
  clear hz5 hk5 HX4 HST4 HK4
  generalize w4.heap.size = Z4
  go_wp2_with (refine stop_at (o := ⟨some 21, _, _, _, _, _⟩) ?_)
  refine Stop.mk ?_
  refine wpList_load_agg rfl _ rfl agT_state X 0 rfl _ HX5.out (st_len HST5.out) ?_
  go_wp2_with (refine stop_at (o := ⟨some 26, _, _, _, _, _⟩) ?_)
  have hce := Cells.of_block (heap_alloc_new w5 (Obj.cells #[.int .i64 0, .int .i64 114, .int .i64 3, .int .i64 122] 39))
  have hcb := (Array.getElem?_eq_some_iff.1 (heap_alloc_new w5 (Obj.cells #[.int .i64 0, .int .i64 114, .int .i64 3, .int .i64 122] 39))).1
  have hk6 := (Kept.refl w5).alloc (Obj.cells #[.int .i64 0, .int .i64 114, .int .i64 3, .int .i64 122] 39)
  generalize w5.alloc (Obj.cells #[.int .i64 0, .int .i64 114, .int .i64 3, .int .i64 122] 39) = w6 at hce hcb hk6 ⊢
  generalize w5.heap.size = B at hce hcb ⊢
  have HG6 : Hid (GRel w6 (2, 1, .slice (some ⟨B, 0, none⟩) 2 2) G0) := Lib.hid ⟨rfl, rfl, RSl.of_cells (enc := pairV) (n := 2) (l := G0.ext) pairV_len hcb (Nat.le_refl _) hce, by decide⟩
  have HX6 := Lib.hid (HX5.out.kept hk6); have HST6 := Lib.hid (HST5.out.kept hk6); have HK6 := Lib.hid (HK5.out.trans hk6)
  clear hce hcb hk6 HX5 HST5 HK5
  refine Stop.mk ?_
  refine wpList_rec_make rfl _ _ rfl 2 1 (some ⟨B, 0, none⟩) 2 2 rfl rfl ?_
  have hraw : raw = [] := List.eq_nil_of_length_eq_zero (HST6.out.rel.len.trans rfl)
  have happ := st_Apply (rcMake (2, 1, .slice (some ⟨B, 0, none⟩) 2 2)) (rcv_len _ _ _ _ _ _ _ _ _ _ _) (grW G0) (if false then 9 else 0) S0 S1 sm sg sp sd raw w6 HST6.out
    (fun W hk => record_make _ G0 W (HG6.out.kept hk) (by decide))
    (fun _ _ => step_make S0 _ G0 0 false w6 HG6.out (by decide) (by decide) (fun r hr => by
      have : r = [] := by simpa using (show r.map (fun x => x.1) = [] from hr)
      rw [this]; exact find_empty 2) (fun r hr => by
      have : r = [] := List.eq_nil_of_length_eq_zero hr
      rw [this]; exact ins_end [] (by decide)))
  rw [s0_make] at happ
  have HAPP := Lib.hid happ; clear happ hraw
  go_wp2_with fail
  refine Calls.mono HAPP.out ?_
  rintro e w7 ⟨cells7, rfl, hm7, hk7, hl7, ho7⟩
  obtain ⟨sm7, sg7, sp7, sd7, raw7, rfl, hst7⟩ := hm7 trivial
  have HST7 := Lib.hid hst7; have HK7 := Lib.hid (HK6.out.trans hk7)
  have HL7 := Lib.hid hl7; have HO7 := Lib.hid ho7
  clear hk7 hl7 ho7 hm7 hst7 HX6 HST6 HK6 HAPP HG6
  go_wp2_with (refine stop_at (o := ⟨some 5, .alloc _, _, _, _, _⟩) ?_)
  refine Stop.mk ?_
  refine wpList_new_state rfl rfl _ _ rfl rfl (stC S1 sm7 sg7 sp7 sd7) rfl HL7.out HO7.out rfl ?_
  intro w8 hz8 hk8
  generalize w7.heap.size = Z8 at hz8 ⊢
  have HX8 := Lib.hid (Cells.of_block hz8.out : Cells w8 Z8 0 (stC S1 sm7 sg7 sp7 sd7))
  have HST8 := Lib.hid (HST7.out.kept hk8); have HK8 := Lib.hid (HK7.out.trans hk8)
  clear hz8 hk8 HST7 HK7 HO7
  go_wp2_with (refine stop_at (o := ⟨some 31, _, _, _, _, _⟩) ?_)
  refine Stop.mk ?_
  refine wpList_load_agg rfl _ rfl agT_state Z8 0 rfl _ HX8.out HL7.out ?_
  have HBY := Lib.hid (st_Bytes S1 sm7 sg7 sp7 sd7 raw7 w8 HST8.out s1_right (by rfl) s1_ok (by decide))
  go_wp2_with fail
  refine Calls.mono HBY.out ?_
  rintro e w9 ⟨⟨ax, cc, rfl⟩, hk9⟩
  rw [s1_len]
  have HX9 := Lib.hid (HX8.out.kept hk9); have HST9 := Lib.hid (HST8.out.kept hk9); have HK9 := Lib.hid (HK8.out.trans hk9)
  clear hk9 HX8 HST8 HK8 HBY
  obtain ⟨og, cg, hsg, _⟩ := HST9.out.gs.form
  have hrl : raw7.length = 1 := HST9.out.rel.len.trans rfl
  rw [hrl] at hsg
  subst hsg
  have c2 : w9.cell? ⟨Z8, 2, none⟩ = some (.slice og 1 cg) := (stv_cells (HX9.out : Cells w9 Z8 0 (stC S1 sm7 _ sp7 sd7))).2.2.1
  clear hrl
  go_wp2_with (refine stop_at (o := ⟨some 61, _, _, _, _, _⟩) ?_)
  refine Stop.mk ?_
  refine wpList_load_aggW _ rfl agT_state Z8 0 rfl _ HX9.out (st_len HST9.out) rfl ?_
  have HRI := Lib.hid (st_Right S1 sm7 _ sp7 sd7 raw7 w9 HST9.out)
  go_wp2_with fail
  refine Calls.mono HRI.out ?_
  rintro e w10 ⟨rfl, hk10⟩
  rw [s1_right]
  have HK10 := Lib.hid (HK9.out.trans hk10)
  go_wp2
  go_ret
  exact ⟨rfl, HK10.out⟩
end Go.Proofs.YtiijfocdjcjlaaaGreat
