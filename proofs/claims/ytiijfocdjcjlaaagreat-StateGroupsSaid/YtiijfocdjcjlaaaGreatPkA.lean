/- PkA: several texts in one: Srr. -/
import Derived.Test.YtiijfocdjcjlaaaGreatPiA
import Derived.Test.YtiijfocdjcjlaaaGreatPjA
import Derived.Test.YtiijfocdjcjlaaaGreatPcA
import Derived.Test.YtiijfocdjcjlaaaGreatPeA
import Derived.Test.YtiijfocdjcjlaaaGreatPfA
/- state.Right: it tells rightS. -/
namespace Go.Proofs.YtiijfocdjcjlaaaGreat
open Go.RowKit Go.ChangeMaps Go.MapKept
set_option linter.unusedVariables false
set_option linter.unusedSimpArgs false
set_option maxRecDepth 100000
set_option maxHeartbeats 1000000
/-- a state in memory: what its five first cells are, and the groups' rows -/
structure StM (W : World) (s : St) (sm sg sp sd : Value) (raw : List Gw) : Prop where
  ms : RSl trip 3 W sm s.ms
  gs : RSl grw 3 W sg raw
  rel : GRels W raw s.gs
  mp : RSl trip 3 W sp s.mp
  dirty : RSl oneV 1 W sd s.dirty
  plug : PlgOk s.plug
  lms : s.ms.length ≤ 4096
  lgs : s.gs.length ≤ 4096
  lmp : s.mp.length ≤ 4096
  ldi : s.dirty.length ≤ 4096
theorem StM.kept {W W' : World} {s : St} {sm sg sp sd : Value} {raw : List Gw} (h : StM W s sm sg sp sd raw) (hk : Kept W W') : StM W' s sm sg sp sd raw :=
  ⟨h.ms.kept hk, h.gs.kept hk, h.rel.kept hk, h.mp.kept hk, h.dirty.kept hk, h.plug, h.lms, h.lgs, h.lmp, h.ldi⟩
def stC (s : St) (sm sg sp sd : Value) : List Value := stv s.blocks sm sg sp sd (plv s.plug)
theorem GRels.one {W : World} {raw : List Gw} {gs : List Grp} (h : GRels W raw gs) : ∀ x ∈ raw, ∀ u ∈ grw x, u.oneCell' = true := by
  intro x hx u hu
  obtain ⟨k, hk, rfl⟩ := List.getElem_of_mem hx
  obtain ⟨oa, cap, he, _⟩ := (h.at_ k hk (by rw [← h.len]; exact hk)).ext.form
  simp only [grw, he, List.mem_cons, List.not_mem_nil, or_false] at hu
  rcases hu with rfl | rfl | rfl <;> rfl
theorem GRels.ids {W : World} : ∀ {raw : List Gw} {gs : List Grp}, GRels W raw gs → raw.map (fun x => x.1) = gs.map (·.id)
  | [], [], _ => rfl
  | x :: raw, [], h => by have := h.len; simp at this
  | [], g :: gs, h => by have := h.len; simp at this
  | x :: raw, g :: gs, h => by
    have h0 := (h.at_ 0 (by simp) (by simp)).id
    simp only [List.getElem_cons_zero] at h0
    rw [List.map_cons, List.map_cons, h0, h.tail.ids]
/-- the rows with the groups that they say -/
theorem GRels.pairs {W : World} : ∀ {raw : List Gw} {gs : List Grp}, GRels W raw gs → ∃ l : List (Gr W), l.map (fun x => x.1.1) = raw ∧ l.map (fun x => x.1.2) = gs
  | [], [], _ => ⟨[], rfl, rfl⟩
  | x :: raw, [], h => by have := h.len; simp at this
  | [], g :: gs, h => by have := h.len; simp at this
  | x :: raw, g :: gs, h => by
    have h0 := h.at_ 0 (by simp) (by simp)
    obtain ⟨l, h1, h2⟩ := h.tail.pairs
    exact ⟨⟨(x, g), h0⟩ :: l, congrArg (x :: ·) h1, congrArg (g :: ·) h2⟩
theorem RSl.map {α β : Type} {enc : β → List Value} {n : Nat} {W : World} {v : Value} {l : List α} {f : α → β} (h : RSl enc n W v (l.map f)) : RSl (fun x => enc (f x)) n W v l := by
  obtain ⟨oa, cap, e, hc, hh⟩ := h
  rw [List.length_map] at e hc
  refine ⟨oa, cap, e, hc, fun k hk => ?_⟩
  obtain ⟨b, off, e2, hb, hcs⟩ := hh k (by rw [List.length_map]; exact hk)
  rw [List.getElem_map] at hcs
  exact ⟨b, off, e2, hb, hcs⟩
theorem allF_map {α β σ : Type} (f : α → β) (h : σ → β → Bool × σ) : ∀ (l : List α) (s : σ), allF (fun s x => h s (f x)) s l = allF h s (l.map f)
  | [], s => rfl
  | x :: l, s => by rw [List.map_cons, allF_cons, allF_cons, allF_map f h l]
theorem all_group (ms : List Mb) (sm : Value) (C mb : Nat) (raw : List Gw) (gs : List Grp) (v : Value) (w : World) (hlen : ms.length ≤ 4096) (hlr : raw.length ≤ 4096) (hmb : IsMap w mb) (hms : RSl trip 3 w sm ms) (c1 : w.cell? ⟨C, 1, none⟩ = some sm) (cm : w.cell? ⟨C, 136, none⟩ = some (.map (some mb))) (hg : RSl grw 3 w v raw) (hr : GRels w raw gs) (hk : KMap extK w mb 0 (fun _ => none)) :
    Calls Tryz.prog 28 #[v, .func (.func 29) #[.pointer (some ⟨C, 0, none⟩)] #[]] w fun e w' => e = .returned (.bool (grpsB ms [] gs).isSome) ∧ But (fun k => k = mb) w w' := by
  obtain ⟨l, h1, h2⟩ := hr.pairs
  have hl : RSl grR 3 w v l := by
    have := hg
    rw [← h1] at this
    exact this.map
  refine (all_r (w0 := w) (fun s (x : Gr w) => grpF ms s x.1.2) (ExI w mb) (fun k => k = mb) [] l _ #[.pointer (some ⟨C, 0, none⟩)] #[] v w (by rw [← List.length_map, h1]; exact hlr) (fun s w o h => h.keep ((Kept.refl _).alloc o)) (fun b hb => by subst hb; exact hk.lt) (fun s W h => hl.butM h.but hmb) ⟨But.refl _ _, 0, _, hk, fun x => by simp⟩
    ⟨fun _ _ => rfl, fun s x w1 h => st_group ms sm C mb s x.1.1 x.1.2 w w1 hlen hmb hms c1 cm x.2 h⟩).mono ?_
  rintro e w' ⟨rfl, hI, hx⟩
  refine ⟨?_, hI.but⟩
  rw [grpsB_F, ← h2, allF_map (fun x : Gr w => x.1.2) (grpF ms)]
theorem st_Right (s : St) (sm sg sp sd : Value) (raw : List Gw) (w : World) (h : StM w s sm sg sp sd raw) :
    Calls Tryz.prog 10 #[.agg (stC s sm sg sp sd).toArray] w fun e w' => e = .returned (.bool (rightS s)) ∧ Kept w w' := by
  have hmm := @run_makeMap Tryz.prog
  have HLR := Lib.hid (h.rel.len)
  obtain ⟨om, cm, rfl, _⟩ := h.ms.form
  obtain ⟨og, cg, rfl, _⟩ := h.gs.form
  obtain ⟨op, cp, rfl, _⟩ := h.mp.form
  obtain ⟨od, cd, rfl, _⟩ := h.dirty.form
  have HH := Lib.hid h; clear h
  have hL : (stC s (.slice om s.ms.length cm) (.slice og raw.length cg) (.slice op s.mp.length cp) (.slice od s.dirty.length cd)).length = 136 := stv_len (plv_len HH.out.plug)
  have HL := Lib.hid hL; clear hL
  go_enter Tryz.func10, Tryz.ntmps10
  go_wp2_with (refine stop_at (o := ⟨some 1, _, _, _, _, _⟩) ?_)
  refine Stop.mk ?_
  refine wpList_box_rowS rfl _ _ rfl (stC s (.slice om s.ms.length cm) (.slice og raw.length cg) (.slice op s.mp.length cp) (.slice od s.dirty.length cd)) rfl ?_
  intro w1 hz1 hs1 hk1
  have hcs := Cells.of_block hz1.out
  obtain ⟨X, hX⟩ : ∃ X, X = w.heap.size := ⟨_, rfl⟩
  rw [← hX] at hcs hs1 ⊢
  have HCS := Lib.hid hcs
  have HK1 := Lib.hid hk1
  have HX := Lib.hid hX
  have HS1 := Lib.hid hs1
  clear hz1 hcs hk1 hX hs1
  go_wp2_with (refine stop_at (o := ⟨some 5, _, _, _, _, _⟩) ?_)
  refine Stop.mk ?_
  refine wpList_load_agg rfl _ rfl agT_state X 0 rfl _ HCS.out HL.out ?_
  go_wp2_with (refine stop_at (o := ⟨some 7, _, _, _, _, _⟩) ?_)
  refine Stop.mk ?_
  have hkm : KMap extK (w1.alloc (.map #[] 0)) w1.heap.size 0 (fun _ => none) := KMap.made w1
  have hkA : Kept w1 (w1.alloc (.map #[] 0)) := (Kept.refl _).alloc _
  have hism : IsMap (w1.alloc (.map #[] 0)) w1.heap.size := ⟨_, _, heap_alloc_new w1 _⟩
  obtain ⟨mb, hmb⟩ : ∃ mb, mb = w1.heap.size := ⟨_, rfl⟩
  have hXm : X < mb := by have := HS1.out; omega
  have hwm : w.heap.size ≤ mb := by have := HX.out; omega
  rw [← hmb] at hkm hism ⊢
  have HK2 := Lib.hid (HK1.out.trans hkA)
  have HCS2 := Lib.hid (HCS.out.kept hkA)
  have HKM := Lib.hid hkm
  have HISM := Lib.hid hism
  clear hkm hism hkA HCS HK1 HS1 hmb
  generalize w1.alloc _ = w2 at *
  refine wpList_build_chk rfl _ _ rfl _ mb HL.out rfl rfl ?_
  refine wpList_box_rowS rfl _ _ rfl _ rfl ?_
  intro w3 hz3 hs3 hk3
  have hcc := Cells.of_block hz3.out
  obtain ⟨C, hC⟩ : ∃ C, C = w2.heap.size := ⟨_, rfl⟩
  rw [← hC] at hcc hs3 ⊢
  have e1 : w3.cell? ⟨C, 1, none⟩ = some (.slice om s.ms.length cm) := hcc 1 (by simp [HL.out])
  have e2 : w3.cell? ⟨C, 136, none⟩ = some (.map (some mb)) := by
    have := hcc 136 (by simp [HL.out])
    rw [Nat.zero_add] at this
    rw [this]
    simp [List.getElem_append_right, HL.out]
  have HCC := Lib.hid (⟨e1, e2⟩ : _ ∧ _)
  have HCS3 := Lib.hid (HCS2.out.kept hk3)
  have HC := Lib.hid (stv_cells HCS3.out)
  have HKM3 := Lib.hid (HKM.out.kept hk3)
  have HISM3 : Hid (IsMap w3 mb) := Lib.hid (by obtain ⟨es, c, hb⟩ := HISM.out; exact ⟨es, c, hk3.block hb⟩)
  have HK3 := Lib.hid (HK2.out.trans hk3)
  clear hk3 hz3 hs3 hcc hC e1 e2 HKM HISM HCS2 HK2 hmm
  obtain ⟨c0, c1, c2, c3, c4⟩ := HC.out
  cases hA : inN s.blocks 1 96 with
  | false =>
    have HF := Lib.hid (show rightS s = false by simp [rightS, hA])
    go_wp2_with (go_at_call 21; refine (st_in _ _ _ _).mono ?_; rintro e wi ⟨rfl, rfl⟩)
    go_ret
    exact ⟨by rw [HF.out]; rfl, HK3.out⟩
  | true =>
    have hbl : 1 ≤ s.blocks ∧ s.blocks ≤ 96 := by simp [inN] at hA; exact hA
    have HBL := Lib.hid hbl; clear hbl
    cases hB : ((s.mp.length : Int) != s.blocks) with
    | true =>
      have HF := Lib.hid (show rightS s = false by
        have : ((s.mp.length : Int) == s.blocks) = false := by simpa using hB
        simp [rightS, this])
      go_wp2_with (go_at_call 21; refine (st_in _ _ _ _).mono ?_; rintro e wi ⟨rfl, rfl⟩)
      go_ret
      exact ⟨by rw [HF.out]; rfl, HK3.out⟩
    | false =>
      have hB' : (s.mp.length : Int) = s.blocks := by simpa using hB
      have HMP := Lib.hid (show 1 ≤ s.mp.length ∧ s.mp.length ≤ 96 by have := HBL.out; omega)
      have HB := Lib.hid (show ((s.mp.length : Int) == s.blocks) = true by simpa using hB')
      clear hB'
      cases hC : decide ((24 : Int) < (raw.length : Int)) with
      | true =>
        have HF := Lib.hid (show rightS s = false by
          have : ¬ s.gs.length ≤ 24 := by have := HLR.out; simp at hC; omega
          simp [rightS, this])
        go_wp2_with (go_at_call 21; refine (st_in _ _ _ _).mono ?_; rintro e wi ⟨rfl, rfl⟩)
        go_ret
        exact ⟨by rw [HF.out]; rfl, HK3.out⟩
      | false =>
        have HG24 := Lib.hid (show decide (s.gs.length ≤ 24) = true by have := HLR.out; simp at hC ⊢; omega)
        cases hD : inN (s.ms.length : Int) 3 12 with
        | false =>
          have HF := Lib.hid (show rightS s = false by simp [rightS, hD])
          go_wp2_with (go_at_call 21; refine (st_in _ _ _ _).mono ?_; rintro e wi ⟨rfl, rfl⟩)
          go_ret
          exact ⟨by rw [HF.out]; rfl, HK3.out⟩
        | true =>
          go_wp2_with (go_at_call 21; refine (st_in _ _ _ _).mono ?_; rintro e wi ⟨rfl, rfl⟩)
          have hE := all_member s.ms (.slice om s.ms.length cm) w3 HH.out.lms (HH.out.ms.kept HK3.out)
          obtain ⟨bE, hbE⟩ : ∃ b, b = s.ms.all mbB := ⟨_, rfl⟩
          rw [← hbE] at hE
          refine Calls.mono hE ?_
          rintro e w4 ⟨rfl, hk4⟩
          clear hE
          replace c1 := hk4.cell' c1; replace c2 := hk4.cell' c2; replace c3 := hk4.cell' c3; replace c4 := hk4.cell' c4
          have HBE := Lib.hid hbE; clear hbE
          cases bE with
          | false =>
            have HF := Lib.hid (show rightS s = false by have := HBE.out; simp [rightS, ← this])
            go_wp2
            go_ret
            exact ⟨by rw [HF.out]; rfl, HK3.out.trans hk4⟩
          | true =>
            have hF := riz_m s.ms (.slice om s.ms.length cm) w4 HH.out.lms ((HH.out.ms.kept HK3.out).kept hk4) (fun x _ => trip_one x)
            obtain ⟨bF, hbF⟩ : ∃ b, b = risesB (s.ms.map fun x => x.1) := ⟨_, rfl⟩
            rw [← hbF] at hF
            have HCF := Lib.hid hF; have HBF := Lib.hid hbF; have HK4 := Lib.hid hk4; clear hF hbF hk4
            go_wp2_with fail
            refine Calls.mono HCF.out ?_
            rintro e w5 ⟨rfl, hk5⟩
            clear HCF
            replace c1 := hk5.cell' c1; replace c2 := hk5.cell' c2; replace c3 := hk5.cell' c3; replace c4 := hk5.cell' c4
            have HK5 := Lib.hid (HK4.out.trans hk5); clear hk5 HK4
            cases bF with
            | false =>
              have HF := Lib.hid (show rightS s = false by have := HBF.out; simp [rightS, ← this])
              go_wp2
              go_ret
              exact ⟨by rw [HF.out]; rfl, HK3.out.trans HK5.out⟩
            | true =>
              have hG := riz_g raw (.slice og raw.length cg) w5 (by rw [HLR.out]; exact HH.out.lgs) ((HH.out.gs.kept HK3.out).kept HK5.out) HH.out.rel.one
              rw [HH.out.rel.ids] at hG
              obtain ⟨bG, hbG⟩ : ∃ b, b = risesB (s.gs.map (·.id)) := ⟨_, rfl⟩
              rw [← hbG] at hG
              have HCF := Lib.hid hG; have HBG := Lib.hid hbG; clear hG hbG
              go_wp2_with fail
              refine Calls.mono HCF.out ?_
              rintro e w6 ⟨rfl, hk6⟩
              clear HCF
              replace c1 := hk6.cell' c1; replace c2 := hk6.cell' c2; replace c3 := hk6.cell' c3; replace c4 := hk6.cell' c4
              have HK6 := Lib.hid (HK5.out.trans hk6); clear hk6 HK5
              cases bG with
              | false =>
                have HF := Lib.hid (show rightS s = false by have := HBG.out; simp [rightS, ← this])
                go_wp2
                go_ret
                exact ⟨by rw [HF.out]; rfl, HK3.out.trans HK6.out⟩
              | true =>
                have hkw6 := HK3.out.trans HK6.out
                have hism6 : IsMap w6 mb := by obtain ⟨es, c, hb⟩ := HISM3.out; exact ⟨es, c, HK6.out.block hb⟩
                have hH := all_group s.ms (.slice om s.ms.length cm) C mb raw s.gs (.slice og raw.length cg) w6 HH.out.lms (by rw [HLR.out]; exact HH.out.lgs) hism6 (HH.out.ms.kept hkw6) (HK6.out.cell' HCC.out.1) (HK6.out.cell' HCC.out.2) (HH.out.gs.kept hkw6) (HH.out.rel.kept hkw6) (HKM3.out.kept HK6.out)
                obtain ⟨bH, hbH⟩ : ∃ b, b = (grpsB s.ms [] s.gs).isSome := ⟨_, rfl⟩
                rw [← hbH] at hH
                have HCF := Lib.hid hH; have HBH := Lib.hid hbH; have HKW6 := Lib.hid hkw6; clear hH hbH hism6 hkw6
                go_wp2_with fail
                refine Calls.mono HCF.out ?_
                rintro e w7 ⟨rfl, hk7⟩
                clear HCF
                have hXM : X ≠ mb := by omega
                replace c1 := hk7.cell hXM c1; replace c2 := hk7.cell hXM c2; replace c3 := hk7.cell hXM c3; replace c4 := hk7.cell hXM c4
                have hkw7 : Kept w w7 := But.to_kept HKW6.out hk7 (fun i hi => by subst hi; exact hwm)
                have HS7 : Hid (Cells w7 X 0 (stC s (.slice om s.ms.length cm) (.slice og raw.length cg) (.slice op s.mp.length cp) (.slice od s.dirty.length cd))) := Lib.hid (fun j hj => hk7.cell hXM ((HCS3.out.kept HK6.out) j hj))
                have HK7 := Lib.hid hkw7; clear hk7 HK6 hkw7 HKM3 HISM3 HCC hXM
                cases bH with
                | false =>
                  have HF := Lib.hid (show rightS s = false by have := HBH.out; simp [rightS, ← this])
                  go_wp2
                  go_ret
                  exact ⟨by rw [HF.out]; rfl, HK7.out⟩
                | true =>
                  have hI : Hid (∀ W, Kept w7 W → Cells W X 0 (stC s (.slice om s.ms.length cm) (.slice og raw.length cg) (.slice op s.mp.length cp) (.slice od s.dirty.length cd))) := Lib.hid (fun W hk => HS7.out.kept hk)
                  have hM := st_mapped s.blocks (.slice om s.ms.length cm) (.slice od s.dirty.length cd) (plv s.plug) (plv_len HH.out.plug) raw s.gs og cg s.mp (.slice op s.mp.length cp) w7 (by rw [HLR.out]; exact HH.out.lgs) (HH.out.gs.kept HK7.out) (HH.out.rel.kept HK7.out) (HH.out.mp.kept HK7.out) HMP.out.1 HMP.out.2
                  obtain ⟨bI, hbI⟩ : ∃ b, b = ((s.mp.all mayW && onceW s.mp) && s.mp.all fun x => x.1 == 0 || placeG s.gs x) := ⟨_, rfl⟩
                  rw [← hbI] at hM
                  have HCF := Lib.hid hM; have HBI := Lib.hid (show bI = mappedB s from hbI); clear hM hbI
                  go_wp2_with (refine stop_at (o := ⟨some 60, _, _, _, _, _⟩) ?_)
                  refine Stop.mk ?_
                  refine wpList_load_agg rfl _ rfl agT_state X 0 rfl _ HS7.out HL.out ?_
                  go_wp2_with fail
                  refine Calls.mono HCF.out ?_
                  rintro e w8 ⟨rfl, hk8⟩
                  clear HCF
                  replace c4 := hk8.cell' c4
                  have HS8 := Lib.hid (hI.out _ hk8)
                  have HK8 := Lib.hid (HK7.out.trans hk8); clear hk8 hI HS7 c1 c2 c3
                  cases bI with
                  | false =>
                    have HF := Lib.hid (show rightS s = false by have := HBI.out; simp [rightS, ← this])
                    go_wp2
                    go_ret
                    exact ⟨by rw [HF.out]; rfl, HK8.out⟩
                  | true =>
                    have hJ := all_dirty X s.blocks (.slice om s.ms.length cm) (.slice op s.mp.length cp) (.slice od s.dirty.length cd) (plv s.plug) (plv_len HH.out.plug) raw s.gs og cg w8 (by rw [HLR.out]; exact HH.out.lgs) (HH.out.gs.kept HK8.out) (HH.out.rel.kept HK8.out) HS8.out s.dirty (.slice od s.dirty.length cd) HH.out.ldi (HH.out.dirty.kept HK8.out)
                    obtain ⟨bJ, hbJ⟩ : ∃ b, b = s.dirty.all (dirtyG s.gs) := ⟨_, rfl⟩
                    rw [← hbJ] at hJ
                    have HCF := Lib.hid hJ; have HBJ := Lib.hid (show bJ = s.dirty.all (dirtyB s) from hbJ); clear hJ hbJ
                    go_wp2_with fail
                    refine Calls.mono HCF.out ?_
                    rintro e w9 ⟨rfl, hk9⟩
                    clear HCF
                    replace c4 := hk9.cell' c4
                    have HS9 := Lib.hid (HS8.out.kept hk9)
                    have HK9 := Lib.hid (HK8.out.trans hk9); clear hk9 HS8
                    cases bJ with
                    | false =>
                      have HF := Lib.hid (show rightS s = false by have := HBJ.out; simp [rightS, ← this])
                      go_wp2
                      go_ret
                      exact ⟨by rw [HF.out]; rfl, HK9.out⟩
                    | true =>
                      have hK := riz_i s.dirty (.slice od s.dirty.length cd) w9 HH.out.ldi (HH.out.dirty.kept HK9.out) (fun x _ u hu => by simp only [oneV, List.mem_singleton] at hu; subst hu; rfl)
                      rw [List.map_id'] at hK
                      obtain ⟨bK, hbK⟩ : ∃ b, b = risesB s.dirty := ⟨_, rfl⟩
                      rw [← hbK] at hK
                      have HCF := Lib.hid hK; have HBK := Lib.hid hbK; clear hK hbK
                      go_wp2_with fail
                      refine Calls.mono HCF.out ?_
                      rintro e w10 ⟨rfl, hk10⟩
                      clear HCF
                      have HS10 := Lib.hid (HS9.out.kept hk10)
                      have HK10 := Lib.hid (HK9.out.trans hk10); clear hk10 HS9 c4
                      cases bK with
                      | false =>
                        have HF := Lib.hid (show rightS s = false by have := HBK.out; simp [rightS, ← this])
                        go_wp2
                        go_ret
                        exact ⟨by rw [HF.out]; rfl, HK10.out⟩
                      | true =>
                        have hP := st_plug s.blocks (.slice om s.ms.length cm) (.slice od s.dirty.length cd) s.plug HH.out.plug raw s.gs og cg s.mp (.slice op s.mp.length cp) w10 (by rw [HLR.out]; exact HH.out.lgs) (HH.out.gs.kept HK10.out) (HH.out.rel.kept HK10.out) (HH.out.mp.kept HK10.out) HMP.out.2
                        obtain ⟨bL, hbL⟩ : ∃ b, b = plugG s.gs s.mp s.plug := ⟨_, rfl⟩
                        rw [← hbL] at hP
                        have HCF := Lib.hid hP; have HBL2 := Lib.hid (show bL = plugB s from hbL); clear hP hbL
                        have HFIN := Lib.hid (show rightS s = bL by
                          have h1 := HBE.out; have h2 := HBF.out; have h3 := HBG.out; have h4 := HBH.out; have h5 := HBI.out; have h6 := HBJ.out; have h7 := HBK.out; have h8 := HBL2.out; have h9 := HB.out; have h10 := HG24.out
                          unfold rightS
                          rw [hA, h9, h10, hD, ← h1, ← h2, ← h3, ← h4, ← h5, ← h6, ← h7, ← h8]; rfl)
                        go_wp2_with (refine stop_at (o := ⟨some 74, _, _, _, _, _⟩) ?_)
                        refine Stop.mk ?_
                        refine wpList_load_aggW _ rfl agT_state X 0 rfl _ HS10.out HL.out rfl ?_
                        go_wp2_with fail
                        refine Calls.mono HCF.out ?_
                        rintro e w11 ⟨rfl, hk11⟩
                        go_wp2
                        go_ret
                        exact ⟨by rw [HFIN.out]; rfl, HK10.out.trans hk11⟩
end Go.Proofs.YtiijfocdjcjlaaaGreat
