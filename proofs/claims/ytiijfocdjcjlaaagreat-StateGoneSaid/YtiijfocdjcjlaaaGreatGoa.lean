/- StateGone in plain Lean: a member that is gone; state.step at members. -/
import Derived.Test.YtiijfocdjcjlaaaGreatHla
namespace Go.Proofs.YtiijfocdjcjlaaaGreat
open Go.RowKit Go.ChangeMaps Go.MapKept
set_option linter.unusedVariables false
set_option linter.unusedSimpArgs false
set_option maxRecDepth 100000
set_option maxHeartbeats 1000000
def membersS (s : St) (l : List Mb) : St := { s with ms := l }
theorem step_members (wx : World) (s : St) (l : List Mb) (vm : Value) (hlen : l.length ≤ 4096) (hm : RSl trip 3 wx vm l) : StepC wx (rcMembers vm) s 0 (membersS s l) := by
  intro X b0 base b1 b2 b3 b4 sm sg sp sd raw w hkx _ hO hX0 hX1 hX
  have hl0 := hO.le0; have hl1 := hO.le1; have hl2 := hO.le2; have hl3 := hO.le3; have hl4 := hO.le4; have hl5 := hO.le5
  have HO := Lib.hid hO; have HX := Lib.hid hX; have HM := Lib.hid (hm.kept hkx)
  have HL := Lib.hid (show (stC s sm sg sp sd).length = 136 from stv_len (plv_len hO.plug))
  obtain ⟨om, cm, rfl, _⟩ := hm.form
  clear hO hX hm hkx
  go_enter Tryz.func37, Tryz.ntmps37
  go_wp2_with (refine stop_at (o := ⟨some 3, _, _, _, _, _⟩) ?_)
  refine Stop.mk ?_
  refine wpList_box_rowS rfl _ _ rfl (rcMembers (.slice om l.length cm)) rfl ?_
  intro w1 hz1 hs1 hk1
  obtain ⟨rb, hrb⟩ : ∃ rb, rb = w.heap.size := ⟨_, rfl⟩
  rw [← hrb] at hz1 ⊢
  have c0 : w1.cell? ⟨rb, 0, none⟩ = some (.int .i64 9) := (Cells.of_block hz1.out) 0 (by show 0 < 142; decide)
  have c8 : w1.cell? ⟨rb, 141, none⟩ = some (.slice om l.length cm) := (Cells.of_block hz1.out) 141 (by show 141 < 142; decide)
  have HK1 := Lib.hid hk1
  have HX1 := Lib.hid (hk1.block HX.out)
  have hcl := cln_m l (.slice om l.length cm) w1 hlen (HM.out.kept hk1)
  have HCL := Lib.hid hcl
  clear hz1 hs1 hk1 hrb hcl
  go_wp2_with fail
  refine Calls.mono HCL.out ?_
  rintro e w2 ⟨vm', rfl, ha, ho, _, hk2⟩
  have hown := Own.of_clone ha ho
  obtain ⟨om', cm', rfl⟩ := hown.form
  have HOWN := Lib.hid hown
  have HX2 := Lib.hid (hk2.block HX1.out)
  have HK2 := Lib.hid (HK1.out.trans hk2)
  have HS1 := Lib.hid (show b4 ≤ w1.heap.size by have := HK1.out.size; omega)
  clear ha ho hk2 hown HCL HX1
  go_wp2_with (refine stop_at (o := ⟨none, .store _ _ _, _, _, _, _⟩) ?_)
  refine Stop.mk ?_
  refine wpList_set_cell rfl _ _ rfl size_mbsT X 1 rfl (.slice om' l.length cm') rfl rfl rfl _ _ HX2.out (by rw [HL.out]; decide) ?_
  intro w3 hw3
  rw [stC_set1 s (membersS s l) sm sg sp sd _ rfl rfl] at hw3
  have hb3 : But (fun k => k = X) w2 w3 := But.wrote hw3 rfl
  have HW3 := Lib.hid hw3.blk
  have HALL : Hid (But (fun k => k = X ∨ (base ≤ k ∧ k < b4)) w w3) := Lib.hid ((But.kept HK2.out).trans (hb3.mono fun k hk => by omega))
  have h := HO.out
  have hs1 := HS1.out
  have HST : Hid (∀ W', But (fun k => b0 ≤ k ∧ k < base) w3 W' → StM W' (membersS s l) (.slice om' l.length cm') sg sp sd raw) := Lib.hid fun W' hbW =>
    { ms := ((HOWN.out.but hb3 (fun k hk => .inl (by omega))).but hbW (fun k hk => .inl (by omega))).rsl trip_len
      gs := (((h.g.kept HK2.out).but hb3 (fun k hk => .inl (by omega))).but hbW (fun k hk => .inl (by omega))).rsl grw_len
      rel := h.ext W' ((HALL.out.mono fun k hk => by omega).trans (hbW.mono fun k hk => by omega))
      mp := (((h.p.kept HK2.out).but hb3 (fun k hk => .inl (by omega))).but hbW (fun k hk => .inl (by omega))).rsl trip_len
      dirty := (((h.d.kept HK2.out).but hb3 (fun k hk => .inl (by omega))).but hbW (fun k hk => .inl (by omega))).rsl oneV_len
      plug := h.plug
      lms := hlen
      lgs := h.lgs
      lmp := h.lmp
      ldi := h.ldi }
  clear hw3 hb3 h hs1
  go_wp2
  go_ret
  exact ⟨rfl, fun _ => ⟨_, _, _, _, _, HW3.out, HST.out⟩, HALL.out⟩

/-- is an extent of this member there? -/
def neededB (gs : List Grp) (d : Int) : Bool := gs.any fun g => g.ext.any fun x => x.1 == d
def goneL (ms : List Mb) (i : Nat) : List Mb := match ms[i]? with | none => ms | some m => ms.set i (m.1, m.2.1, 2)
theorem gone_len (ms : List Mb) (i : Nat) : (goneL ms i).length = ms.length := by
  unfold goneL; split <;> simp
theorem gone_map (ms : List Mb) (i : Nat) : (goneL ms i).map (·.1) = ms.map (·.1) := by
  unfold goneL
  cases h : ms[i]? with
  | none => rfl
  | some m =>
    simp only
    rw [List.map_set]
    apply List.ext_getElem?
    intro k
    rw [List.getElem?_set]
    by_cases hk : i = k
    · subst hk
      obtain ⟨h1, h2⟩ := List.getElem?_eq_some_iff.1 h
      simp [h1, h2]
    · rw [if_neg hk]
theorem gone_at {ms : List Mb} {i : Nat} (hi : i < ms.length) : goneL ms i = ms.set i (ms[i].1, ms[i].2.1, 2) := by
  unfold goneL; rw [List.getElem?_eq_getElem hi]
theorem gone_all {ms : List Mb} {i : Nat} (p : Mb → Bool) (hp : ∀ m ∈ ms, p m = true → p (m.1, m.2.1, 2) = true) (h : ms.all p = true) : (goneL ms i).all p = true := by
  unfold goneL
  split
  · exact h
  · rename_i m hm
    rw [List.all_eq_true] at h ⊢
    intro x hx
    rcases List.mem_or_eq_of_mem_set hx with hx | rfl
    · exact h x hx
    · exact hp m (List.mem_of_getElem? hm) (h m (List.mem_of_getElem? hm))
/-- another member is found as it was; this one is gone -/
theorem gone_find : ∀ (ms : List Mb) (i : Nat) (hi : i < ms.length) (d : Int), (ms.map (·.1)).Pairwise (· < ·) →
    (goneL ms i).find? (fun m => m.1 == d) = if ms[i].1 = d then some (ms[i].1, ms[i].2.1, 2) else ms.find? (fun m => m.1 == d)
  | [], i, hi, d, _ => by cases hi
  | m :: ms, 0, hi, d, h => by
    rw [gone_at (by simp)]
    simp only [List.getElem_cons_zero, List.set_cons_zero, List.find?_cons]
    by_cases hd : m.1 = d
    · rw [if_pos hd]; simp [hd]
    · rw [if_neg hd]
      have hb : (m.1 == d) = false := by simpa using hd
      rw [hb]
  | m :: ms, i + 1, hi, d, h => by
    rw [List.map_cons, List.pairwise_cons] at h
    have hi2 : i < ms.length := by simpa using hi
    have ih := gone_find ms i hi2 d h.2
    rw [gone_at hi2] at ih
    rw [gone_at (by simpa using hi)]
    simp only [List.getElem_cons_succ, List.set_cons_succ, List.find?_cons]
    have hlt := h.1 ms[i].1 (List.mem_map.2 ⟨_, List.getElem_mem hi2, rfl⟩)
    by_cases hd : m.1 = d
    · have hne : ¬ ms[i].1 = d := by omega
      rw [if_neg hne]; simp [hd]
    · have hb : (m.1 == d) = false := by simpa using hd
      rw [hb]
      exact ih
theorem gone_exB {ms : List Mb} {i : Nat} (hi : i < ms.length) (hr : (ms.map (·.1)).Pairwise (· < ·)) (x : Ex) : exB (goneL ms i) x = (exB ms x && !(x.1 == ms[i].1)) := by
  unfold exB
  rw [gone_find ms i hi x.1 hr]
  by_cases hd : ms[i].1 = x.1
  · rw [if_pos hd, hd]; simp
  · rw [if_neg hd]
    have : (x.1 == ms[i].1) = false := by simpa using fun e => hd e.symm
    rw [this]; simp
theorem gone_exs {ms : List Mb} {i : Nat} (hi : i < ms.length) (hr : (ms.map (·.1)).Pairwise (· < ·)) : ∀ (l seen : List Ex), exsB (goneL ms i) seen l = if l.any (fun x => x.1 == ms[i].1) then none else exsB ms seen l
  | [], seen => rfl
  | x :: l, seen => by
    rw [exsB, exsB, gone_exB hi hr, List.any_cons, gone_exs hi hr l]
    cases hx : x.1 == ms[i].1 with
    | true => simp
    | false =>
      rw [Bool.not_false, Bool.and_true, Bool.false_or]
      generalize (exB ms x && !seen.contains x) = c
      cases c with
      | true => rfl
      | false => simp only [Bool.false_eq_true, if_false, ite_self]
theorem gone_grp {ms : List Mb} {i : Nat} (hi : i < ms.length) (hr : (ms.map (·.1)).Pairwise (· < ·)) (seen : List Ex) (g : Grp) : grpB (goneL ms i) seen g = if g.ext.any (fun x => x.1 == ms[i].1) then none else grpB ms seen g := by
  unfold grpB
  rw [gone_exs hi hr]
  cases h : g.ext.any (fun x => x.1 == ms[i].1) with
  | true => simp
  | false => simp
theorem gone_grps {ms : List Mb} {i : Nat} (hi : i < ms.length) (hr : (ms.map (·.1)).Pairwise (· < ·)) : ∀ (gs : List Grp) (seen : List Ex), grpsB (goneL ms i) seen gs = if neededB gs ms[i].1 then none else grpsB ms seen gs
  | [], seen => rfl
  | g :: gs, seen => by
    rw [grpsB, grpsB, gone_grp hi hr]
    unfold neededB
    rw [List.any_cons]
    cases h : g.ext.any (fun x => x.1 == ms[i].1) with
    | true => simp
    | false =>
      simp only [if_false, Bool.false_or, Bool.false_eq_true]
      cases h2 : grpB ms seen g with
      | none => simp
      | some s =>
        simp only
        rw [gone_grps hi hr gs s]
        rfl
theorem gone_right {s : St} (hr : rightS s = true) {i : Nat} (hi : i < s.ms.length) : rightS (membersS s (goneL s.ms i)) = !(neededB s.gs s.ms[i].1) := by
  have h := (rightS_iff s).1 hr
  have hp := (risesB_iff _).1 h.msr
  have hg := gone_grps hi hp s.gs []
  cases hn : neededB s.gs s.ms[i].1 with
  | true =>
    rw [hn, if_pos rfl] at hg
    rw [Bool.not_true, Bool.eq_false_iff]
    intro h2
    have h3 := ((rightS_iff _).1 h2).grps
    have e : grpsB (membersS s (goneL s.ms i)).ms [] (membersS s (goneL s.ms i)).gs = grpsB (goneL s.ms i) [] s.gs := rfl
    rw [e, hg] at h3
    cases h3
  | false =>
    rw [hn, if_neg (by decide)] at hg
    rw [Bool.not_false, rightS_iff]
    exact { blocks := h.blocks, mplen := h.mplen, few := h.few
            mslen := by show inN ((goneL s.ms i).length : Int) 3 12 = true; rw [gone_len]; exact h.mslen
            mbs := gone_all mbB (fun m _ hm => by
              unfold mbB inN at hm ⊢
              simp only [Bool.and_eq_true, decide_eq_true_eq] at hm ⊢
              exact ⟨hm.1, hm.2.1, by decide⟩) h.mbs
            msr := by show risesB ((goneL s.ms i).map (·.1)) = true; rw [gone_map]; exact h.msr
            gsr := h.gsr
            grps := by show (grpsB (goneL s.ms i) [] s.gs).isSome = true; rw [hg]; exact h.grps
            mapped := h.mapped, dirty := h.dirty, drises := h.drises, plug := h.plug }
theorem gone_ok {s : St} (hr : rightS s = true) {i : Nat} (hi : i < s.ms.length) : (okMany 12 (goneL s.ms i).length && (goneL s.ms i).all mbW) = true := by
  have h := (rightS_iff s).1 hr
  have hl := h.mslen
  unfold inN at hl
  simp only [Bool.and_eq_true, decide_eq_true_eq] at hl
  rw [Bool.and_eq_true]
  constructor
  · rw [gone_len]
    unfold okMany
    have h1 : mayPut (s.ms.length : Int) 1 = true := (mayPut_iff _ _).2 ⟨by decide, by decide, by omega, by show (s.ms.length : Int) < 256; omega⟩
    have h2 : decide ((12 : Int) < (s.ms.length : Int)) = false := decide_eq_false (by omega)
    rw [h1, h2]; rfl
  · refine gone_all mbW (fun m _ hm => ?_) ?_
    · unfold mbW at hm ⊢
      simp only [Bool.and_eq_true] at hm ⊢
      exact ⟨hm.1, hm.2.1, by decide⟩
    · rw [List.all_eq_true]
      intro m hm
      have h3 := List.all_eq_true.1 h.mbs m hm
      unfold mbB inN at h3
      simp only [Bool.and_eq_true, decide_eq_true_eq] at h3
      unfold mbW
      simp only [Bool.and_eq_true, mayPut_iff]
      refine ⟨⟨by decide, by decide, by omega, by show m.1 < 256; omega⟩, ⟨by decide, by decide, by omega, by show m.2.1 < 65536; omega⟩, by decide, by decide, by omega, by show m.2.2 < 256; omega⟩
theorem gone_apply {s : St} (hr : rightS s = true) {i : Nat} (hi : i < s.ms.length) : applyE (okMany 12 (goneL s.ms i).length && (goneL s.ms i).all mbW) s 0 (membersS s (goneL s.ms i)) = if neededB s.gs s.ms[i].1 then 9 else 0 := by
  unfold applyE
  rw [gone_ok hr hi, hr, gone_right hr hi]
  cases neededB s.gs s.ms[i].1 <;> rfl
end Go.Proofs.YtiijfocdjcjlaaaGreat
