/- PiA: several texts in one: Sty Stg. -/
import Derived.Test.YtiijfocdjcjlaaaGreatPaA
import Derived.Test.YtiijfocdjcjlaaaGreatPgA
import Derived.Test.YtiijfocdjcjlaaaGreatPhA
import Derived.Test.YtiijfocdjcjlaaaGreatPcA
/- checker.extent. -/
namespace Go.Proofs.YtiijfocdjcjlaaaGreat
open Go.RowKit Go.ChangeMaps Go.MapKept
set_option linter.unusedVariables false
set_option linter.unusedSimpArgs false
set_option maxRecDepth 100000
set_option maxHeartbeats 1000000
/-- what checker.extent tells, and what it has seen then -/
def exF (ms : List Mb) (s : List Ex) (x : Ex) : Bool × List Ex :=
  match ms.find? (fun m => m.1 == x.1) with
  | none => (false, s)
  | some m => if m.2.2 == 2 then (false, s) else if s.contains x then (false, s) else (decide (114 ≤ x.2) && ((x.2 - 114) % 8 == 0 && decide (wrap64 (x.2 + 8) ≤ m.2.1)), x :: s)
theorem exF_one (ms : List Mb) (s : List Ex) (x : Ex) : (exF ms s x).1 = (exB ms x && !(s.contains x)) := by
  unfold exF exB
  cases ms.find? (fun m => m.1 == x.1) with
  | none => rfl
  | some m =>
    simp only
    cases m.2.2 == 2 <;> cases s.contains x <;> simp
theorem exF_two {ms : List Mb} {s : List Ex} {x : Ex} (h : (exF ms s x).1 = true) : (exF ms s x).2 = x :: s := by
  unfold exF at *
  cases hm : ms.find? (fun m => m.1 == x.1) with
  | none => rw [hm] at h; cases h
  | some m =>
    rw [hm] at h
    simp only at h ⊢
    cases h1 : m.2.2 == 2 with
    | true => rw [h1] at h; simp at h
    | false =>
      cases h2 : s.contains x with
      | true => rw [h1, h2] at h; simp at h
      | false => simp
theorem exsB_F (ms : List Mb) : ∀ (l : List Ex) (s : List Ex), exsB ms s l = if (allF (exF ms) s l).1 = true then some (allF (exF ms) s l).2 else none
  | [], s => by rw [exsB, allF_nil]; rfl
  | x :: l, s => by
    rw [exsB, allF_cons, ← exF_one]
    cases h : (exF ms s x).1 with
    | true => simp only [if_true]; rw [exF_two h]; exact exsB_F ms l (x :: s)
    | false => simp
/-- the map's block reads what was seen -/
def HeldE (f : Ex → Option Value) (s : List Ex) : Prop := ∀ x, f x = if s.contains x then some (.bool true) else none
theorem HeldE.push {f : Ex → Option Value} {s : List Ex} {x : Ex} (h : HeldE f s) : HeldE (updK f x (.bool true)) (x :: s) := fun y => by
  unfold updK
  by_cases e : y = x
  · subst e; simp
  · rw [if_neg e, h y, List.contains_cons]; simp [e]
/-- the checker while it goes through extents -/
structure ExI (w0 : World) (mb : Nat) (s : List Ex) (W : World) : Prop where
  but : But (fun k => k = mb) w0 W
  map : ∃ c f, KMap extK W mb c f ∧ HeldE f s
theorem ExI.keep {w0 : World} {mb : Nat} {s : List Ex} {W W' : World} (h : ExI w0 mb s W) (hk : Kept W W') : ExI w0 mb s W' := by
  obtain ⟨hb, c, f, hm, hf⟩ := h
  exact ⟨hb.keep hk, c, f, hm.kept hk, hf⟩
theorem keptX_but {S : Nat → Prop} {a b : World} (h : But S a b) : KeptX S a b := ⟨h.size, fun k hk hn => h.block k hk hn⟩
theorem zero_boolV (w : World) : (zeroValue 4).run Tryz.prog w = .ok (.bool false) w := by kernel_rfl
theorem tmod8_wrap (x : Int) : ((wrap64 (x - 114)).tmod 8 == 0) = ((x - 114) % 8 == 0) := by
  rw [Bool.eq_iff_iff, beq_iff_eq, beq_iff_eq]
  have h1 : wrap64 (x - 114) % 8 = (x - 114) % 8 := by unfold wrap64; omega
  rw [← h1, Int.tmod_eq_emod]
  generalize wrap64 (x - 114) = y
  split
  · simp
  · rename_i h
    simp only [not_or] at h
    have hd := h.2
    constructor
    · intro he
      omega
    · intro he
      exact absurd (Int.dvd_of_emod_eq_zero he) hd
section
variable {ops : Array Oper} {rest : List Oper} {o : Oper} {a : Act} {w : World} {K : Act → Prop}
theorem still_lookup_ext (hw : Region.wanted o (yielded ops a.tmps) = true) (m x : Operand) (ho : o.op = .lookup 63 m x false) {b c : Nat} {f : Ex → Option Value} (hm : a.eval m = .map (some b)) (n : Ex) (hx : a.eval x = extK.kv n) (hi : KMap extK w b c f) (v : Value) (hv : (f n).getD (.bool false) = v)
    (h : wpStill Tryz.prog ops w K rest (a.put o.dst v)) : wpStill Tryz.prog ops w K (o :: rest) a := by
  have hr := exec_lookupK m x false ho Tryz.underlying63 extLaw zero_boolV hm n hx hi
  refine wpStill_val hw (v := v) ?_ h
  rw [hr, ← hv]; rfl
/-- a region of reads, shut: no tactic looks into it -/
structure SB (P : Program) (ops : Array Oper) (w : World) (K : Act → Prop) (rest : List Oper) (a : Act) : Prop where
  out : wpStill P ops w K rest a
theorem SB.skip {P : Program} (hw : Region.wanted o (yielded ops a.tmps) = false) (h : SB P ops w K rest (a.put o.dst undef)) : SB P ops w K (o :: rest) a := ⟨by
  have h' := h.out
  unfold wpStill
  rw [if_neg (by rw [hw]; simp)]; exact h'⟩
theorem SB.val {P : Program} {v : Value} (hw : Region.wanted o (yielded ops a.tmps) = true) (hr : (execOp a.eval o).run P w = .ok (.value v) w) (h : SB P ops w K rest (a.put o.dst v)) : SB P ops w K (o :: rest) a := ⟨wpStill_val hw hr h.out⟩
theorem SB.nil {P : Program} (h : K a) : SB P ops w K [] a := ⟨wpStill_nil h⟩
theorem wp_still_all {P : Program} {Q : Exit → Act → World → Prop} {a : Act} {w : World} {id : Nat} {l : List Oper} (hm : P.follows .mixedOrders = true) (hB : Region.lexB .any l.toArray = true)
    (h : ∀ w1, Kept w w1 → w1.heap = w.heap → wpStill P l.toArray w1 (fun a' => Q .normal a' w1) l a) : (Code.region id l.toArray true).wp P Q a w :=
  wp_region_still hm hB (h w.drew (Kept.refl w).drew rfl)
end
theorem st_extent (ms : List Mb) (sm : Value) (C mb : Nat) (s : List Ex) (x : Ex) (w0 w : World) (hlen : ms.length ≤ 4096) (hC : C < w0.heap.size) (hCm : C ≠ mb) (hmb : mb < w0.heap.size)
    (hms : ∀ W, But (fun k => k = mb) w0 W → RSl trip 3 W sm ms) (c1 : w0.cell? ⟨C, 1, none⟩ = some sm) (cm : w0.cell? ⟨C, 136, none⟩ = some (.map (some mb))) (hI : ExI w0 mb s w) :
    Calls Tryz.prog 67 #[.pointer (some ⟨C, 0, none⟩), .agg (pairV x).toArray] w fun e w' => e = .returned (.bool (exF ms s x).1) ∧ ExI w0 mb (exF ms s x).2 w' ∧ But (fun k => k = mb) w w' := by
  obtain ⟨hbut, c, f, hmap, hheld⟩ := hI
  obtain ⟨om, cap, rfl, hcap⟩ := (hms w hbut).form
  have HMS := Lib.hid hms; clear hms
  have d1 := hbut.cell (by exact hCm) c1
  have dm := hbut.cell (by exact hCm) cm
  have HBW := Lib.hid hbut; have HMAP := Lib.hid hmap; have HHELD := Lib.hid hheld
  clear hbut hmap hheld c1 cm
  have hmw := Lib.hid (show mb < w.heap.size from HMAP.out.lt)
  simp only [pairV]
  go_enter Tryz.func67, Tryz.ntmps67
  go_wp2_with (refine stop_at (o := ⟨some 3, _, _, _, _, _⟩) ?_)
  refine Stop.mk ?_
  refine wpList_box_rowS rfl _ _ rfl (pairV x) rfl ?_
  intro w1 hz1 hs1 hk1
  have hcs := Cells.of_block hz1.out
  have x0 := hcs 0 (by rw [pairV_len]; decide)
  have x1 := hcs 1 (by rw [pairV_len]; decide)
  simp only [Nat.add_zero, Nat.zero_add, pairV, List.getElem_cons_zero, List.getElem_cons_succ] at x0 x1
  replace d1 := hk1.cell' d1
  replace dm := hk1.cell' dm
  have HK1 := Lib.hid hk1
  clear hz1 hcs hs1 hk1
  generalize w.heap.size = X at *
  have hidx := fun (W : World) (hk : Kept w W) (hc : W.cell? ⟨X, 0, none⟩ = some (.int .i64 x.1)) => st_ext_idx ms (.slice om ms.length cap) X x.1 W hlen (HMS.out W (HBW.out.keep hk)) hc
  have HIDX := Lib.hid hidx; clear hidx
  rcases idxP_cases (fun m : Mb => m.1 == x.1) ms with ⟨hi, hno⟩ | ⟨k, hk, hi, hp, hfind⟩
  · have hfn : ms.find? (fun m => m.1 == x.1) = none := by rw [List.find?_eq_none]; intro m hm; simp [hno m hm]
    have HF := Lib.hid (show exF ms s x = (false, s) by unfold exF; rw [hfn])
    rw [hi] at HIDX
    clear hi hno hfn
    go_upto_region 2 with (go_at_call 95; refine (HIDX.out _ HK1.out x0).mono ?_; rintro e w2 ⟨rfl, hk2⟩)
    have hk3 := Lib.hid (HK1.out.trans hk2)
    clear hk2
    go_quiet (fail)
    go_wp2
    go_ret
    rw [HF.out]
    exact ⟨rfl, (ExI.mk HBW.out ⟨c, f, HMAP.out, HHELD.out⟩).keep (hk3.out.drewN _), But.kept (hk3.out.drewN _)⟩
  · rw [hi] at HIDX
    have hkb : (0 : Int) ≤ (k : Int) := by omega
    have hkb2 : (k : Int) < (ms.length : Int) := by omega
    have hk0 : decide ((k : Int) < 0) = false := by simp
    clear hi
    obtain ⟨b, off, rfl, hb, hcs⟩ := (HMS.out _ HBW.out).at hk
    have m1 := hcs 1 (by rw [trip_len]; decide)
    have m2 := hcs 2 (by rw [trip_len]; decide)
    simp only [trip, List.getElem_cons_zero, List.getElem_cons_succ] at m1 m2
    have HM1 := Lib.hid m1; have HM2 := Lib.hid m2
    clear m1 m2 hcs
    obtain ⟨mid, hmid⟩ : ∃ m, m = ms[k] := ⟨_, rfl⟩
    rw [← hmid] at HM1 HM2 hfind
    have HFD := Lib.hid hfind
    have HMID := Lib.hid hmid
    clear hfind hmid hp
    go_upto_region 2 with (go_at_call 95; refine (HIDX.out _ HK1.out x0).mono ?_; rintro e w2 ⟨rfl, hk2⟩)
    replace d1 := hk2.cell' d1
    replace dm := hk2.cell' dm
    replace x0 := hk2.cell' x0
    replace x1 := hk2.cell' x1
    have hk3 := Lib.hid (HK1.out.trans hk2)
    have HM1' := Lib.hid (hk3.out.cell' HM1.out)
    have m2 := hk3.out.cell' HM2.out
    clear hk2 HM2
    cases hg : (mid.2.2 == 2) with
    | true =>
      have HF := Lib.hid (show exF ms s x = (false, s) by unfold exF; rw [HFD.out]; simp only; rw [hg]; rfl)
      clear HM1 HM1'
      go_quiet (fail)
      go_wp2
      go_ret
      rw [HF.out]
      exact ⟨rfl, (ExI.mk HBW.out ⟨c, f, HMAP.out, HHELD.out⟩).keep (hk3.out.drewN _), But.kept (hk3.out.drewN _)⟩
    | false =>
      have hfx := HHELD.out x
      cases hsx : s.contains x with
      | true =>
        have HF := Lib.hid (show exF ms s x = (false, s) by unfold exF; rw [HFD.out]; simp only; rw [hg, hsx]; rfl)
        rw [hsx] at hfx
        have HV := Lib.hid (show (f x).getD (.bool false) = .bool true by rw [hfx]; rfl)
        clear hfx hsx
        refine wp_still_all (by kernel_rfl) (by kernel_rfl) fun ws hks hhs => ?_
        replace d1 := hks.cell' d1
        replace dm := hks.cell' dm
        replace x0 := hks.cell' x0
        replace x1 := hks.cell' x1
        replace m2 := hks.cell' m2
        have HK4 := Lib.hid (hk3.out.trans hks)
        clear hks hhs
        iterate 20 still_step
        refine still_lookup_ext rfl _ _ rfl rfl x rfl (HMAP.out.kept HK4.out) _ HV.out ?_
        iterate 1 still_step
        refine wpStill_nil ?_
        go_wp2
        go_ret
        rw [HF.out]
        exact ⟨rfl, (ExI.mk HBW.out ⟨c, f, HMAP.out, HHELD.out⟩).keep HK4.out, But.kept HK4.out⟩
      | false =>
        have HF := Lib.hid (show exF ms s x = (decide (114 ≤ x.2) && ((x.2 - 114) % 8 == 0 && decide (wrap64 (x.2 + 8) ≤ mid.2.1)), x :: s) by unfold exF; rw [HFD.out]; simp only; rw [hg, hsx]; rfl)
        rw [hsx] at hfx
        have HV := Lib.hid (show (f x).getD (.bool false) = .bool false by rw [hfx]; rfl)
        clear hfx hsx
        refine wp_still_all (by kernel_rfl) (by kernel_rfl) fun ws hks hhs => ?_
        replace d1 := hks.cell' d1
        replace dm := hks.cell' dm
        replace x0 := hks.cell' x0
        replace x1 := hks.cell' x1
        replace m2 := hks.cell' m2
        have HK4 := Lib.hid (hk3.out.trans hks)
        clear hks hhs
        iterate 20 still_step
        refine still_lookup_ext rfl _ _ rfl rfl x rfl (HMAP.out.kept HK4.out) _ HV.out ?_
        iterate 1 still_step
        refine wpStill_nil ?_
        go_upto_region 4 with fail
        refine wp_still_tail 5 (by kernel_rfl) (by kernel_rfl) fun wt hkt hht => ?_
        simp only [List.take_succ_cons, List.take_zero, List.drop_succ_cons, List.drop_zero]
        replace d1 := hkt.cell' d1
        replace dm := hkt.cell' dm
        replace x0 := hkt.cell' x0
        replace x1 := hkt.cell' x1
        have HK5 := Lib.hid (HK4.out.trans hkt)
        clear hkt hht m2
        iterate 5 still_step
        refine wpStill_nil ?_
        refine wpList_update_km (K := extK) rfl _ _ _ rfl Tryz.underlying63 extLaw rfl x rfl (.bool true) rfl (HMAP.out.kept HK5.out) ?_
        intro o' hi'
        have hb : But (fun i => i = mb) wt (setBlock wt mb o') := But.setBlock (S := fun i => i = mb) (But.refl _ wt) o' (.inl rfl)
        have hXm : X ≠ mb := by have := hmw.out; omega
        replace d1 := hb.cell (by exact hCm) d1
        replace dm := hb.cell (by exact hCm) dm
        replace x0 := hb.cell (by exact hXm) x0
        replace x1 := hb.cell (by exact hXm) x1
        have HB := Lib.hid ((But.kept (S := fun i => i = mb) HK5.out).trans hb)
        have HI' := Lib.hid hi'
        clear hb hi'
        generalize setBlock wt mb o' = wu at *
        have hbm : RSl trip 3 wu (.slice (some ⟨b, off, none⟩) ms.length cap) ms := HMS.out _ (HBW.out.trans HB.out)
        obtain ⟨b', off', eb, _, hcs⟩ := hbm.at hk
        cases eb
        have HFIN : Hid (ExI w0 mb (x :: s) wu) := Lib.hid ⟨HBW.out.trans HB.out, _, _, HI'.out, HHELD.out.push⟩
        clear hXm
        have m1 := hcs 1 (by rw [trip_len]; decide)
        rw [← HMID.out] at m1
        simp only [trip, List.getElem_cons_zero, List.getElem_cons_succ] at m1
        clear hcs hbm
        have ht8 := tmod8_wrap x.2
        obtain ⟨y, hy⟩ : ∃ y, wrap64 (x.2 - 114) = y := ⟨_, rfl⟩
        obtain ⟨z, hz⟩ : ∃ z, wrap64 (x.2 + 8) = z := ⟨_, rfl⟩
        have HY := Lib.hid hy
        rw [hy] at ht8
        rw [hz] at HF
        have hy2 : IntKind.i64.wrap (x.2 - 114) = y := by rw [IntWalk.i64_left]; exact hy
        have hz2 : IntKind.i64.wrap (x.2 + 8) = z := by rw [IntWalk.i64_left]; exact hz
        go_upto_region 5 with fail
        refine wp_still_all (by kernel_rfl) (by kernel_rfl) fun wv hks hhs => ?_
        replace d1 := hks.cell' d1
        replace x1 := hks.cell' x1
        replace m1 := hks.cell' m1
        have HK6 := Lib.hid hks
        clear hks hhs x0 dm
        refine SB.out ?_
        refine SB.val (v := .pointer (some ⟨X, 1, none⟩)) (by rfl) ?_ ?_
        · go_simp; try (with_reducible rfl)
        simp only [Act.put, List.getElem_toArray, List.getElem_cons_succ, List.getElem_cons_zero, List.setIfInBounds_toArray, List.set_cons_zero, List.set_cons_succ]
        refine SB.val (v := .int .i64 x.2) (by rfl) ?_ ?_
        · go_simp; try (with_reducible rfl)
        simp only [Act.put, List.getElem_toArray, List.getElem_cons_succ, List.getElem_cons_zero, List.setIfInBounds_toArray, List.set_cons_zero, List.set_cons_succ]
        refine SB.val (v := .bool (decide (114 ≤ x.2))) (by rfl) ?_ ?_
        · go_simp; try (with_reducible rfl)
        simp only [Act.put, List.getElem_toArray, List.getElem_cons_succ, List.getElem_cons_zero, List.setIfInBounds_toArray, List.set_cons_zero, List.set_cons_succ]
        cases h1 : decide (114 ≤ x.2) with
        | false =>
          rw [h1] at HF
          clear ht8 hy hz hy2 hz2 HY
          refine SB.val (v := .bool false) (by rfl) ?_ ?_
          · go_simp; try (with_reducible rfl)
          simp only [Act.put, List.getElem_toArray, List.getElem_cons_succ, List.getElem_cons_zero, List.setIfInBounds_toArray, List.set_cons_zero, List.set_cons_succ]
          iterate 5 (refine SB.skip (by rfl) ?_; simp only [Act.put, List.getElem_toArray, List.getElem_cons_succ, List.getElem_cons_zero, List.setIfInBounds_toArray, List.set_cons_zero, List.set_cons_succ])
          refine SB.val (v := .bool false) (by rfl) ?_ ?_
          · go_simp; try (with_reducible rfl)
          simp only [Act.put, List.getElem_toArray, List.getElem_cons_succ, List.getElem_cons_zero, List.setIfInBounds_toArray, List.set_cons_zero, List.set_cons_succ]
          refine SB.val (v := .bool false) (by rfl) ?_ ?_
          · go_simp; try (with_reducible rfl)
          simp only [Act.put, List.getElem_toArray, List.getElem_cons_succ, List.getElem_cons_zero, List.setIfInBounds_toArray, List.set_cons_zero, List.set_cons_succ]
          iterate 13 (refine SB.skip (by rfl) ?_; simp only [Act.put, List.getElem_toArray, List.getElem_cons_succ, List.getElem_cons_zero, List.setIfInBounds_toArray, List.set_cons_zero, List.set_cons_succ])
          refine SB.val (v := .bool false) (by rfl) ?_ ?_
          · go_simp; try (with_reducible rfl)
          simp only [Act.put, List.getElem_toArray, List.getElem_cons_succ, List.getElem_cons_zero, List.setIfInBounds_toArray, List.set_cons_zero, List.set_cons_succ]
          refine SB.val (v := .bool false) (by rfl) ?_ ?_
          · go_simp; try (with_reducible rfl)
          simp only [Act.put, List.getElem_toArray, List.getElem_cons_succ, List.getElem_cons_zero, List.setIfInBounds_toArray, List.set_cons_zero, List.set_cons_succ]
          refine SB.nil ?_
          go_wp2
          go_ret
          rw [HF.out]
          exact ⟨rfl, HFIN.out.keep HK6.out, HB.out.keep HK6.out⟩
        | true =>
          rw [h1, ← ht8] at HF
          refine SB.val (v := .bool true) (by rfl) ?_ ?_
          · go_simp; try (with_reducible rfl)
          simp only [Act.put, List.getElem_toArray, List.getElem_cons_succ, List.getElem_cons_zero, List.setIfInBounds_toArray, List.set_cons_zero, List.set_cons_succ]
          refine SB.val (v := .pointer (some ⟨X, 1, none⟩)) (by rfl) ?_ ?_
          · go_simp; try (with_reducible rfl)
          simp only [Act.put, List.getElem_toArray, List.getElem_cons_succ, List.getElem_cons_zero, List.setIfInBounds_toArray, List.set_cons_zero, List.set_cons_succ]
          refine SB.val (v := .int .i64 x.2) (by rfl) ?_ ?_
          · go_simp; try (with_reducible rfl)
          simp only [Act.put, List.getElem_toArray, List.getElem_cons_succ, List.getElem_cons_zero, List.setIfInBounds_toArray, List.set_cons_zero, List.set_cons_succ]
          refine SB.val (v := .int .i64 y) (by rfl) ?_ ?_
          · go_simp; try (with_reducible rfl)
          simp only [Act.put, List.getElem_toArray, List.getElem_cons_succ, List.getElem_cons_zero, List.setIfInBounds_toArray, List.set_cons_zero, List.set_cons_succ]
          refine SB.val (v := .int .i64 (y.tmod 8)) (by rfl) ?_ ?_
          · go_simp; try (with_reducible rfl)
          simp only [Act.put, List.getElem_toArray, List.getElem_cons_succ, List.getElem_cons_zero, List.setIfInBounds_toArray, List.set_cons_zero, List.set_cons_succ]
          refine SB.val (v := .bool (y.tmod 8 == 0)) (by rfl) ?_ ?_
          · go_simp; try (with_reducible rfl)
          simp only [Act.put, List.getElem_toArray, List.getElem_cons_succ, List.getElem_cons_zero, List.setIfInBounds_toArray, List.set_cons_zero, List.set_cons_succ]
          cases h8 : (y.tmod 8 == 0) with
          | false =>
            rw [h8] at HF ht8
            clear ht8 hy hz hy2 hz2 HY
            refine SB.val (v := .bool false) (by rfl) ?_ ?_
            · go_simp; try (with_reducible rfl)
            simp only [Act.put, List.getElem_toArray, List.getElem_cons_succ, List.getElem_cons_zero, List.setIfInBounds_toArray, List.set_cons_zero, List.set_cons_succ]
            refine SB.val (v := .bool false) (by rfl) ?_ ?_
            · go_simp; try (with_reducible rfl)
            simp only [Act.put, List.getElem_toArray, List.getElem_cons_succ, List.getElem_cons_zero, List.setIfInBounds_toArray, List.set_cons_zero, List.set_cons_succ]
            iterate 13 (refine SB.skip (by rfl) ?_; simp only [Act.put, List.getElem_toArray, List.getElem_cons_succ, List.getElem_cons_zero, List.setIfInBounds_toArray, List.set_cons_zero, List.set_cons_succ])
            refine SB.val (v := .bool false) (by rfl) ?_ ?_
            · go_simp; try (with_reducible rfl)
            simp only [Act.put, List.getElem_toArray, List.getElem_cons_succ, List.getElem_cons_zero, List.setIfInBounds_toArray, List.set_cons_zero, List.set_cons_succ]
            refine SB.val (v := .bool false) (by rfl) ?_ ?_
            · go_simp; try (with_reducible rfl)
            simp only [Act.put, List.getElem_toArray, List.getElem_cons_succ, List.getElem_cons_zero, List.setIfInBounds_toArray, List.set_cons_zero, List.set_cons_succ]
            refine SB.nil ?_
            go_wp2
            go_ret
            rw [HF.out]
            exact ⟨rfl, HFIN.out.keep HK6.out, HB.out.keep HK6.out⟩
          | true =>
            rw [h8] at HF ht8
            clear ht8 hy hy2 HY
            refine SB.val (v := .bool true) (by rfl) ?_ ?_
            · go_simp; try (with_reducible rfl)
            simp only [Act.put, List.getElem_toArray, List.getElem_cons_succ, List.getElem_cons_zero, List.setIfInBounds_toArray, List.set_cons_zero, List.set_cons_succ]
            refine SB.val (v := .bool true) (by rfl) ?_ ?_
            · go_simp; try (with_reducible rfl)
            simp only [Act.put, List.getElem_toArray, List.getElem_cons_succ, List.getElem_cons_zero, List.setIfInBounds_toArray, List.set_cons_zero, List.set_cons_succ]
            refine SB.val (v := .pointer (some ⟨X, 1, none⟩)) (by rfl) ?_ ?_
            · go_simp; try (with_reducible rfl)
            simp only [Act.put, List.getElem_toArray, List.getElem_cons_succ, List.getElem_cons_zero, List.setIfInBounds_toArray, List.set_cons_zero, List.set_cons_succ]
            refine SB.val (v := .int .i64 x.2) (by rfl) ?_ ?_
            · go_simp; try (with_reducible rfl)
            simp only [Act.put, List.getElem_toArray, List.getElem_cons_succ, List.getElem_cons_zero, List.setIfInBounds_toArray, List.set_cons_zero, List.set_cons_succ]
            refine SB.val (v := .int .i64 z) (by rfl) ?_ ?_
            · go_simp; try (with_reducible rfl)
            simp only [Act.put, List.getElem_toArray, List.getElem_cons_succ, List.getElem_cons_zero, List.setIfInBounds_toArray, List.set_cons_zero, List.set_cons_succ]
            refine SB.val (v := .pointer (some ⟨C, 0, none⟩)) (by rfl) ?_ ?_
            · go_simp; try (with_reducible rfl)
            simp only [Act.put, List.getElem_toArray, List.getElem_cons_succ, List.getElem_cons_zero, List.setIfInBounds_toArray, List.set_cons_zero, List.set_cons_succ]
            refine SB.val (v := .pointer (some ⟨C, 0, none⟩)) (by rfl) ?_ ?_
            · go_simp; try (with_reducible rfl)
            simp only [Act.put, List.getElem_toArray, List.getElem_cons_succ, List.getElem_cons_zero, List.setIfInBounds_toArray, List.set_cons_zero, List.set_cons_succ]
            refine SB.val (v := .pointer (some ⟨C, 0, none⟩)) (by rfl) ?_ ?_
            · go_simp; try (with_reducible rfl)
            simp only [Act.put, List.getElem_toArray, List.getElem_cons_succ, List.getElem_cons_zero, List.setIfInBounds_toArray, List.set_cons_zero, List.set_cons_succ]
            refine SB.val (v := .pointer (some ⟨C, 1, none⟩)) (by rfl) ?_ ?_
            · go_simp; try (with_reducible rfl)
            simp only [Act.put, List.getElem_toArray, List.getElem_cons_succ, List.getElem_cons_zero, List.setIfInBounds_toArray, List.set_cons_zero, List.set_cons_succ]
            refine SB.val (v := .slice (some ⟨b, off, none⟩) ms.length cap) (by rfl) ?_ ?_
            · go_simp; try (with_reducible rfl)
            simp only [Act.put, List.getElem_toArray, List.getElem_cons_succ, List.getElem_cons_zero, List.setIfInBounds_toArray, List.set_cons_zero, List.set_cons_succ]
            refine SB.val (v := .int .i64 (k : Int)) (by rfl) ?_ ?_
            · go_simp; try (with_reducible rfl)
            simp only [Act.put, List.getElem_toArray, List.getElem_cons_succ, List.getElem_cons_zero, List.setIfInBounds_toArray, List.set_cons_zero, List.set_cons_succ]
            refine SB.val (v := .pointer (some ⟨b, off + k * 3, none⟩)) (by rfl) ?_ ?_
            · go_simp; try (with_reducible rfl)
            simp only [Act.put, List.getElem_toArray, List.getElem_cons_succ, List.getElem_cons_zero, List.setIfInBounds_toArray, List.set_cons_zero, List.set_cons_succ]
            refine SB.val (v := .pointer (some ⟨b, off + k * 3 + 1, none⟩)) (by rfl) ?_ ?_
            · go_simp; try (with_reducible rfl)
            simp only [Act.put, List.getElem_toArray, List.getElem_cons_succ, List.getElem_cons_zero, List.setIfInBounds_toArray, List.set_cons_zero, List.set_cons_succ]
            refine SB.val (v := .int .i64 mid.2.1) (by rfl) ?_ ?_
            · go_simp; try (with_reducible rfl)
            simp only [Act.put, List.getElem_toArray, List.getElem_cons_succ, List.getElem_cons_zero, List.setIfInBounds_toArray, List.set_cons_zero, List.set_cons_succ]
            refine SB.val (v := .bool (decide (z ≤ mid.2.1))) (by rfl) ?_ ?_
            · go_simp; try (with_reducible rfl)
            simp only [Act.put, List.getElem_toArray, List.getElem_cons_succ, List.getElem_cons_zero, List.setIfInBounds_toArray, List.set_cons_zero, List.set_cons_succ]
            refine SB.val (v := .bool (decide (z ≤ mid.2.1))) (by rfl) ?_ ?_
            · go_simp; try (with_reducible rfl)
            simp only [Act.put, List.getElem_toArray, List.getElem_cons_succ, List.getElem_cons_zero, List.setIfInBounds_toArray, List.set_cons_zero, List.set_cons_succ]
            refine SB.val (v := .bool (decide (z ≤ mid.2.1))) (by rfl) ?_ ?_
            · go_simp; try (with_reducible rfl)
            simp only [Act.put, List.getElem_toArray, List.getElem_cons_succ, List.getElem_cons_zero, List.setIfInBounds_toArray, List.set_cons_zero, List.set_cons_succ]
            refine SB.nil ?_
            go_wp2
            go_ret
            rw [HF.out]
            exact ⟨rfl, HFIN.out.keep HK6.out, HB.out.keep HK6.out⟩
end Go.Proofs.YtiijfocdjcjlaaaGreat
/- checker.group. -/
namespace Go.Proofs.YtiijfocdjcjlaaaGreat
open Go.RowKit Go.ChangeMaps Go.MapKept
set_option linter.unusedVariables false
set_option linter.unusedSimpArgs false
set_option maxRecDepth 100000
set_option maxHeartbeats 1000000
/-- block b is a map -/
def IsMap (w : World) (b : Nat) : Prop := ∃ es c, w.heap[b]? = some (.map es c)
theorem IsMap.off {w : World} {b : Nat} (h : IsMap w b) {p : Addr} {v : Value} (hc : w.cell? p = some v) : p.block ≠ b := by
  rintro rfl
  obtain ⟨es, c, h⟩ := h
  unfold World.cell? at hc
  rw [h] at hc
  cases hc
theorem But.cellM {w W : World} {b : Nat} (hb : But (fun k => k = b) w W) (hm : IsMap w b) {p : Addr} {v : Value} (hc : w.cell? p = some v) : W.cell? p = some v := hb.cell (fun e => hm.off hc e) hc
theorem RSl.butM {α : Type} {enc : α → List Value} {n b : Nat} {w W : World} {v : Value} {l : List α} (h : RSl enc n w v l) (hb : But (fun k => k = b) w W) (hm : IsMap w b) : RSl enc n W v l := by
  obtain ⟨oa, cap, e, hc, hh⟩ := h
  refine ⟨oa, cap, e, hc, fun k hl => ?_⟩
  obtain ⟨b', off, e2, hb', hcs⟩ := hh k hl
  exact ⟨b', off, e2, Nat.lt_of_lt_of_le hb' hb.size, fun j hj => hb.cellM hm (hcs j hj)⟩
theorem GRel.butM {w W : World} {b : Nat} {x : Gw} {g : Grp} (h : GRel w x g) (hb : But (fun k => k = b) w W) (hm : IsMap w b) : GRel W x g := ⟨h.id, h.kind, h.ext.butM hb hm, h.few⟩
theorem GRels.butM {w W : World} {b : Nat} {raw : List Gw} {gs : List Grp} (h : GRels w raw gs) (hb : But (fun k => k = b) w W) (hm : IsMap w b) : GRels W raw gs := ⟨h.len, fun k h1 h2 => (h.at_ k h1 h2).butM hb hm⟩
def grpF (ms : List Mb) (s : List Ex) (g : Grp) : Bool × List Ex :=
  if inN g.id 0 255 && apartD (g.ext.map (·.1)) then ((allF (exF ms) s g.ext).1 && kindB g, (allF (exF ms) s g.ext).2) else (false, s)
theorem grpB_F (ms : List Mb) (s : List Ex) (g : Grp) : grpB ms s g = if (grpF ms s g).1 then some (grpF ms s g).2 else none := by
  unfold grpB grpF
  cases h : inN g.id 0 255 && apartD (g.ext.map (·.1)) with
  | false => rfl
  | true =>
    simp only [if_true]
    rw [exsB_F]
    cases h1 : (allF (exF ms) s g.ext).1 with
    | false => simp
    | true => cases kindB g <;> simp
theorem grpsB_F (ms : List Mb) : ∀ (l : List Grp) (s : List Ex), (grpsB ms s l).isSome = (allF (grpF ms) s l).1
  | [], s => by rw [grpsB, allF_nil]; rfl
  | g :: l, s => by
    rw [grpsB, allF_cons, grpB_F]
    cases h : (grpF ms s g).1 with
    | true => simp only [if_true]; exact grpsB_F ms l _
    | false => simp
theorem fn_extent (ms : List Mb) (sm : Value) (C mb : Nat) (w0 : World) (hlen : ms.length ≤ 4096) (hmb : IsMap w0 mb) (hms : RSl trip 3 w0 sm ms) (c1 : w0.cell? ⟨C, 1, none⟩ = some sm) (cm : w0.cell? ⟨C, 136, none⟩ = some (.map (some mb))) :
    FnI Tryz.prog 67 #[.pointer (some ⟨C, 0, none⟩)] #[] (fun x => .agg (pairV x).toArray) (exF ms) (ExI w0 mb) (fun k => k = mb) := by
  refine ⟨fun _ _ => rfl, fun s x w1 h => ?_⟩
  have hmlt : mb < w0.heap.size := by obtain ⟨es, c, h⟩ := hmb; exact (Array.getElem?_eq_some_iff.1 h).1
  exact (st_extent ms sm C mb s x w0 w1 hlen (World.block_lt_of_cell? _ _ c1) (hmb.off c1) hmlt (fun W hb => hms.butM hb hmb) c1 cm h).mono (by rintro e w' ⟨rfl, h1, h2⟩; exact ⟨rfl, h1, keptX_but h2⟩)
theorem st_group (ms : List Mb) (sm : Value) (C mb : Nat) (s : List Ex) (x : Gw) (g : Grp) (w0 w : World) (hlen : ms.length ≤ 4096) (hmb : IsMap w0 mb) (hms : RSl trip 3 w0 sm ms) (c1 : w0.cell? ⟨C, 1, none⟩ = some sm) (cm : w0.cell? ⟨C, 136, none⟩ = some (.map (some mb))) (hx : GRel w0 x g) (hI : ExI w0 mb s w) :
    Calls Tryz.prog 29 #[.pointer (some ⟨C, 0, none⟩), .agg (grw x).toArray] w fun e w' => e = .returned (.bool (grpF ms s g).1) ∧ ExI w0 mb (grpF ms s g).2 w' ∧ KeptX (fun k => k = mb) w w' := by
  have hmm := @run_makeMap Tryz.prog
  obtain ⟨xid, xk, xe⟩ := x
  obtain ⟨h1, h2, hext, hfew⟩ := hx
  simp only at h1 h2 hext
  subst h1 h2
  obtain ⟨oe, ce, rfl, _⟩ := hext.form
  have hfn := fn_extent ms sm C mb w0 hlen hmb hms c1 cm
  have hall := fun (W : World) (h : ExI w0 mb s W) => all_x (exF ms) (ExI w0 mb) (fun k => k = mb) s g.ext 67 #[.pointer (some ⟨C, 0, none⟩)] #[] (.slice oe g.ext.length ce) W hfew (fun s w o h => h.keep ((Kept.refl _).alloc o)) (fun b hb => by subst hb; exact h.map.choose_spec.choose_spec.1.lt) (fun s W h => hext.butM h.but hmb) h hfn
  have HALL := Lib.hid hall
  have HEXT := Lib.hid (hext.butM hI.but hmb)
  have HI := Lib.hid hI
  have hmbw : mb < w.heap.size := hI.map.choose_spec.choose_spec.1.lt
  clear hfn hall hext hI hms c1 cm hmb
  simp only [grw]
  go_enter Tryz.func29, Tryz.ntmps29
  go_wp2_with (refine stop_at (o := ⟨some 3, _, _, _, _, _⟩) ?_)
  refine Stop.mk ?_
  refine wpList_box_rowS rfl _ _ rfl [.int .i64 g.id, .int .i64 g.kind, .slice oe g.ext.length ce] rfl ?_
  intro w1 hz1 hs1 hk1
  have hcs := Cells.of_block hz1.out
  have x0 := hcs 0 (by simp)
  have x1 := hcs 1 (by simp)
  have x2 := hcs 2 (by simp)
  simp only [Nat.add_zero, Nat.zero_add, List.getElem_cons_zero, List.getElem_cons_succ] at x0 x1 x2
  have hkA : Kept w1 (w1.alloc (.map #[] 0)) := (Kept.refl _).alloc _
  have hI0 := IMap.made w1
  replace x0 := hkA.cell' x0
  replace x1 := hkA.cell' x1
  replace x2 := hkA.cell' x2
  have HK1 := Lib.hid hk1
  have HKA := Lib.hid hkA
  have HI0 := Lib.hid hI0
  obtain ⟨X, hX⟩ : ∃ X, X = w.heap.size := ⟨_, rfl⟩
  have hXl : X < w1.heap.size := by omega
  have HXMB : Hid (X ≠ mb) := Lib.hid (by omega)
  clear hmbw
  rw [← hX] at x0 x1 x2 ⊢
  clear hz1 hk1 hs1 hcs hkA hI0 hX
  go_wp2
  obtain ⟨D, hD⟩ : ∃ D, D = w1.heap.size := ⟨_, rfl⟩
  rw [← hD] at hXl HI0 ⊢
  have HD := Lib.hid hD; clear hD
  generalize World.alloc w1 _ = wa at *
  have HX := Lib.hid (⟨x0, x1, x2⟩ : _ ∧ _ ∧ _); clear x0 x1 x2
  go_loopw [12] (fun i wr => ∃ k : Nat, k ≤ g.ext.length ∧ i = .int .i64 (k : Int) ∧ ∃ c f, Hid (Kept w1 wr ∧ But (fun i => i = D) wa wr ∧ IMap wr D c f ∧ ∀ n, (f n).isSome = ((g.ext.take k).map (·.1)).contains n)) (fun i _ => g.ext.length - (intOf i).toNat)
  case atStart => exact ⟨0, by omega, rfl, 0, _, Lib.hid ⟨HKA.out, But.refl _ _, HI0.out, fun n => by simp⟩⟩
  case round =>
    obtain ⟨k, hk, rfl, c, f, HR⟩ := hrel
    by_cases hlt : k < g.ext.length
    · obtain ⟨b, off, rfl, hb, hcs⟩ := HEXT.out.at hlt
      have hcs := hcs.kept (HK1.out.trans HR.out.1)
      have d0 := hcs 0 (by rw [pairV_len]; decide)
      have d1 := hcs 1 (by rw [pairV_len]; decide)
      simp only [Nat.add_zero, pairV, List.getElem_cons_zero, List.getElem_cons_succ] at d0 d1
      clear hcs
      go_wp2_with (refine wpList_update_im (o := ⟨none, .mapUpdate _ _ _ _, _, _, _, _⟩) rfl _ _ _ rfl Tryz.underlying110 Tryz.underlying3 rfl g.ext[k].1 rfl (.bool true) rfl (HR.out.2.2.1.kept ((Kept.refl _).alloc _)) ?_; intro o' hi')
      have hkr : Kept w1 (setBlock (wr.alloc (Obj.cells #[Value.int IntKind.i64 g.ext[k].1, Value.int IntKind.i64 g.ext[k].2] 39)) D o') := But.to_kept (HR.out.1.alloc _) (But.setBlock (S := fun i => i = D) (But.refl _ _) o' (.inl rfl)) (fun i hi => by subst hi; have := HD.out; omega)
      have hbr : But (fun i => i = D) wa (setBlock (wr.alloc (Obj.cells #[Value.int IntKind.i64 g.ext[k].1, Value.int IntKind.i64 g.ext[k].2] 39)) D o') := But.setBlock (HR.out.2.1.alloc _) o' (.inl rfl)
      have HKR := Lib.hid hkr; have HBR := Lib.hid hbr; have HI' := Lib.hid hi'
      clear hkr hbr hi' d0 d1
      generalize setBlock _ D o' = ws at *
      go_roundw
      case rel =>
        refine ⟨k + 1, by omega, by go_num, c + 1, _, Lib.hid ⟨HKR.out, HBR.out, HI'.out, fun n => ?_⟩⟩
        unfold upd
        rw [List.take_succ_eq_append_getElem hlt, List.map_append, List.contains_append]
        by_cases e : n = g.ext[k].1
        · subst e; simp
        · rw [if_neg e, HR.out.2.2.2 n]; simp [e]
      case measure => simp [intOf]; omega
    · have hct := HR.out.2.2.2
      rw [List.take_of_length_le (by omega)] at hct
      obtain ⟨cn, hlen2, hap⟩ := imap_len (ty := 3) HR.out.2.2.1 Tryz.underlying110 (g.ext.map (·.1)) hct
      rw [List.length_map] at hap
      have HLEN := Lib.hid hlen2
      have hXD : X ≠ D := by omega
      have x0 := HR.out.2.1.cell (by exact hXD) HX.out.1
      have x1 := HR.out.2.1.cell (by exact hXD) HX.out.2.1
      have x2 := HR.out.2.1.cell (by exact hXD) HX.out.2.2
      have HKW := Lib.hid (HK1.out.trans HR.out.1)
      have HIW := Lib.hid (HI.out.keep HKW.out)
      have hna := HALL.out wr HIW.out
      clear hct hlen2 HX HALL hXD HD HK1 HKA HI0 HR
      have hGF : grpF ms s g = if inN g.id 0 255 && apartD (g.ext.map (·.1)) then ((allF (exF ms) s g.ext).1 && kindB g, (allF (exF ms) s g.ext).2) else (false, s) := rfl
      cases hin : inN g.id 0 255 with
      | false =>
        have HF := Lib.hid (show grpF ms s g = (false, s) by rw [hGF, hin]; rfl)
        clear hGF hap hna
        go_wp2_with (go_at_call 21; refine (st_in _ _ _ _).mono ?_; rintro e w2 ⟨rfl, rfl⟩)
        go_ret
        rw [HF.out]
        exact ⟨rfl, HIW.out, KeptX.of HKW.out⟩
      | true =>
        rw [hin, Bool.true_and] at hGF
        go_wp2_with (first | (refine stop_at (o := ⟨some 26, _, _, _, _, _⟩) ?_) | (go_at_call 21; refine (st_in _ _ _ _).mono ?_; rintro e w2 ⟨rfl, rfl⟩))
        refine Stop.mk ?_
        refine wpList_len_map rfl _ rfl rfl HLEN.out ?_
        clear HLEN
        cases had : apartD (g.ext.map (·.1)) with
        | false =>
          have HF := Lib.hid (show grpF ms s g = (false, s) by rw [hGF, had]; rfl)
          rw [had] at hap
          have hne : ((cn : Int) != (g.ext.length : Int)) = true := by simp at hap ⊢; omega
          clear hGF had hna hap
          go_wp2
          go_ret
          rw [HF.out]
          exact ⟨rfl, HIW.out, KeptX.of HKW.out⟩
        | true =>
          rw [had] at hap hGF
          simp only [if_true] at hGF
          obtain rfl : cn = g.ext.length := by simpa using hap
          clear hap had
          generalize hr : allF (exF ms) s g.ext = r at *
          obtain ⟨rb, rs⟩ := r
          have hna2 : Calls Tryz.prog 66 #[.slice oe g.ext.length ce, .func (.func 67) #[.pointer (some ⟨C, 0, none⟩)] #[]] wr fun e w' => e = .returned (.bool rb) ∧ ExI w0 mb rs w' ∧ KeptX (fun k => k = mb) wr w' := hna
          have HNA := Lib.hid hna2
          clear hna hna2 hr
          go_wp2_with fail
          refine Calls.mono HNA.out ?_
          rintro e w3 ⟨rfl, hI3, hk3⟩
          replace x1 := hk3.cell x1 HXMB.out
          replace x2 := hk3.cell x2 HXMB.out
          have HI3 := Lib.hid hI3
          have HK3 := Lib.hid ((KeptX.of HKW.out).trans hk3)
          clear hI3 hk3
          cases rb with
          | false =>
            have HF := Lib.hid (show grpF ms s g = (false, rs) by rw [hGF]; rfl)
            clear hGF
            go_wp2
            go_ret
            rw [HF.out]
            exact ⟨rfl, HI3.out, HK3.out⟩
          | true =>
            have HF := Lib.hid (show grpF ms s g = (kindB g, rs) by rw [hGF]; rfl)
            clear hGF
            cases hk1 : (g.kind == 1) with
            | true =>
              have HB := Lib.hid (show kindB g = ((g.ext.length : Int) == 2) by unfold kindB; rw [hk1, if_pos rfl, Bool.eq_iff_iff]; simp; omega)
              go_wp2
              go_ret
              rw [HF.out]
              exact ⟨by rw [HB.out]; rfl, HI3.out, HK3.out⟩
            | false =>
              cases hk2 : (g.kind == 2) with
              | false =>
                have HB := Lib.hid (show kindB g = false by unfold kindB; rw [hk1, hk2]; rfl)
                go_wp2
                go_ret
                rw [HF.out]
                exact ⟨by rw [HB.out]; rfl, HI3.out, HK3.out⟩
              | true =>
                have HB := Lib.hid (show kindB g = inN g.ext.length 3 12 by unfold kindB; rw [hk1, hk2]; rfl)
                go_wp2_with (go_at_call 21; refine (st_in _ _ _ _).mono ?_; rintro e w2 ⟨rfl, rfl⟩)
                go_ret
                rw [HF.out]
                exact ⟨by rw [HB.out]; rfl, HI3.out, HK3.out⟩
end Go.Proofs.YtiijfocdjcjlaaaGreat
