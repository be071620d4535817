/- slices.BinarySearchFunc at groups: where a number belongs among rising ones. -/
import Derived.Test.YtiijfocdjcjlaaaGreatHla
namespace Go.Proofs.YtiijfocdjcjlaaaGreat
open Go.RowKit Go.ChangeMaps Go.MapKept
set_option linter.unusedVariables false
set_option linter.unusedSimpArgs false
set_option maxRecDepth 100000
set_option maxHeartbeats 1000000
def posB (ids : List Int) (id : Int) : Nat := (ids.filter fun x => decide (x < id)).length
def atB (ids : List Int) (id : Int) : Bool := match ids[posB ids id]? with | some v => v == id | none => false
theorem pos_le (ids : List Int) (id : Int) : posB ids id ≤ ids.length := List.length_filter_le _ _
theorem pos_lt : ∀ (ids : List Int) (id : Int), ids.Pairwise (· < ·) → ∀ k (hk : k < ids.length), ids[k] < id ↔ k < posB ids id
  | [], id, _, k, hk => by cases hk
  | a :: l, id, h, k, hk => by
    rw [List.pairwise_cons] at h
    unfold posB
    by_cases ha : a < id
    · rw [List.filter_cons_of_pos (by simpa using ha), List.length_cons]
      rcases k with _ | k
      · simp only [List.getElem_cons_zero]; omega
      · simp only [List.getElem_cons_succ]
        have := pos_lt l id h.2 k (by simpa using hk)
        unfold posB at this
        omega
    · rw [List.filter_cons_of_neg (by simpa using ha)]
      have he : l.filter (fun x => decide (x < id)) = [] := by
        rw [List.filter_eq_nil_iff]
        intro x hx
        have := h.1 x hx
        simp; omega
      rw [he]
      rcases k with _ | k
      · simp only [List.getElem_cons_zero, List.length_nil]; omega
      · have hkl : k < l.length := by rw [List.length_cons] at hk; omega
        have := h.1 l[k] (List.getElem_mem hkl)
        simp only [List.getElem_cons_succ, List.length_nil]; omega
theorem at_no (ids : List Int) (id : Int) (h : ids.Pairwise (· < ·)) (ha : atB ids id = false) : id ∉ ids := by
  intro hm
  obtain ⟨k, hk, e⟩ := List.getElem_of_mem hm
  have h1 := pos_lt ids id h k hk
  have h2 : posB ids id ≤ k := by omega
  have hpl : posB ids id < ids.length := by omega
  have h3 := pos_lt ids id h (posB ids id) hpl
  have h4 : posB ids id = k := by
    rcases Nat.lt_or_ge (posB ids id) k with h5 | h5
    · have := List.pairwise_iff_getElem.1 h (posB ids id) k hpl hk h5
      omega
    · omega
  unfold atB at ha
  rw [List.getElem?_eq_getElem hpl] at ha
  simp only [beq_eq_false_iff_ne] at ha
  apply ha
  have : ids[posB ids id] = ids[k] := by congr 1
  rw [this, e]
theorem make1 (x : Gw) (id : Int) (w : World) (hx : 0 ≤ x.1 ∧ x.1 ≤ 255) (hid : 0 ≤ id ∧ id ≤ 255) :
    Calls Tryz.prog 112 #[.agg (grw x).toArray, .int .i64 id] w fun e w' => e = .returned (.int .i64 (x.1 - id)) ∧ Kept w w' := by
  have hB : ∀ o, Kept w (w.alloc o) := fun o => (Kept.refl _).alloc o
  have HB := Lib.hid hB; clear hB
  obtain ⟨h1, h2⟩ := hx
  obtain ⟨h3, h4⟩ := hid
  simp only [grw]
  go_enter Tryz.func112, Tryz.ntmps112
  go_wp2
  go_ret
  exact ⟨rfl, HB.out _⟩
theorem find_pos (raw : List Gw) (id : Int) (hs : (raw.map (fun x => x.1)).Pairwise (· < ·)) (hr : ∀ x ∈ raw, 0 ≤ x.1 ∧ x.1 ≤ 255) (hid : 0 ≤ id ∧ id ≤ 255) (hlen : raw.length ≤ 4096) :
    FindP raw id (posB (raw.map fun x => x.1) id) (atB (raw.map fun x => x.1) id) := by
  intro W v hm
  obtain ⟨oa, cap, rfl, _⟩ := hm.form
  obtain ⟨pos, hpos⟩ : ∃ pos, pos = posB (raw.map fun x => x.1) id := ⟨_, rfl⟩
  obtain ⟨f, hf⟩ : ∃ f, f = atB (raw.map fun x => x.1) id := ⟨_, rfl⟩
  rw [← hpos, ← hf]
  have HP := Lib.hid (show ∀ k (hk : k < raw.length), (raw[k]).1 < id ↔ k < pos from fun k hk => by
    have := pos_lt _ id hs k (by simpa using hk)
    rw [← hpos] at this
    simpa using this)
  have hpl : pos ≤ raw.length := by have := pos_le (raw.map fun x => x.1) id; rw [← hpos] at this; simpa using this
  have HF := Lib.hid (show ∀ (hk : pos < raw.length), f = ((raw[pos]).1 == id) from fun hk => by
    rw [hf]; unfold atB; rw [← hpos, List.getElem?_eq_getElem (by simpa using hk)]
    simp)
  have HF0 := Lib.hid (show pos = raw.length → f = false from fun hk => by
    rw [hf]; unfold atB; rw [← hpos, List.getElem?_eq_none (by simp; omega)])
  have HM := Lib.hid hm; have HR := Lib.hid hr; have HID := Lib.hid hid
  clear hm hs hr hpos hf hid
  go_enter Tryz.func111, Tryz.ntmps111
  go_wp2
  go_loopw [9, 10] (fun iv jv wr => ∃ i j : Nat, i ≤ pos ∧ pos ≤ j ∧ j ≤ raw.length ∧ iv = .int .i64 (i : Int) ∧ jv = .int .i64 (j : Int) ∧ Hid (Kept W wr)) (fun iv jv _ => (intOf jv).toNat - (intOf iv).toNat)
  case atStart => exact ⟨0, raw.length, Nat.zero_le _, hpl, Nat.le_refl _, rfl, rfl, Lib.hid (Kept.refl _)⟩
  case round =>
    obtain ⟨i, j, hi, hj, hjl, rfl, rfl, HK⟩ := hrel
    by_cases hij : i < j
    · obtain ⟨h, hh⟩ : ∃ h, h = (i + j) / 2 := ⟨_, rfl⟩
      have h1 : i ≤ h := by omega
      have h2 : h < j := by omega
      have hlr : h < raw.length := by omega
      obtain ⟨b, off, rfl, hb, hcs⟩ := (HM.out.kept HK.out).at hlr
      obtain ⟨x, hx⟩ : ∃ x, x = raw[h]'hlr := ⟨_, rfl⟩
      rw [← hx] at hcs
      have c0 := hcs 0 (by simp [grw])
      have c1 := hcs 1 (by simp [grw])
      have c2 := hcs 2 (by simp [grw])
      simp only [grw, List.getElem_cons_zero, List.getElem_cons_succ, Nat.add_zero] at c0 c1 c2
      have hmk := fun (w : World) => make1 x id w (HR.out x (by rw [hx]; exact List.getElem_mem hlr)) HID.out
      have HMK := Lib.hid hmk
      have HX := Lib.hid hx
      have hmid : ((i : Int) + (j : Int)) / 2 = (h : Int) := by omega
      clear hcs hmk hx hb hh
      go_wp2_with fail
      refine Calls.mono (HMK.out _) ?_
      rintro e w1 ⟨rfl, hk1⟩
      have HK1 := Lib.hid (HK.out.trans hk1)
      have hiff : x.1 < id ↔ h < pos := by have := HP.out h hlr; rw [← HX.out] at this; exact this
      have HIFF := Lib.hid hiff
      clear hk1 hiff c0 c1 c2 hmid
      cases hd : decide (x.1 - id < 0) with
      | true =>
        have hq : h < pos := HIFF.out.1 (by simp only [decide_eq_true_eq] at hd; omega)
        go_wp2
        go_roundw
        case rel => exact ⟨h + 1, j, by omega, hj, hjl, by go_num, rfl, HK1⟩
        case measure => simp [intOf]; omega
      | false =>
        have hq : pos ≤ h := by
          simp only [decide_eq_false_iff_not] at hd
          rcases Nat.lt_or_ge h pos with h3 | h3
          · have := HIFF.out.2 h3; omega
          · exact h3
        go_wp2
        go_roundw
        case rel => exact ⟨i, h, hi, hq, by omega, rfl, rfl, HK1⟩
        case measure => simp [intOf]; omega
    · have hip : i = pos := by omega
      subst hip
      have hjj : j = i := by omega
      subst hjj
      by_cases hjn : j < raw.length
      · obtain ⟨b, off, rfl, hb, hcs⟩ := (HM.out.kept HK.out).at hjn
        obtain ⟨x, hx⟩ : ∃ x, x = raw[j]'hjn := ⟨_, rfl⟩
        rw [← hx] at hcs
        have c0 := hcs 0 (by simp [grw])
        have c1 := hcs 1 (by simp [grw])
        have c2 := hcs 2 (by simp [grw])
        simp only [grw, List.getElem_cons_zero, List.getElem_cons_succ, Nat.add_zero] at c0 c1 c2
        have hmk := fun (w : World) => make1 x id w (HR.out x (by rw [hx]; exact List.getElem_mem hjn)) HID.out
        have HMK := Lib.hid hmk
        have hfx : f = (x.1 == id) := by rw [hx]; exact HF.out hjn
        have he : (x.1 - id == 0) = f := by
          rw [hfx, Bool.eq_iff_iff, beq_iff_eq, beq_iff_eq]; omega
        clear hcs hmk hx hb hfx
        go_wp2_with fail
        refine Calls.mono (HMK.out _) ?_
        rintro e w1 ⟨rfl, hk1⟩
        have HK1 := Lib.hid (HK.out.trans hk1)
        clear hk1 c0 c1 c2
        go_wp2
        go_ret2
        exact ⟨rfl, HK1.out⟩
      · have hf0 : f = false := HF0.out (by omega)
        subst hf0
        go_wp2
        go_ret2
        exact ⟨rfl, HK.out⟩
end Go.Proofs.YtiijfocdjcjlaaaGreat
