/- StateHeld in plain Lean: a group that is held may not be dropped. -/
import Derived.Test.YtiijfocdjcjlaaaGreatPtA
namespace Go.Proofs.YtiijfocdjcjlaaaGreat
set_option linter.unusedVariables false
set_option linter.unusedSimpArgs false
theorem grpsB_ids (ms : List Mb) : ∀ (l : List Grp) (seen : List Ex), (grpsB ms seen l).isSome = true → ∀ g ∈ l, inN g.id 0 255 = true
  | [], _, _, g, hg => by cases hg
  | a :: l, seen, h, g, hg => by
    unfold grpsB at h
    cases ha : grpB ms seen a with
    | none => rw [ha] at h; cases h
    | some s =>
      rw [ha] at h
      rcases List.mem_cons.1 hg with rfl | hg
      · unfold grpB at ha
        split at ha
        · rename_i hc
          rw [Bool.and_eq_true] at hc
          exact hc.1
        · cases ha
      · exact grpsB_ids ms l s h g hg
structure RightS (s : St) : Prop where
  blocks : inN s.blocks 1 96 = true
  mplen : (s.mp.length : Int) = s.blocks
  few : s.gs.length ≤ 24
  mslen : inN s.ms.length 3 12 = true
  mbs : s.ms.all mbB = true
  msr : risesB (s.ms.map (·.1)) = true
  gsr : risesB (s.gs.map (·.id)) = true
  grps : (grpsB s.ms [] s.gs).isSome = true
  mapped : mappedB s = true
  dirty : s.dirty.all (dirtyB s) = true
  drises : risesB s.dirty = true
  plug : plugB s = true
theorem rightS_iff (s : St) : rightS s = true ↔ RightS s := by
  unfold rightS
  simp only [Bool.and_eq_true, beq_iff_eq, decide_eq_true_eq]
  constructor
  · rintro ⟨⟨h1, h2, h3⟩, ⟨h4, h5, h6⟩, ⟨h7, h8⟩, h9, h10, h11, h12⟩
    exact ⟨h1, h2, h3, h4, h5, h6, h7, h8, h9, h10, h11, h12⟩
  · rintro ⟨h1, h2, h3, h4, h5, h6, h7, h8, h9, h10, h11, h12⟩
    exact ⟨⟨h1, h2, h3⟩, ⟨h4, h5, h6⟩, ⟨h7, h8⟩, h9, h10, h11, h12⟩
theorem find_dropS (s : St) (id : Int) : findG (dropS s id) id = none := by
  unfold findG dropS
  rw [List.find?_eq_none]
  intro g hg
  have := (List.mem_filter.1 hg).2
  intro h
  rw [h] at this
  cases this
/-- a place's group, dropped: 9 where the place is mapped, or plugged -/
theorem held_nine (s : St) (hr : rightS s = true) (w : Wh) (hp : placeB s w = true) (hw : (w ∈ s.mp ∧ w.1 ≠ 0) ∨ (s.plug.is = true ∧ w = (2, s.plug.group, s.plug.slot))) :
    applyE (mayPut w.2.1 1) s (if (s.gs.find? (fun g => g.id == w.2.1)).isNone then 8 else 0) (dropS s w.2.1) = 9 := by
  have hR := (rightS_iff s).1 hr
  have hf : ∃ g, s.gs.find? (fun g => g.id == w.2.1) = some g := by
    unfold placeB findG at hp
    cases h : s.gs.find? (fun g => g.id == w.2.1) with
    | none => rw [h] at hp; cases hp
    | some g => exact ⟨g, rfl⟩
  obtain ⟨g, hg⟩ := hf
  have hid : g.id = w.2.1 := by simpa using List.find?_some hg
  have hin := grpsB_ids s.ms s.gs [] hR.grps g (List.mem_of_find?_eq_some hg)
  have hput : mayPut w.2.1 1 = true := by
    rw [mayPut_iff, ← hid]
    unfold inN at hin
    simp only [Bool.and_eq_true, decide_eq_true_eq] at hin
    refine ⟨by decide, by decide, by omega, ?_⟩
    show g.id < 256
    omega
  have hnp : placeB (dropS s w.2.1) w = false := by
    unfold placeB
    rw [find_dropS]
  have hno : rightS (dropS s w.2.1) = false := by
    rw [Bool.eq_false_iff]
    intro h
    have hD := (rightS_iff _).1 h
    rcases hw with ⟨hm, ht⟩ | ⟨hpl, hwe⟩
    · have h2 := hD.mapped
      unfold mappedB at h2
      rw [Bool.and_eq_true] at h2
      have h3 := List.all_eq_true.1 h2.2 w hm
      rw [hnp] at h3
      simp at h3
      exact ht h3
    · have h2 := hD.plug
      unfold plugB at h2
      have e : (dropS s w.2.1).plug = s.plug := rfl
      rw [e, if_pos hpl, ← hwe, hnp] at h2
      cases h2
  unfold applyE
  rw [hput, hr, hg, hno]
  rfl
/-- what is mapped has its place -/
theorem mapped_place (s : St) (hr : rightS s = true) (w : Wh) (hm : w ∈ s.mp) (ht : w.1 ≠ 0) : placeB s w = true := by
  have h2 := ((rightS_iff s).1 hr).mapped
  unfold mappedB at h2
  rw [Bool.and_eq_true] at h2
  have h3 := List.all_eq_true.1 h2.2 w hm
  simpa [ht] using h3
theorem plug_place (s : St) (hr : rightS s = true) (hp : s.plug.is = true) : placeB s (2, s.plug.group, s.plug.slot) = true := by
  have h2 := ((rightS_iff s).1 hr).plug
  unfold plugB at h2
  rw [if_pos hp, Bool.and_eq_true] at h2
  exact h2.1
end Go.Proofs.YtiijfocdjcjlaaaGreat
