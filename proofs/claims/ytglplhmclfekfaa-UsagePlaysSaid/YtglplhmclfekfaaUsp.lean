/- Plain laws of tables. -/
import Derived.Test.YtglplhmclfekfaaUsj
namespace Go.Proofs.Ytglplhmclfekfaa
open Go.RowKit
set_option linter.unusedVariables false
set_option linter.unusedSimpArgs false

def Tab.slot (T : Tab) (n : Int) (i : Nat) : Option Int := (T.g n).bind (fun l => l[i]?)
/-- each live slot's block is there, and nowhere else -/
structure Tab.Ok (T : Tab) : Prop where
  at_ : ∀ b n s, T.f b = some (n, s) → 0 ≤ b ∧ ∃ i : Nat, s = i ∧ T.slot n i = some b
  of : ∀ n i b, T.slot n i = some b → b ≠ -1 → T.f b = some (n, (i : Int))
  len : ∀ n l, T.g n = some l → 0 < l.length ∧ l.length ≤ 4096

theorem Tab.slot_some {T : Tab} {n : Int} {i : Nat} {b : Int} (h : T.slot n i = some b) : ∃ l, T.g n = some l ∧ ∃ hi : i < l.length, l[i] = b := by
  unfold Tab.slot at h
  cases hg : T.g n with
  | none => rw [hg] at h; cases h
  | some l =>
    rw [hg] at h
    obtain ⟨hi, e⟩ := List.getElem?_eq_some_iff.1 h
    exact ⟨l, rfl, hi, e⟩
theorem Tab.slot_of {T : Tab} {n : Int} {l : List Int} (h : T.g n = some l) (i : Nat) : T.slot n i = l[i]? := by simp [Tab.slot, h]
theorem Tab.slot_setG {T : Tab} {n : Int} {i : Nat} {b : Int} (h : T.slot n i = some b) (x : Int) (m : Int) (j : Nat) : (T.setG n i x).slot m j = if m = n ∧ j = i then some x else T.slot m j := by
  obtain ⟨l, hl, hi, rfl⟩ := Tab.slot_some h
  unfold Tab.slot Tab.setG
  by_cases hm : m = n
  · subst hm
    simp only [if_true, hl, Option.map_some, Option.bind_some, true_and, List.getElem?_set]
    by_cases hj : j = i
    · subst hj; simp [hi]
    · simp [hj, Ne.symm hj]
  · simp [hm]
theorem Tab.slot_setF (T : Tab) (b : Int) (s : Int × Int) : (T.setF b s).slot = T.slot := rfl
theorem Tab.slot_delF (T : Tab) (b : Int) : (T.delF b).slot = T.slot := rfl
theorem Tab.f_setG (T : Tab) (n : Int) (i : Nat) (x : Int) : (T.setG n i x).f = T.f := rfl
theorem Tab.len_setG {T : Tab} (h : ∀ n l, T.g n = some l → 0 < l.length ∧ l.length ≤ 4096) (n : Int) (i : Nat) (x : Int) : ∀ m l, (T.setG n i x).g m = some l → 0 < l.length ∧ l.length ≤ 4096 := by
  intro m l hl
  simp only [Tab.setG] at hl
  split at hl
  · cases hg : T.g n with
    | none => rw [hg] at hl; cases hl
    | some l0 =>
      rw [hg] at hl; simp at hl; subst hl
      rw [List.length_set]; exact h n l0 hg
  · exact h m l hl
theorem Tab.slot_clr {T : Tab} (h : T.Ok) (b m : Int) (j : Nat) : (T.clr b).slot m j = if T.f b = some (m, (j : Int)) then some (-1) else T.slot m j := by
  unfold Tab.clr
  cases hf : T.f b with
  | none => simp
  | some s =>
    obtain ⟨n, s⟩ := s
    obtain ⟨_, i, rfl, hs⟩ := h.at_ b n s hf
    dsimp only
    rw [Int.toNat_natCast, Tab.slot_setG hs]
    by_cases hc : m = n ∧ j = i
    · obtain ⟨rfl, rfl⟩ := hc; simp
    · rw [if_neg hc, if_neg]
      intro e; injection e with e; injection e with e1 e2
      exact hc ⟨e1.symm, by omega⟩
theorem Tab.clr_f (T : Tab) (b : Int) : (T.clr b).f = T.f := by unfold Tab.clr; split <;> rfl
theorem Tab.slot_put {T : Tab} (h : T.Ok) {n : Int} {i : Nat} (hd : T.slot n i = some (-1)) {b : Int} (hb : 0 ≤ b) (m : Int) (j : Nat) :
    (T.put n i b).slot m j = if m = n ∧ j = i then some b else if T.f b = some (m, (j : Int)) then some (-1) else T.slot m j := by
  unfold Tab.put
  have h1 : ∃ y, ((T.clr b).setF b (n, (i : Int))).slot n i = some y := by
    rw [Tab.slot_setF, Tab.slot_clr h]
    split
    · exact ⟨_, rfl⟩
    · exact ⟨_, hd⟩
  obtain ⟨y, hy⟩ := h1
  rw [Tab.slot_setG hy, Tab.slot_setF, Tab.slot_clr h]
theorem Tab.f_put (T : Tab) (n : Int) (i : Nat) (b x : Int) : (T.put n i b).f x = if x = b then some (n, (i : Int)) else T.f x := by
  unfold Tab.put
  rw [Tab.f_setG]
  simp only [Tab.setF, Tab.clr_f]
theorem Tab.len_put {T : Tab} (h : T.Ok) (n : Int) (i : Nat) (b : Int) : ∀ m l, (T.put n i b).g m = some l → 0 < l.length ∧ l.length ≤ 4096 := by
  unfold Tab.put
  refine Tab.len_setG ?_ _ _ _
  show ∀ m l, (T.clr b).g m = some l → _
  unfold Tab.clr
  split
  · exact Tab.len_setG h.len _ _ _
  · exact h.len
theorem Tab.Ok.empty : Tab.empty.Ok := ⟨(fun _ _ _ h => by cases h), (fun _ _ _ h => by cases h), (fun _ _ h => by cases h)⟩
theorem Tab.Ok.open_ {T : Tab} (h : T.Ok) {n : Int} (hn : T.g n = none) {N : Nat} (h1 : 1 ≤ N) (h2 : N ≤ 4096) : (T.open_ n N).Ok := by
  have hsl : ∀ m j b, b ≠ -1 → ((T.open_ n N).slot m j = some b ↔ T.slot m j = some b) := by
    intro m j b hb
    unfold Tab.slot Tab.open_
    by_cases hm : m = n
    · subst hm
      simp only [if_true, Option.bind_some, hn, Option.bind_none]
      constructor
      · intro e; obtain ⟨_, e⟩ := List.getElem?_eq_some_iff.1 e; simp at e; exact absurd e.symm hb
      · intro e; cases e
    · simp [hm]
  refine ⟨fun b m s hf => ?_, fun m i b hs hb => ?_, fun m l hl => ?_⟩
  · obtain ⟨hb, i, hi, hs⟩ := h.at_ b m s hf
    exact ⟨hb, i, hi, (hsl m i b (by omega)).2 hs⟩
  · exact h.of m i b ((hsl m i b hb).1 hs) hb
  · simp only [Tab.open_] at hl
    split at hl
    · simp at hl; subst hl; simp; omega
    · exact h.len m l hl
theorem Tab.Ok.put {T : Tab} (h : T.Ok) {n : Int} {i : Nat} (hd : T.slot n i = some (-1)) {b : Int} (hb : 0 ≤ b) : (T.put n i b).Ok := by
  refine ⟨fun x m s hf => ?_, fun m j x hs hx => ?_, Tab.len_put h n i b⟩
  · rw [Tab.f_put] at hf
    split at hf
    · rename_i e; subst e
      injection hf with hf; injection hf with e1 e2
      subst e1
      exact ⟨hb, i, e2.symm, by rw [Tab.slot_put h hd hb]; simp⟩
    · rename_i hxb
      obtain ⟨hx0, j, rfl, hs⟩ := h.at_ x m s hf
      refine ⟨hx0, j, rfl, ?_⟩
      rw [Tab.slot_put h hd hb, if_neg, if_neg, hs]
      · intro e
        obtain ⟨_, j', hj, hs'⟩ := h.at_ b m _ e
        have : j = j' := by omega
        subst this
        rw [hs] at hs'; injection hs' with e; exact hxb e
      · rintro ⟨rfl, rfl⟩
        rw [hd] at hs; injection hs with e; omega
  · rw [Tab.slot_put h hd hb] at hs
    rw [Tab.f_put]
    split at hs
    · rename_i hc; obtain ⟨rfl, rfl⟩ := hc
      injection hs with e; subst e; simp
    · split at hs
      · injection hs with e; exact absurd e.symm hx
      · rename_i hc
        have := h.of m j x hs hx
        rw [if_neg, this]
        intro e; subst e; exact hc this
theorem Tab.slot_clear {T : Tab} {n : Int} {i : Nat} {b : Int} (hs : T.slot n i = some b) (m : Int) (j : Nat) : (T.clear n i b).slot m j = if m = n ∧ j = i then some (-1) else T.slot m j := by
  unfold Tab.clear
  rw [Tab.slot_setG (b := b) (by rw [Tab.slot_delF]; exact hs), Tab.slot_delF]
theorem Tab.f_clear (T : Tab) (n : Int) (i : Nat) (b x : Int) : (T.clear n i b).f x = if x = b then none else T.f x := rfl
theorem Tab.Ok.clear {T : Tab} (h : T.Ok) {n : Int} {i : Nat} {b : Int} (hs : T.slot n i = some b) (hb : b ≠ -1) : (T.clear n i b).Ok := by
  refine ⟨fun x m s hf => ?_, fun m j x hx hne => ?_, ?_⟩
  · rw [Tab.f_clear] at hf
    split at hf
    · cases hf
    · rename_i hxb
      obtain ⟨hx0, j, rfl, hj⟩ := h.at_ x m s hf
      refine ⟨hx0, j, rfl, ?_⟩
      rw [Tab.slot_clear hs, if_neg, hj]
      rintro ⟨rfl, rfl⟩
      rw [hs] at hj; injection hj with e; exact hxb e.symm
  · rw [Tab.slot_clear hs] at hx
    rw [Tab.f_clear]
    split at hx
    · injection hx with e; exact absurd e.symm hne
    · rename_i hc
      have h1 := h.of m j x hx hne
      rw [if_neg, h1]
      intro e; subst e
      have h2 := h.of n i x hs hne
      rw [h1] at h2; injection h2 with h2; injection h2 with e1 e2
      exact hc ⟨e1, by omega⟩
  · exact Tab.len_setG (T := T.delF b) h.len _ _ _
end Go.Proofs.Ytglplhmclfekfaa
