/- UsageEmptiest: plain. -/
import Derived.Test.YtpnpconphpbcaaaUmo
namespace Go.Proofs.Ytpnpconphpbcaaa
open Go.RowKit Go.ChangeMaps Go.MapKept
set_option linter.unusedVariables false
set_option linter.unusedSimpArgs false

/-- the emptiest is told: some group of the list, none of which has fewer -/
structure EmpOk (T : Tab) (l : List Int) : Prop where
  some_ : (emp T l).2 = true ↔ ∃ x ∈ l, T.g x ≠ none
  min : ∀ x ∈ l, T.g x ≠ none → cntG T (emp T l).1 ≤ cntG T x ∧ (cntG T (emp T l).1 = cntG T x → (emp T l).1 ≤ x)
theorem emp_ok (T : Tab) (l : List Int) : EmpOk T l := by
  suffices ∀ r : List Int, EmpOk T r.reverse by have := this l.reverse; simpa using this
  intro r
  induction r with
  | nil => exact ⟨by simp [emp], by simp⟩
  | cons x r ih =>
    have e : emp T (x :: r).reverse = empStep T (emp T r.reverse) x := by simp [emp]
    have hmem : ∀ y, y ∈ (x :: r).reverse ↔ y = x ∨ y ∈ r.reverse := by intro y; simp; exact Or.comm
    obtain ⟨h1, h2⟩ := ih
    cases hx : T.g x with
    | none =>
      have e2 : empStep T (emp T r.reverse) x = emp T r.reverse := by unfold empStep; rw [hx]
      refine ⟨?_, ?_⟩
      · rw [e, e2, h1]
        constructor
        · rintro ⟨y, hy, hn⟩; exact ⟨y, (hmem y).2 (.inr hy), hn⟩
        · rintro ⟨y, hy, hn⟩
          rcases (hmem y).1 hy with rfl | hy
          · exact absurd hx hn
          · exact ⟨y, hy, hn⟩
      · rw [e, e2]
        intro y hy hn
        rcases (hmem y).1 hy with rfl | hy
        · exact absurd hx hn
        · exact h2 y hy hn
    | some lx =>
      by_cases hc : (emp T r.reverse).2 = false ∨ cntG T x < cntG T (emp T r.reverse).1 ∨ (cntG T x = cntG T (emp T r.reverse).1 ∧ x < (emp T r.reverse).1)
      · have e2 : empStep T (emp T r.reverse) x = (x, true) := by unfold empStep; rw [hx]; simp only [if_pos hc]
        refine ⟨?_, ?_⟩
        · rw [e, e2]; simp only [true_iff]; exact ⟨x, (hmem x).2 (.inl rfl), by simp [hx]⟩
        · rw [e, e2]
          intro y hy hn
          rcases (hmem y).1 hy with rfl | hy
          · exact ⟨Nat.le_refl _, fun _ => Int.le_refl _⟩
          · rcases hc with hc | hc
            · have := h1.2 ⟨y, hy, hn⟩
              rw [hc] at this; cases this
            · have := h2 y hy hn
              dsimp only
              constructor
              · omega
              · intro h; omega
      · have e2 : empStep T (emp T r.reverse) x = emp T r.reverse := by unfold empStep; rw [hx]; simp only [if_neg hc]
        have hs : (emp T r.reverse).2 = true := by
          cases h : (emp T r.reverse).2 with
          | true => rfl
          | false => exact absurd (.inl h) hc
        refine ⟨?_, ?_⟩
        · rw [e, e2, hs]; simp only [true_iff]; exact ⟨x, (hmem x).2 (.inl rfl), by simp [hx]⟩
        · rw [e, e2]
          intro y hy hn
          rcases (hmem y).1 hy with rfl | hy
          · have hc1 : ¬ cntG T y < cntG T (emp T r.reverse).1 := fun h => hc (.inr (.inl h))
            refine ⟨by omega, fun h => ?_⟩
            have : ¬ y < (emp T r.reverse).1 := fun h' => hc (.inr (.inr ⟨h.symm, h'⟩))
            omega
          · exact h2 y hy hn

/-- a group's row when q blocks are put -/
def rowE (i q : Nat) : List Int := (List.range q).map (fun j => ((8 * i + j : Nat) : Int)) ++ List.replicate (8 - q) (-1)
theorem rowE_length (i q : Nat) (h : q ≤ 8) : (rowE i q).length = 8 := by simp [rowE]; omega
theorem rowE_zero (i : Nat) : rowE i 0 = List.replicate 8 (-1) := by simp [rowE]
theorem rowE_next (i q : Nat) (h : q < 8) : (rowE i q).set q ((8 * i + q : Nat) : Int) = rowE i (q + 1) := by
  unfold rowE
  rw [List.set_append_right _ _ (by simp), List.length_map, List.length_range, Nat.sub_self]
  obtain ⟨m, hm⟩ : ∃ m, 8 - q = m + 1 := ⟨7 - q, by omega⟩
  rw [hm, List.replicate_succ, List.set_cons_zero, List.range_succ, List.map_append, List.append_assoc, show 8 - (q + 1) = m from by omega]
  rfl
theorem rowE_dead (i q : Nat) (h : q < 8) : (rowE i q)[q]? = some (-1) := by
  unfold rowE
  rw [List.getElem?_append_right (by simp), List.length_map, List.length_range, Nat.sub_self, List.getElem?_replicate]
  simp; omega
theorem rowE_live (i q : Nat) : (liveL (rowE i q)).length = q := by
  unfold liveL rowE
  rw [List.filter_append, List.filter_eq_self.2, List.filter_eq_nil_iff.2]
  · simp
  · intro x hx; rw [List.eq_of_mem_replicate hx]; simp
  · intro x hx
    obtain ⟨j, _, rfl⟩ := List.mem_map.1 hx
    have : ((8 * i + j : Nat) : Int) ≠ -1 := by omega
    simpa using this
/-- groups 0 .. k-1 with cs of them live -/
structure EV (T : Tab) (cs : Nat → Nat) (k : Nat) : Prop where
  ok : T.Ok
  g : ∀ i : Nat, i < k → T.g (i : Int) = some (rowE i (cs i))
  no : ∀ m : Int, m < 0 ∨ (k : Int) ≤ m → T.g m = none
  used : ∀ x, T.f x ≠ none → x < 8 * (k : Int)
/-- .. and one more, with q live -/
structure EW (T : Tab) (cs : Nat → Nat) (k q : Nat) : Prop where
  ok : T.Ok
  g : ∀ i : Nat, i < k → T.g (i : Int) = some (rowE i (cs i))
  gk : T.g (k : Int) = some (rowE k q)
  no : ∀ m : Int, m < 0 ∨ (k : Int) < m → T.g m = none
  used : ∀ x, T.f x ≠ none → x < 8 * (k : Int) + q
theorem EV.zero (cs : Nat → Nat) : EV Tab.empty cs 0 := ⟨Tab.Ok.empty, (fun i h => by omega), (fun m _ => rfl), fun x h => absurd rfl h⟩
theorem EV.open_ {T : Tab} {cs : Nat → Nat} {k : Nat} (h : EV T cs k) : EW (T.open_ k 8) cs k 0 := by
  refine ⟨h.ok.open_ (h.no k (.inr (Int.le_refl _))) (by decide) (by decide), fun i hi => ?_, by simp [Tab.open_, rowE_zero], fun m hm => ?_, fun x hx => by have := h.used x hx; omega⟩
  · have : ¬ ((i : Int) = (k : Int)) := by omega
    simp [Tab.open_, this, h.g i hi]
  · have : ¬ (m = (k : Int)) := by omega
    simp only [Tab.open_, this, if_false]
    exact h.no m (by omega)
theorem EW.dead {T : Tab} {cs : Nat → Nat} {k q : Nat} (h : EW T cs k q) (hq : q < 8) : T.slot k q = some (-1) := by
  rw [Tab.slot_of h.gk, rowE_dead k q hq]
theorem EW.put {T : Tab} {cs : Nat → Nat} {k q : Nat} (h : EW T cs k q) (hq : q < 8) : EW (T.put k q ((8 * k + q : Nat) : Int)) cs k (q + 1) := by
  have hf : T.f ((8 * k + q : Nat) : Int) = none := by
    cases hf : T.f ((8 * k + q : Nat) : Int) with
    | none => rfl
    | some s => have := h.used _ (by rw [hf]; simp); omega
  have e : T.put k q ((8 * k + q : Nat) : Int) = (T.setF ((8 * k + q : Nat) : Int) (k, (q : Int))).setG k q ((8 * k + q : Nat) : Int) := by unfold Tab.put Tab.clr; rw [hf]
  refine ⟨h.ok.put (h.dead hq) (by omega), fun i hi => ?_, ?_, fun m hm => ?_, fun x hx => ?_⟩
  · have : ¬ ((i : Int) = (k : Int)) := by omega
    rw [e]; simp [Tab.setG, Tab.setF, this, h.g i hi]
  · rw [e]; simp only [Tab.setG, Tab.setF, if_true, h.gk, Option.map_some, rowE_next k q hq]
  · have : ¬ (m = (k : Int)) := by omega
    rw [e]; simp only [Tab.setG, Tab.setF, this, if_false]; exact h.no m hm
  · rw [Tab.f_put] at hx
    split at hx
    · omega
    · have := h.used x hx; omega
theorem EW.done {T : Tab} {cs : Nat → Nat} {k : Nat} (h : EW T cs k (cs k)) (hc : cs k ≤ 7) : EV T cs (k + 1) := by
  refine ⟨h.ok, fun i hi => ?_, fun m hm => h.no m (by omega), fun x hx => by have := h.used x hx; omega⟩
  by_cases hik : i < k
  · exact h.g i hik
  · obtain rfl : i = k := by omega
    exact h.gk
theorem EV.is {T : Tab} {cs : Nat → Nat} {k : Nat} (h : EV T cs k) (x : Int) : T.g x ≠ none ↔ 0 ≤ x ∧ x < k := by
  constructor
  · intro hx
    by_cases hc : x < 0 ∨ (k : Int) ≤ x
    · exact absurd (h.no x hc) hx
    · omega
  · rintro ⟨h0, h1⟩
    obtain ⟨i, rfl⟩ := Int.eq_ofNat_of_zero_le h0
    rw [h.g i (by omega)]; simp
theorem EV.cnt {T : Tab} {cs : Nat → Nat} {k : Nat} (h : EV T cs k) (i : Nat) (hi : i < k) : cntG T i = cs i := by
  rw [cntG_some (h.g i hi), rowE_live]
def validB (n : Nat) (x : Int) : Bool := decide (0 ≤ x) && decide (x < n)
theorem validB_iff (n : Nat) (x : Int) : validB n x = true ↔ 0 ≤ x ∧ x < n := by simp [validB]
def someB (n : Nat) (l : List Int) : Bool := l.any (validB n)
def inG (n : Nat) (g : Int) (l : List Int) : Bool := l.any (fun x => validB n x && x == g)
theorem someB_next (n : Nat) (l : List Int) (k : Nat) (h : k < l.length) : someB n (l.take (k + 1)) = (someB n (l.take k) || validB n l[k]) := by
  unfold someB; rw [List.take_succ_eq_append_getElem h, List.any_append]; simp
theorem inG_next (n : Nat) (g : Int) (l : List Int) (k : Nat) (h : k < l.length) : inG n g (l.take (k + 1)) = (inG n g (l.take k) || (validB n l[k] && l[k] == g)) := by
  unfold inG; rw [List.take_succ_eq_append_getElem h, List.any_append]; simp
theorem emp_fin {T : Tab} {cs : Nat → Nat} {n : Nat} (h : EV T cs n) (l : List Int) : (emp T l).2 = someB n l ∧ inG n (emp T l).1 l = someB n l := by
  have h1 := (emp_ok T l).some_
  have e1 : (emp T l).2 = someB n l := by
    rw [Bool.eq_iff_iff, h1, someB, List.any_eq_true]
    constructor
    · rintro ⟨x, hx, hn⟩; exact ⟨x, hx, (validB_iff n x).2 ((h.is x).1 hn)⟩
    · rintro ⟨x, hx, hv⟩; exact ⟨x, hx, (h.is x).2 ((validB_iff n x).1 hv)⟩
  refine ⟨e1, ?_⟩
  rw [Bool.eq_iff_iff]
  constructor
  · intro hi
    rw [inG, List.any_eq_true] at hi
    obtain ⟨x, hx, hv⟩ := hi
    simp only [Bool.and_eq_true] at hv
    rw [someB, List.any_eq_true]; exact ⟨x, hx, hv.1⟩
  · intro hs
    rw [← e1] at hs
    obtain ⟨hm, hn⟩ := emp_in T l hs
    rw [inG, List.any_eq_true]
    exact ⟨_, hm, by simp [(validB_iff n _).2 ((h.is _).1 hn)]⟩
/-- what is told of each group of the list -/
theorem emp_each {T : Tab} {cs : Nat → Nat} {n : Nat} (h : EV T cs n) (l : List Int) {x : Nat} (hx : (x : Int) ∈ l) (hn : x < n) : ∃ g : Nat, (emp T l).1 = g ∧ g < n ∧ (emp T l).2 = true ∧ cs g ≤ cs x ∧ (cs g = cs x → g ≤ x) := by
  have hv : T.g (x : Int) ≠ none := (h.is x).2 (by omega)
  have hs := (emp_ok T l).some_.2 ⟨_, hx, hv⟩
  obtain ⟨_, hg⟩ := emp_in T l hs
  obtain ⟨h0, h1⟩ := (h.is _).1 hg
  obtain ⟨g, hgn⟩ := Int.eq_ofNat_of_zero_le h0
  have hm := (emp_ok T l).min _ hx hv
  rw [hgn] at hm h1
  rw [h.cnt g (by omega), h.cnt x hn] at hm
  exact ⟨g, hgn, by omega, hs, hm.1, fun e => by have := hm.2 e; omega⟩
end Go.Proofs.Ytpnpconphpbcaaa
