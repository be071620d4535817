/- ref06's Disks: the plain part. -/
import Derived.Test.YtglplhmclfekfaaDoorPaA
namespace Go.Proofs.YtglplhmclfekfaaDoor
open Go.RowKit
set_option linter.unusedVariables false
set_option linter.unusedSimpArgs false

/-- the least number above 'last' among the first i, or -1 -/
def RM.bestTo (M : RM) (last : Int) : Nat → Int
  | 0 => -1
  | i + 1 => if last < (M.m i).1 ∧ (M.bestTo last i < 0 ∨ (M.m i).1 < M.bestTo last i) then (M.m i).1 else M.bestTo last i
/-- no number twice, none below 0 -/
structure RM.Fine (M : RM) : Prop where
  nod : ∀ j k, j < M.length → k < M.length → (M.m j).1 = (M.m k).1 → j = k
  pos : ∀ k, k < M.length → 0 ≤ (M.m k).1
  top : ∀ k, k < M.length → (M.m k).1 ≤ 9223372036854775807
section
variable {M : RM}
theorem RM.best_spec (hp : ∀ k, k < M.length → 0 ≤ (M.m k).1) {last : Int} : ∀ {i}, i ≤ M.length →
    (M.bestTo last i = -1 ∧ ∀ j, j < i → (M.m j).1 ≤ last) ∨ ∃ j, j < i ∧ M.bestTo last i = (M.m j).1 ∧ last < M.bestTo last i ∧ ∀ j', j' < i → last < (M.m j').1 → M.bestTo last i ≤ (M.m j').1
  | 0, _ => .inl ⟨rfl, fun j h => by omega⟩
  | i + 1, h => by
    have h0 := hp i (by omega)
    have ih := RM.best_spec hp (last := last) (i := i) (by omega)
    unfold RM.bestTo
    generalize M.bestTo last i = b at *
    by_cases hc : last < (M.m i).1 ∧ (b < 0 ∨ (M.m i).1 < b)
    · rw [if_pos hc]
      refine .inr ⟨i, by omega, rfl, hc.1, fun j' hj' hl => ?_⟩
      by_cases e : j' = i
      · rw [e]; exact Int.le_refl _
      · rcases ih with ⟨rfl, h1⟩ | ⟨j, hj, h1, h2, h3⟩
        · have := h1 j' (by omega); omega
        · have := h3 j' (by omega) hl
          have := hp j (by omega)
          rcases hc.2 with h4 | h4 <;> omega
    · rw [if_neg hc]
      rcases ih with ⟨rfl, h1⟩ | ⟨j, hj, h1, h2, h3⟩
      · refine .inl ⟨rfl, fun j' hj' => ?_⟩
        by_cases e : j' = i
        · rw [e]; omega
        · exact h1 j' (by omega)
      · refine .inr ⟨j, by omega, h1, h2, fun j' hj' hl => ?_⟩
        by_cases e : j' = i
        · rw [e] at hl ⊢
          have := hp j (by omega)
          omega
        · exact h3 j' (by omega) hl
def RM.nums (M : RM) : List Int := (List.range M.length).map fun k => (M.m k).1
theorem RM.mem_nums {n : Int} : n ∈ M.nums ↔ ∃ k, k < M.length ∧ (M.m k).1 = n := by unfold RM.nums; simp
theorem RM.Fine.nums (h : M.Fine) : M.nums.Nodup := by
  unfold RM.nums
  rw [List.Nodup, List.pairwise_map]
  refine (List.nodup_range (n := M.length)).imp_of_mem ?_
  intro a b ha hb hab e
  exact hab (h.nod a b (by simpa using ha) (by simpa using hb) e)
theorem RM.nums_len : M.nums.length = M.length := by simp [RM.nums]
/-- k rounds have been -/
structure DsI (M : RM) (k : Nat) (out : List Int) (last : Int) : Prop where
  len : out.length = k
  ris : out.Pairwise (· < ·)
  mem : ∀ n ∈ out, n ∈ M.nums ∧ n ≤ last
  rest : ∀ j, j < M.length → (M.m j).1 ≤ last → (M.m j).1 ∈ out
theorem DsI.zero (h : M.Fine) : DsI M 0 [] (-1) := ⟨rfl, List.Pairwise.nil, (fun n hn => by cases hn), (fun j hj hl => by have := h.pos j hj; omega)⟩
theorem DsI.step {k : Nat} {out : List Int} {last : Int} (h : DsI M k out last) (hf : M.Fine) (hk : k < M.length) : DsI M (k + 1) (out ++ [M.bestTo last M.length]) (M.bestTo last M.length) := by
  rcases RM.best_spec hf.pos (last := last) (Nat.le_refl M.length) with ⟨_, h1⟩ | ⟨j, hj, h1, h2, h3⟩
  · have hsub : M.nums ⊆ out := fun n hn => by
      obtain ⟨j, hj, rfl⟩ := RM.mem_nums.1 hn
      exact h.rest j hj (h1 j hj)
    have := hf.nums.length_le_of_subset hsub
    rw [RM.nums_len, h.len] at this
    omega
  · generalize M.bestTo last M.length = b at *
    refine ⟨by simp [h.len], ?_, fun n hn => ?_, fun j' hj' hl => ?_⟩
    · rw [List.pairwise_append]
      refine ⟨h.ris, by simp, fun x hx y hy => ?_⟩
      have : y = b := by simpa using hy
      have := (h.mem x hx).2
      omega
    · rw [List.mem_append] at hn
      rcases hn with hn | hn
      · exact ⟨(h.mem n hn).1, by have := (h.mem n hn).2; omega⟩
      · have : n = b := by simpa using hn
        rw [this]
        exact ⟨RM.mem_nums.2 ⟨j, hj, h1.symm⟩, Int.le_refl _⟩
    · rw [List.mem_append]
      by_cases hc : (M.m j').1 ≤ last
      · exact .inl (h.rest j' hj' hc)
      · have := h3 j' hj' (by omega)
        exact .inr (by simp; omega)
theorem DsI.all {out : List Int} {last : Int} (h : DsI M M.length out last) (hf : M.Fine) (n : Int) : n ∈ out ↔ M.xt n ≠ none := by
  have hx : M.xt n ≠ none ↔ n ∈ M.nums := by
    rw [RM.mem_nums]
    constructor
    · intro hn
      have hlt : M.at_ n < M.length := by
        rcases Nat.lt_or_ge (M.at_ n) M.length with h1 | h1
        · exact h1
        · exact absurd (RM.xt_none (by omega)) hn
      exact ⟨_, hlt, RM.at_is hlt⟩
    · rintro ⟨k, hk, rfl⟩
      have : M.at_ (M.m k).1 < M.length := by
        rcases Nat.lt_or_ge (M.at_ (M.m k).1) M.length with h1 | h1
        · exact h1
        · exact absurd rfl (RM.at_not (j := k) (d := (M.m k).1) (by omega))
      rw [RM.xt_some this]; simp
  rw [hx]
  refine ⟨fun hn => (h.mem n hn).1, fun hn => ?_⟩
  by_cases e : n ∈ out
  · exact e
  · exfalso
    have hnd : (n :: out).Nodup := List.nodup_cons.2 ⟨e, h.ris.imp (fun hab => by omega)⟩
    have := hnd.length_le_of_subset (l₂ := M.nums) (fun x hx => by
      rcases List.mem_cons.1 hx with rfl | hx
      · exact hn
      · exact (h.mem x hx).1)
    rw [RM.nums_len, List.length_cons, h.len] at this
    omega
/-- rising lists of the same numbers are one -/
theorem rising_one {a b : List Int} (ha : a.Pairwise (· < ·)) (hb : b.Pairwise (· < ·)) (h : ∀ n, n ∈ a ↔ n ∈ b) : a = b := by
  have na : a.Nodup := ha.imp fun h => by omega
  have nb : b.Nodup := hb.imp fun h => by omega
  have hp : a.Perm b := by
    rw [List.perm_iff_count]
    intro n
    have h1 := na.count (a := n)
    have h2 := nb.count (a := n)
    rw [h1, h2]
    by_cases e : n ∈ a
    · rw [if_pos e, if_pos ((h n).1 e)]
    · rw [if_neg e, if_neg (fun h' => e ((h n).2 h'))]
  exact hp.eq_of_pairwise (le := (· < ·)) (fun x y _ _ h1 h2 => by omega) ha hb
end
end Go.Proofs.YtglplhmclfekfaaDoor
