/- A map of extents beside its document's: one member more. -/
import Derived.Test.YtglplhmclfekfaaDoorRvr
namespace Go.Proofs.YtglplhmclfekfaaDoor
open Go.RowKit
set_option linter.unusedVariables false
set_option linter.unusedSimpArgs false

theorem RM.ok_app {M : RM} (h : M.Ok) (hl : M.length ≤ 1000) {d : Int} {n : Nat} (hn : n ≤ 600) : RM.Ok (M ++ [(d, List.replicate n false)]) :=
  ⟨by rw [List.length_append]; simp; omega, fun k => by
    rw [RM.m_app]
    split
    · exact h.bits k
    · split
      · simpa using hn
      · simp⟩
theorem RM.fine_app {M : RM} (h : M.Fine) {d : Int} (l : List Bool) (h0 : 0 ≤ d) (h1 : d ≤ 9223372036854775807) (hd : ¬ M.at_ d < M.length) : RM.Fine (M ++ [(d, l)]) := by
  have hlen : (M ++ [(d, l)]).length = M.length + 1 := by simp
  have hne : ∀ j, j < M.length → (M.m j).1 ≠ d := fun j hj => RM.at_not (by omega)
  refine ⟨fun j k hj hk e => ?_, fun k hk => ?_, fun k hk => ?_⟩
  · rw [hlen] at hj hk
    rw [RM.m_app, RM.m_app] at e
    by_cases a : j < M.length
    · by_cases b : k < M.length
      · rw [if_pos a, if_pos b] at e; exact h.nod j k a b e
      · rw [if_pos a, if_neg b, if_pos (by omega)] at e; exact absurd e (hne j a)
    · by_cases b : k < M.length
      · rw [if_neg a, if_pos (by omega), if_pos b] at e; exact absurd e.symm (hne k b)
      · omega
  · rw [hlen] at hk
    rw [RM.m_app]
    by_cases a : k < M.length
    · rw [if_pos a]; exact h.pos k a
    · rw [if_neg a, if_pos (by omega)]; exact h0
  · rw [hlen] at hk
    rw [RM.m_app]
    by_cases a : k < M.length
    · rw [if_pos a]; exact h.top k a
    · rw [if_neg a, if_pos (by omega)]; exact h1
section
variable {w0 W W' W1 : World} {R : Nat → Prop} {q q2 c : Nat} {E E' : XT} {M M' : RM} {v v' : Value} {tb tb' : Nat → Nat} {tj tj' : Nat → List Value} {d : Int}
theorem PX.added (h : PX w0 R W q q2 E c M v tb tj) (h1 : XO w0 (fun k => R k ∨ InX M q2 v tb k) W1 q E') (hs : SameR (fun k => R k ∨ InX M q2 v tb k) W W1) (h2 : XR W' q2 M' v' tb' tj') (hb : But (InX M q2 v tb) W1 W') (hin : ∀ b, InX M' q2 v' tb' b → InX M q2 v tb b ∨ W1.heap.size ≤ b) (he : M'.xt = E')
    (hM : M' = M ∨ ∃ n, n ≤ 600 ∧ 0 ≤ d ∧ ¬ M.at_ d < M.length ∧ M' = M ++ [(d, List.replicate n false)]) (hd : d ≤ 9223372036854775807) (hc : c ≤ 1000) : PX w0 R W' q q2 E' (c + 1) M' v' tb' tj' ∧ SameR R W W' := by
  have hml := h.len
  have hlt : ∀ k, R k → k < W1.heap.size := fun k hk => by obtain ⟨S, _, _, _, h4⟩ := h1; exact (h4 k (.inl hk)).1
  have h3 : RM.Ok M' ∧ RM.Fine M' ∧ M'.length ≤ c + 1 := by
    rcases hM with rfl | ⟨n, hn, h0, hat, rfl⟩
    · exact ⟨h.ok, h.fine, by omega⟩
    · exact ⟨RM.ok_app h.ok (by omega) hn, RM.fine_app h.fine _ h0 hd hat, by rw [List.length_append]; simp; omega⟩
  refine ⟨⟨h1.but_ hb (fun k hk => .inr hk) h.own (fun k hk => ?_), h2, he, h3.1, h3.2.1, h3.2.2, fun k hk => ?_, fun k hk hi => ?_⟩, fun k hk => (hb.block k (hlt k hk) (h.off k hk)).trans (hs k (.inl hk))⟩
  · rcases hk with hk | hk
    · exact .inl (.inl hk)
    · rcases hin k hk with h' | h'
      · exact .inl (.inr h')
      · exact .inr ⟨h', h2.lt hk⟩
  · rcases hin k hk with h' | h'
    · exact h.own k h'
    · exact Nat.le_trans h1.keeps.size h'
  · rcases hin k hi with h' | h'
    · exact h.off k hk h'
    · have := hlt k hk; omega
end
end Go.Proofs.YtglplhmclfekfaaDoor
