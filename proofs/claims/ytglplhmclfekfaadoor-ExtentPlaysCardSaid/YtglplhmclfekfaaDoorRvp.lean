/- A map of extents beside its document's. -/
import Derived.Test.YtglplhmclfekfaaDoorRvo
import Derived.Test.YtglplhmclfekfaaDoorRvk
import Derived.Test.YtglplhmclfekfaaDoorRvi
namespace Go.Proofs.YtglplhmclfekfaaDoor
open Go.RowKit
set_option linter.unusedVariables false
set_option linter.unusedSimpArgs false

section
variable {w0 W W' : World} {R : Nat → Prop} {q q2 : Nat} {E : XT} {M : RM} {v : Value} {tb : Nat → Nat} {tj : Nat → List Value}
/-- blocks turn that are none of the map's; some are new -/
theorem XO.but_ (h : XO w0 R W q E) {T : Nat → Prop} (hb : But T W W') (ht : ∀ k, T k → R k) (h0 : ∀ k, T k → w0.heap.size ≤ k) {R' : Nat → Prop} (hr : ∀ k, R' k → R k ∨ (W.heap.size ≤ k ∧ k < W'.heap.size)) : XO w0 R' W' q E := by
  obtain ⟨S, ⟨g, blk, h1⟩, h2, h3, h4⟩ := h
  refine ⟨S, ⟨g, blk, h1.but hb fun k hk ht' => (h4 k (ht k ht')).2 hk⟩, But.to_kept h2 hb h0, h3, fun k hk => ?_⟩
  rcases hr k hk with h | ⟨ha, hb'⟩
  · exact ⟨Nat.lt_of_lt_of_le (h4 k h).1 hb.size, (h4 k h).2⟩
  · exact ⟨hb', fun hs => by have := h1.slt k hs; omega⟩
/-- both, side by side: they say the same; of at most c members; R: what else is apart from both -/
structure PX (w0 : World) (R : Nat → Prop) (W : World) (q q2 : Nat) (E : XT) (c : Nat) (M : RM) (v : Value) (tb : Nat → Nat) (tj : Nat → List Value) : Prop where
  xo : XO w0 (fun k => R k ∨ InX M q2 v tb k) W q E
  xr : XR W q2 M v tb tj
  eq : M.xt = E
  ok : M.Ok
  fine : M.Fine
  len : M.length ≤ c
  own : ∀ k, InX M q2 v tb k → w0.heap.size ≤ k
  off : ∀ k, R k → ¬ InX M q2 v tb k
theorem PX.kept {c : Nat} (h : PX w0 R W q q2 E c M v tb tj) (hk : Kept W W') : PX w0 R W' q q2 E c M v tb tj ∧ SameR R W W' :=
  ⟨⟨(h.xo.kept hk).1, h.xr.kept hk, h.eq, h.ok, h.fine, h.len, h.own, h.off⟩, fun k hk' => (h.xo.kept hk).2 k (.inl hk')⟩
theorem PX.less {c : Nat} {R' : Nat → Prop} (h : PX w0 R W q q2 E c M v tb tj) (hr : ∀ k, R' k → R k) : PX w0 R' W q q2 E c M v tb tj :=
  ⟨h.xo.less fun k hk => hk.imp (hr k) id, h.xr, h.eq, h.ok, h.fine, h.len, h.own, fun k hk => h.off k (hr k hk)⟩
theorem RM.Fine.like {M M' : RM} (h : M.Fine) (hl : RM.Like M M') : RM.Fine M' :=
  ⟨fun j k hj hk e => h.nod j k (by rw [← hl.len]; exact hj) (by rw [← hl.len]; exact hk) (by rw [← hl.num, ← hl.num]; exact e), fun k hk => by rw [hl.num]; exact h.pos k (by rw [← hl.len]; exact hk), fun k hk => by rw [hl.num]; exact h.top k (by rw [← hl.len]; exact hk)⟩
/-- the map has turned, then its document -/
theorem PX.turn {c : Nat} {E' : XT} {M' : RM} {W1 : World} (h : PX w0 R W q q2 E c M v tb tj) (h1 : XO w0 (fun k => R k ∨ InX M q2 v tb k) W1 q E') (hs : SameR (fun k => R k ∨ InX M q2 v tb k) W W1) (h2 : XR W' q2 M' v tb tj) (hb : But (InX M q2 v tb) W1 W') (hl : RM.Like M M') (he : M'.xt = E') :
    PX w0 R W' q q2 E' c M' v tb tj ∧ SameR R W W' := by
  have hin : ∀ k, InX M' q2 v tb k → InX M q2 v tb k := fun k hk => (InX_like hl k).1 hk
  refine ⟨⟨h1.but_ hb (fun k hk => .inr hk) h.own (fun k hk => .inl (hk.imp id (hin k))), h2, he, h.ok.like hl, h.fine.like hl, by rw [hl.len]; exact h.len, fun k hk => h.own k (hin k hk), fun k hk hi => h.off k hk (hin k hi)⟩, fun k hk => ?_⟩
  have hlt : k < W1.heap.size := by obtain ⟨S, _, _, _, h4⟩ := h1; exact (h4 k (.inl hk)).1
  exact (hb.block k hlt (h.off k hk)).trans (hs k (.inl hk))
end
end Go.Proofs.YtglplhmclfekfaaDoor
