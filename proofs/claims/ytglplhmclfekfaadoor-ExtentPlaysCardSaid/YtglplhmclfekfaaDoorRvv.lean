/- law06: ExtentPlays, plain: the first pair, a pair that is cloned, the pair that stays. -/
import Derived.Test.YtglplhmclfekfaaDoorRvu
import Derived.Test.YtglplhmclfekfaaDoorExg
namespace Go.Proofs.YtglplhmclfekfaaDoor
open Go.RowKit
set_option linter.unusedVariables false
set_option linter.unusedSimpArgs false

section
variable {w0 W W' W1 : World} {R S : Nat → Prop} {q q2 q3 c : Nat} {E : XT} {M : RM} {v v3 : Value} {tb tb3 : Nat → Nat} {tj tj3 : Nat → List Value}
theorem XAt.sameS (H : XAt W q S E) (hs : ∀ k, S k → W'.heap[k]? = W.heap[k]?) : XAt W' q S E := by
  obtain ⟨g, blk, H⟩ := H
  obtain ⟨m1, h1⟩ := H.gm
  refine ⟨g, blk, (hs _ H.sp).trans H.top, ⟨m1, h1.same (hs _ H.sg)⟩, fun d n s h => (H.row d n s h).same (hs _ (H.own d (by rw [h]; simp))), H.own, H.inj, H.sp, H.sg, fun k hk => ?_⟩
  have h1 := H.slt k hk
  have h2 : W'.heap[k]? = some W.heap[k] := (hs k hk).trans (Array.getElem?_eq_getElem h1)
  exact (Array.getElem?_eq_some_iff.1 h2).1
/-- a pair that nobody turns: it stays while the blocks that R names stay -/
def OldP (w0 W : World) (R : Nat → Prop) (qo qw : Nat) : Prop := ∃ B : Nat → Prop, (∀ k, B k → R k) ∧ ∀ W', Kept w0 W' → (∀ k, B k → W'.heap[k]? = W.heap[k]?) → ∃ E M v tb tj, PX w0 (fun _ => False) W' qo qw E 1000 M v tb tj
theorem OldP.still {qo qw : Nat} (h : OldP w0 W R qo qw) (hs : SameR R W W') : OldP w0 W' R qo qw := by
  obtain ⟨B, h1, h2⟩ := h
  exact ⟨B, h1, fun W'' hk hb => h2 W'' hk fun k hk' => (hb k hk').trans (hs k (h1 k hk'))⟩
theorem OldP.now {qo qw : Nat} (h : OldP w0 W R qo qw) (hk : Kept w0 W) : ∃ E M v tb tj, PX w0 (fun _ => False) W qo qw E 1000 M v tb tj := by
  obtain ⟨B, h1, h2⟩ := h
  exact h2 W hk fun _ _ => rfl
theorem PX.first (h : XO w0 (fun k => k < w0.heap.size) W q XT.none_) (hk : Kept w0 W) (h2 : XR W' W.heap.size [] (.slice none 0 0) (fun _ => 0) (fun _ => [])) (hk2 : Kept W W') : PX w0 (fun _ => False) W' q W.heap.size XT.none_ 0 [] (.slice none 0 0) (fun _ => 0) (fun _ => []) := by
  have hin : ∀ k, InX [] W.heap.size (.slice none 0 0) (fun _ => 0) k → k = W.heap.size := fun k hk => by
    rcases hk with h | h | ⟨j, hj, _⟩
    · exact h
    · simp [Value.ownBlock] at h
    · simp at hj
  have hm := h.more hk2 W.heap.size (Nat.le_refl _) (h2.lt (.inl rfl))
  refine ⟨hm.less fun k hk => ?_, h2, RM.xt_nil, ⟨by simp, fun k => by simp [RM.m]⟩, ⟨fun j k hj => by simp at hj, fun k hk => by simp at hk, fun k hk => by simp at hk⟩, Nat.le_refl _, fun k hk3 => by rw [hin k hk3]; exact hk.size, fun k hk => hk.elim⟩
  rcases hk with h | h
  · exact h.elim
  · exact .inr (hin k h)
/-- the document's is cloned, then the map -/
structure PXc (w0 W : World) (q q2 q3 : Nat) (E : XT) (c : Nat) (M : RM) (v : Value) (tb : Nat → Nat) (tj : Nat → List Value) (v3 : Value) (tb3 : Nat → Nat) (tj3 : Nat → List Value) : Prop where
  px : PX w0 (fun k => InX M q3 v3 tb3 k) W q q2 E c M v tb tj
  x3 : XR W q3 M v3 tb3 tj3
  own : ∀ k, InX M q3 v3 tb3 k → w0.heap.size ≤ k
theorem px_CloneX (h : PX w0 R W q q2 E c M v tb tj) (hc : c ≤ 1000) :
    Calls Tryd.prog 17 #[.pointer (some ⟨q2, 0, none⟩)] W fun e w' => ∃ q3 v3 tb3 tj3, e = .returned (.pointer (some ⟨q3, 0, none⟩)) ∧ PXc w0 w' q q2 q3 E c M v tb tj v3 tb3 tj3 := by
  refine (xr_Clone h.xr h.ok (by have := h.len; omega)).mono ?_
  rintro e w' ⟨q3, v3, tb3, tj3, he, h3, hk, hnew⟩
  refine ⟨q3, v3, tb3, tj3, he, ?_, h3, fun k hk' => Nat.le_trans h.xo.keeps.size (hnew k hk')⟩
  obtain ⟨S, g1, g2, g3, g4⟩ := h.xo
  refine ⟨⟨S, g1.kept hk, g2.trans hk, g3, fun k hk' => ?_⟩, h.xr.kept hk, h.eq, h.ok, h.fine, h.len, h.own, fun k hk' hi => ?_⟩
  · rcases hk' with hk' | hk'
    · exact ⟨h3.lt hk', fun hs => by have := g1.slt k hs; have := hnew k hk'; omega⟩
    · exact ⟨Nat.lt_of_lt_of_le (g4 k (.inr hk')).1 hk.size, (g4 k (.inr hk')).2⟩
  · have := h.xr.lt hi; have := hnew k hk'; omega
theorem px_CloneE (h : PXc w0 W q q2 q3 E c M v tb tj v3 tb3 tj3) (hc : c ≤ 1000) :
    Calls Tryd.prog 18 #[.pointer (some ⟨q, 0, none⟩)] W fun e w' => ∃ q' R', e = .returned (.pointer (some ⟨q', 0, none⟩)) ∧ PX w0 R' w' q' q2 E c M v tb tj ∧ OldP w0 w' R' q q3 := by
  obtain ⟨h, h3, h3own⟩ := h
  obtain ⟨S, g1, g2, g3, g4⟩ := h.xo
  refine (ext_Clone g1).mono ?_
  rintro e w' ⟨q', S', he, k1, hk, hnew⟩
  have hlt3 : ∀ k, InX M q3 v3 tb3 k → k < W.heap.size := fun k hk' => h3.lt hk'
  refine ⟨q', fun k => S k ∨ InX M q3 v3 tb3 k, he, ⟨⟨S', k1, g2.trans hk, fun k hs => Nat.le_trans g2.size (hnew k hs), fun k hk' => ?_⟩, h.xr.kept hk, h.eq, h.ok, h.fine, h.len, h.own, fun k hk' hi => ?_⟩, fun k => S k ∨ InX M q3 v3 tb3 k, fun k hk => hk, fun W' hkw hs => ?_⟩
  · have : k < W.heap.size := by
      rcases hk' with (hk' | hk') | hk'
      · exact g1.slt k hk'
      · exact hlt3 k hk'
      · exact h.xr.lt hk'
    exact ⟨Nat.lt_of_lt_of_le this hk.size, fun hs => by have := hnew k hs; omega⟩
  · rcases hk' with hk' | hk'
    · exact (g4 k (.inr hi)).2 hk'
    · exact h.off k hk' hi
  · have hS : ∀ k, S k → W'.heap[k]? = W.heap[k]? := fun k hk' => (hs k (.inl hk')).trans (hk.block_eq (g1.slt k hk'))
    have hX : ∀ k, InX M q3 v3 tb3 k → W'.heap[k]? = W.heap[k]? := fun k hk' => (hs k (.inr hk')).trans (hk.block_eq (hlt3 k hk'))
    refine ⟨E, M, v3, tb3, tj3, ⟨⟨S, g1.sameS hS, hkw, g3, fun k hk' => ?_⟩, h3.same hX, h.eq, h.ok, h.fine, Nat.le_trans h.len hc, h3own, fun k hk' => hk'.elim⟩⟩
    rcases hk' with hk' | hk'
    · exact hk'.elim
    · exact ⟨(h3.same hX).lt hk', (g4 k (.inl hk')).2⟩
end
theorem cells_3 {w : World} {b off : Nat} {x y z : Value} (h0 : w.cell? ⟨b, off, none⟩ = some x) (h1 : w.cell? ⟨b, off + 1, none⟩ = some y) (h2 : w.cell? ⟨b, off + 2, none⟩ = some z) : Cells w b off [x, y, z] := fun j hj => by
  rcases j with _ | _ | _ | j
  · exact h0
  · exact h1
  · exact h2
  · simp at hj; omega
theorem ty_opE : AggT Tryd.prog 43 3 := ⟨⟨_, Tryd.underlying43, rfl⟩, by kernel_rfl⟩
end Go.Proofs.YtglplhmclfekfaaDoor
