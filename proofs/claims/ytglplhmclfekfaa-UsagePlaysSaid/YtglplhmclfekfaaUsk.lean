/- A law's own table: the table's calls, with what else the law has. -/
import Derived.Test.YtglplhmclfekfaaUsp
namespace Go.Proofs.Ytglplhmclfekfaa
open Go.RowKit Go.ChangeMaps Go.MapKept
set_option linter.unusedVariables false
set_option linter.unusedSimpArgs false

/-- Block p of W is a table that reads as T, made since w0; the blocks that R names are none of its own. -/
def Own (w0 : World) (R : Nat → Prop) (W : World) (p : Nat) (T : Tab) : Prop := ∃ S, TabAt W p S T ∧ Kept w0 W ∧ (∀ i, S i → w0.heap.size ≤ i) ∧ ∀ k, R k → k < W.heap.size ∧ ¬ S k
/-- The blocks that R names are as they were. -/
def SameR (R : Nat → Prop) (W W' : World) : Prop := ∀ k, R k → W'.heap[k]? = W.heap[k]?
theorem SameR.refl (R : Nat → Prop) (W : World) : SameR R W W := fun _ _ => rfl
theorem SameR.trans {R : Nat → Prop} {a b c : World} (h : SameR R a b) (k : SameR R b c) : SameR R a c := fun i hi => (k i hi).trans (h i hi)
section
variable {w0 W W' : World} {R : Nat → Prop} {p : Nat} {T T' : Tab}
theorem Own.keeps (h : Own w0 R W p T) : Kept w0 W := by obtain ⟨_, _, h, _⟩ := h; exact h
theorem Own.kept (h : Own w0 R W p T) (hk : Kept W W') : Own w0 R W' p T ∧ SameR R W W' := by
  obtain ⟨S, h1, h2, h3, h4⟩ := h
  exact ⟨⟨S, h1.kept hk, h2.trans hk, h3, fun k hk' => ⟨Nat.lt_of_lt_of_le (h4 k hk').1 hk.size, (h4 k hk').2⟩⟩, fun k hk' => hk.block_eq (h4 k hk').1⟩
theorem Own.less {R' : Nat → Prop} (h : Own w0 R W p T) (hr : ∀ k, R' k → R k) : Own w0 R' W p T := by
  obtain ⟨S, h1, h2, h3, h4⟩ := h
  exact ⟨S, h1, h2, h3, fun k hk => h4 k (hr k hk)⟩
theorem TabAt.slt {w : World} {S : Nat → Prop} (h : TabAt w p S T) : ∀ k, S k → k < w.heap.size := by
  obtain ⟨_, _, _, h⟩ := h; exact h.slt
/-- a new block is the law's own -/
theorem Own.more (h : Own w0 R W p T) (hk : Kept W W') (B : Nat) (h1 : W.heap.size ≤ B) (h2 : B < W'.heap.size) : Own w0 (fun k => R k ∨ k = B) W' p T := by
  obtain ⟨S, g1, g2, g3, g4⟩ := h
  refine ⟨S, g1.kept hk, g2.trans hk, g3, fun k hk' => ?_⟩
  rcases hk' with h' | rfl
  · exact ⟨Nat.lt_of_lt_of_le (g4 k h').1 hk.size, (g4 k h').2⟩
  · exact ⟨h2, fun hs => by have := g1.slt _ hs; omega⟩
/-- a block of the law's own is written -/
theorem Own.wrote (h : Own w0 R W p T) {B : Nat} {cs : List Value} {t : TypeId} (hw : Wrote W W' B cs t) (hB : R B) (hb : w0.heap.size ≤ B) : Own w0 R W' p T := by
  obtain ⟨S, g1, g2, g3, g4⟩ := h
  refine ⟨S, g1.but (R := fun k => k = B) (But.wrote hw rfl) (fun k hk e => (g4 B hB).2 (e ▸ hk)), hw.kept g2 hb, g3, fun k hk => by rw [hw.size]; exact g4 k hk⟩
theorem Own.step {S S' : Nat → Prop} (h1 : TabAt W p S T) (h2 : Kept w0 W) (h3 : ∀ i, S i → w0.heap.size ≤ i) (h4 : ∀ k, R k → k < W.heap.size ∧ ¬ S k) (k1 : TabAt W' p S' T') (k2 : But S W W') (k3 : ∀ k, S' k → S k ∨ W.heap.size ≤ k) :
    Own w0 R W' p T' ∧ SameR R W W' := by
  refine ⟨⟨S', k1, But.to_kept h2 k2 h3, fun i hi => ?_, fun k hk => ⟨Nat.lt_of_lt_of_le (h4 k hk).1 k2.size, fun hs => ?_⟩⟩, fun k hk => k2.block k (h4 k hk).1 (h4 k hk).2⟩
  · rcases k3 i hi with h | h
    · exact h3 i h
    · exact Nat.le_trans h2.size h
  · rcases k3 k hs with h | h
    · exact (h4 k hk).2 h
    · have := (h4 k hk).1; omega
theorem own_New (w0 W : World) (hk : Kept w0 W) : Calls Try.prog 21 #[] W fun e w' => ∃ p, e = .returned (.pointer (some ⟨p, 0, none⟩)) ∧ Own w0 (fun k => k < w0.heap.size) w' p Tab.empty ∧ Kept W w' :=
  (usage_New W).mono fun e w' ⟨p, S, he, h1, h2, h3⟩ => ⟨p, he, ⟨S, h1, hk.trans h2, fun i hi => Nat.le_trans hk.size (h3 i hi), fun k hk' => ⟨Nat.lt_of_lt_of_le hk' (hk.trans h2).size, fun hs => by have := h3 k hs; have := hk.size; omega⟩⟩, h2⟩
theorem own_Open (h : Own w0 R W p T) (n : Int) (N : Nat) (hn0 : 0 ≤ n) (hN : 1 ≤ N) (hM : N ≤ 4096) (hn : T.g n = none) :
    Calls Try.prog 27 #[.pointer (some ⟨p, 0, none⟩), .int .i64 n, .int .i64 N] W fun e w' => e = .returned (.int .i64 0) ∧ Own w0 R w' p (T.open_ n N) ∧ SameR R W w' := by
  obtain ⟨S, h1, h2, h3, h4⟩ := h
  refine (tab_Open h1 n N hn0 hN hM hn).mono fun e w' ⟨he, S', k1, k3, k2⟩ => ⟨he, ?_⟩
  exact Own.step h1 h2 h3 h4 k1 k2 k3
/-- Put into a dead slot -/
theorem own_Put (h : Own w0 R W p T) (ok : T.Ok) (n b : Int) (i : Nat) (hd : T.slot n i = some (-1)) (hb : 0 ≤ b) :
    Calls Try.prog 28 #[.pointer (some ⟨p, 0, none⟩), .int .i64 n, .int .i64 i, .int .i64 b] W fun e w' => e = .returned (.int .i64 0) ∧ Own w0 R w' p (T.put n i b) ∧ SameR R W w' := by
  obtain ⟨S, h1, h2, h3, h4⟩ := h
  obtain ⟨l, hl, hi, hx⟩ := Tab.slot_some hd
  cases hf : T.f b with
  | none => exact (tab_Put_new h1 n b hl hi hx hb hf (ok.len _ _ hl).2).mono fun e w' ⟨he, k1, k2⟩ => ⟨he, Own.step h1 h2 h3 h4 k1 k2 (fun _ h => .inl h)⟩
  | some s =>
    obtain ⟨g0, s0⟩ := s
    obtain ⟨_, i0, rfl, hs0⟩ := ok.at_ b g0 s0 hf
    obtain ⟨l0, hl0, hi0, _⟩ := Tab.slot_some hs0
    exact (tab_Put_move h1 n b hl hi hx hb hf hl0 hi0 (ok.len _ _ hl).2 (ok.len _ _ hl0).2).mono fun e w' ⟨he, k1, k2⟩ => ⟨he, Own.step h1 h2 h3 h4 k1 k2 (fun _ h => .inl h)⟩
theorem own_Put_live (h : Own w0 R W p T) (ok : T.Ok) (n b : Int) (i : Nat) {x : Int} (hd : T.slot n i = some x) (hx : x ≠ -1) (hb : 0 ≤ b) :
    Calls Try.prog 28 #[.pointer (some ⟨p, 0, none⟩), .int .i64 n, .int .i64 i, .int .i64 b] W fun e w' => e = .returned (.int .i64 9) ∧ W = w' := by
  obtain ⟨S, h1, h2, h3, h4⟩ := h
  obtain ⟨l, hl, hi, rfl⟩ := Tab.slot_some hd
  exact tab_Put_live h1 n b hl hi hx hb (ok.len _ _ hl).2
theorem own_Put_out (h : Own w0 R W p T) (n s b : Int) {l : List Int} (hn : T.g n = some l) (hs : s < 0 ∨ l.length ≤ s) :
    Calls Try.prog 28 #[.pointer (some ⟨p, 0, none⟩), .int .i64 n, .int .i64 s, .int .i64 b] W fun e w' => e = .returned (.int .i64 3) ∧ W = w' := by
  obtain ⟨S, h1, h2, h3, h4⟩ := h
  exact tab_Put_out h1 n s b hn hs
theorem own_Clear (h : Own w0 R W p T) (ok : T.Ok) (n : Int) (i : Nat) {b : Int} (hd : T.slot n i = some b) (hb : b ≠ -1) :
    Calls Try.prog 75 #[.pointer (some ⟨p, 0, none⟩), .int .i64 n, .int .i64 i] W fun e w' => e = .returned (.int .i64 0) ∧ Own w0 R w' p (T.clear n i b) ∧ SameR R W w' := by
  obtain ⟨S, h1, h2, h3, h4⟩ := h
  obtain ⟨l, hl, hi, hx⟩ := Tab.slot_some hd
  exact (tab_Clear_live h1 n b hl hi hx hb (ok.of n i b hd hb) (ok.len _ _ hl).2).mono fun e w' ⟨he, k1, k2⟩ => ⟨he, Own.step h1 h2 h3 h4 k1 k2 (fun _ h => .inl h)⟩
theorem own_Clear_dead (h : Own w0 R W p T) (ok : T.Ok) (n : Int) (i : Nat) (hd : T.slot n i = some (-1)) :
    Calls Try.prog 75 #[.pointer (some ⟨p, 0, none⟩), .int .i64 n, .int .i64 i] W fun e w' => e = .returned (.int .i64 9) ∧ W = w' := by
  obtain ⟨S, h1, h2, h3, h4⟩ := h
  obtain ⟨l, hl, hi, hx⟩ := Tab.slot_some hd
  exact tab_Clear_dead h1 n hl hi hx (ok.len _ _ hl).2
theorem own_Clear_out (h : Own w0 R W p T) (n s : Int) {l : List Int} (hn : T.g n = some l) (hs : s < 0 ∨ l.length ≤ s) :
    Calls Try.prog 75 #[.pointer (some ⟨p, 0, none⟩), .int .i64 n, .int .i64 s] W fun e w' => e = .returned (.int .i64 3) ∧ W = w' := by
  obtain ⟨S, h1, h2, h3, h4⟩ := h
  exact tab_Clear_out h1 n s hn hs
theorem own_Find (h : Own w0 R W p T) (b : Int) (r : Option (Int × Int)) (hr : T.f b = r) :
    Calls Try.prog 32 #[.pointer (some ⟨p, 0, none⟩), .int .i64 b] W fun e w' => e = .returned (findV r) ∧ Own w0 R w' p T ∧ SameR R W w' := by
  have H := h
  obtain ⟨S, h1, h2, h3, h4⟩ := h
  exact (tab_Find h1 b r hr).mono fun e w' ⟨he, hk⟩ => ⟨he, H.kept hk⟩
theorem own_Block (h : Own w0 R W p T) (ok : T.Ok) (n : Int) (i : Nat) {b : Int} (hd : T.slot n i = some b) (hb : b ≠ -1) :
    Calls Try.prog 74 #[.pointer (some ⟨p, 0, none⟩), .int .i64 n, .int .i64 i] W fun e w' => e = .returned (.tuple #[.int .i64 b, .bool true]) ∧ W = w' := by
  obtain ⟨S, h1, h2, h3, h4⟩ := h
  obtain ⟨l, hl, hi, hx⟩ := Tab.slot_some hd
  exact tab_Block_live h1 n b hl hi hx hb (ok.len _ _ hl).2
theorem own_Block_dead (h : Own w0 R W p T) (ok : T.Ok) (n : Int) (i : Nat) (hd : T.slot n i = some (-1)) :
    Calls Try.prog 74 #[.pointer (some ⟨p, 0, none⟩), .int .i64 n, .int .i64 i] W fun e w' => e = .returned (.tuple #[.int .i64 0, .bool false]) ∧ W = w' := by
  obtain ⟨S, h1, h2, h3, h4⟩ := h
  obtain ⟨l, hl, hi, hx⟩ := Tab.slot_some hd
  exact tab_Block_dead h1 n hl hi hx (ok.len _ _ hl).2
theorem own_Slots (h : Own w0 R W p T) (n : Int) {l : List Int} (hn : T.g n = some l) :
    Calls Try.prog 30 #[.pointer (some ⟨p, 0, none⟩), .int .i64 n] W fun e w' => e = .returned (.int .i64 l.length) ∧ W = w' := by
  obtain ⟨S, h1, h2, h3, h4⟩ := h
  exact tab_Slots h1 n hn
theorem own_Blocks (h : Own w0 R W p T) (ok : T.Ok) (n : Int) {l : List Int} (hn : T.g n = some l) :
    Calls Try.prog 34 #[.pointer (some ⟨p, 0, none⟩), .int .i64 n] W fun e w' => ∃ g cap, e = .returned (.slice (some ⟨g, 0, none⟩) (liveL l).length cap) ∧ IRow w' g (liveL l) ∧ W.heap.size ≤ g ∧ Own w0 R w' p T ∧ SameR R W w' ∧ Kept W w' := by
  have H := h
  obtain ⟨S, h1, h2, h3, h4⟩ := h
  have hb := ok.len _ _ hn
  exact (tab_Blocks h1 n hn hb.1 hb.2).mono fun e w' ⟨g, cap, junk, he, k1, k2, hk⟩ => ⟨g, cap, he, IRow.of_block k1, k2, (H.kept hk).1, (H.kept hk).2, hk⟩
theorem own_Count (h : Own w0 R W p T) (ok : T.Ok) (n : Int) {l : List Int} (hn : T.g n = some l) :
    Calls Try.prog 33 #[.pointer (some ⟨p, 0, none⟩), .int .i64 n] W fun e w' => e = .returned (.int .i64 (liveL l).length) ∧ Own w0 R w' p T ∧ SameR R W w' ∧ Kept W w' := by
  have H := h
  obtain ⟨S, h1, h2, h3, h4⟩ := h
  have hb := ok.len _ _ hn
  exact (tab_Count h1 n hn hb.1 hb.2).mono fun e w' ⟨he, hk⟩ => ⟨he, (H.kept hk).1, (H.kept hk).2, hk⟩
theorem own_Hole_some (h : Own w0 R W p T) (ok : T.Ok) (n : Int) {l : List Int} (hn : T.g n = some l) {k : Nat} (hk : idxI l (-1) = ((k : Nat) : Int)) :
    Calls Try.prog 72 #[.pointer (some ⟨p, 0, none⟩), .int .i64 n] W fun e w' => e = .returned (.tuple #[.int .i64 k, .bool true]) ∧ W = w' := by
  obtain ⟨S, h1, h2, h3, h4⟩ := h
  exact tab_Hole_some h1 n hn (ok.len _ _ hn).2 hk
theorem own_Hole_none (h : Own w0 R W p T) (ok : T.Ok) (n : Int) {l : List Int} (hn : T.g n = some l) (hk : idxI l (-1) = -1) :
    Calls Try.prog 72 #[.pointer (some ⟨p, 0, none⟩), .int .i64 n] W fun e w' => e = .returned (.tuple #[.int .i64 0, .bool false]) ∧ W = w' := by
  obtain ⟨S, h1, h2, h3, h4⟩ := h
  exact tab_Hole_none h1 n hn (ok.len _ _ hn).2 hk
theorem own_Emptiest (h : Own w0 R W p T) (ok : T.Ok) (v : Value) (l : List Int) (hs : ISl W v l) :
    Calls Try.prog 73 #[.pointer (some ⟨p, 0, none⟩), v] W fun e w' => e = .returned (.tuple #[.int .i64 (emp T l).1, .bool (emp T l).2]) ∧ Own w0 R w' p T ∧ SameR R W w' ∧ Kept W w' := by
  have H := h
  obtain ⟨S, h1, h2, h3, h4⟩ := h
  exact (tab_Emptiest h1 ok.len v l hs).mono fun e w' ⟨he, hk⟩ => ⟨he, (H.kept hk).1, (H.kept hk).2, hk⟩
end
end Go.Proofs.Ytglplhmclfekfaa
