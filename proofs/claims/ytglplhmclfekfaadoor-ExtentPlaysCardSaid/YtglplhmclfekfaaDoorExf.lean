/- A law's own map of extents: its calls, with what else the law has; law06's shown. -/
import Derived.Test.YtglplhmclfekfaaDoorExe
namespace Go.Proofs.YtglplhmclfekfaaDoor
open Go.RowKit Go.ChangeMaps Go.MapKept
set_option linter.unusedVariables false
set_option linter.unusedSimpArgs false

/-- Block q of W is a map of extents that reads as E, made since w0; the blocks that R names are none of its own. -/
def XO (w0 : World) (R : Nat → Prop) (W : World) (q : Nat) (E : XT) : Prop := ∃ S, XAt W q S E ∧ Kept w0 W ∧ (∀ i, S i → w0.heap.size ≤ i) ∧ ∀ k, R k → k < W.heap.size ∧ ¬ S k
/-- The blocks that R names are as they were. -/
def SameR (R : Nat → Prop) (W W' : World) : Prop := ∀ k, R k → W'.heap[k]? = W.heap[k]?
theorem SameR.refl (R : Nat → Prop) (W : World) : SameR R W W := fun _ _ => rfl
theorem SameR.trans {R : Nat → Prop} {a b c : World} (h : SameR R a b) (k : SameR R b c) : SameR R a c := fun i hi => (k i hi).trans (h i hi)
section
variable {w0 W W' : World} {R : Nat → Prop} {q : Nat} {E E' : XT}
theorem XO.keeps (h : XO w0 R W q E) : Kept w0 W := by obtain ⟨_, _, h, _⟩ := h; exact h
theorem XO.kept (h : XO w0 R W q E) (hk : Kept W W') : XO w0 R W' q E ∧ SameR R W W' := by
  obtain ⟨S, h1, h2, h3, h4⟩ := h
  exact ⟨⟨S, h1.kept hk, h2.trans hk, h3, fun k hk' => ⟨Nat.lt_of_lt_of_le (h4 k hk').1 hk.size, (h4 k hk').2⟩⟩, fun k hk' => hk.block_eq (h4 k hk').1⟩
theorem XO.less {R' : Nat → Prop} (h : XO w0 R W q E) (hr : ∀ k, R' k → R k) : XO w0 R' W q E := by
  obtain ⟨S, h1, h2, h3, h4⟩ := h
  exact ⟨S, h1, h2, h3, fun k hk => h4 k (hr k hk)⟩
theorem XAt.slt {w : World} {S : Nat → Prop} (h : XAt w q S E) : ∀ k, S k → k < w.heap.size := by
  obtain ⟨_, _, h⟩ := h; exact h.slt
/-- a new block is the law's own -/
theorem XO.more (h : XO w0 R W q E) (hk : Kept W W') (B : Nat) (h1 : W.heap.size ≤ B) (h2 : B < W'.heap.size) : XO w0 (fun k => R k ∨ k = B) W' q E := by
  obtain ⟨S, g1, g2, g3, g4⟩ := h
  refine ⟨S, g1.kept hk, g2.trans hk, g3, fun k hk' => ?_⟩
  rcases hk' with h' | rfl
  · exact ⟨Nat.lt_of_lt_of_le (g4 k h').1 hk.size, (g4 k h').2⟩
  · exact ⟨h2, fun hs => by have := g1.slt _ hs; omega⟩
/-- a block of the law's own is written -/
theorem XO.wrote (h : XO w0 R W q E) {B : Nat} {cs : List Value} {t : TypeId} (hw : Wrote W W' B cs t) (hB : R B) (hb : w0.heap.size ≤ B) : XO w0 R W' q E := by
  obtain ⟨S, g1, g2, g3, g4⟩ := h
  exact ⟨S, g1.wrote_new hw (g4 B hB).2, hw.kept g2 hb, g3, fun k hk => by rw [hw.size]; exact g4 k hk⟩
theorem XO.step {S S' : Nat → Prop} (h1 : XAt W q S E) (h2 : Kept w0 W) (h3 : ∀ i, S i → w0.heap.size ≤ i) (h4 : ∀ k, R k → k < W.heap.size ∧ ¬ S k) (k1 : XAt W' q S' E') (k2 : But S W W') (k3 : ∀ k, S' k → S k ∨ W.heap.size ≤ k) :
    XO w0 R W' q E' ∧ SameR R W W' := by
  refine ⟨⟨S', k1, But.to_kept h2 k2 h3, fun i hi => ?_, fun k hk => ⟨Nat.lt_of_lt_of_le (h4 k hk).1 k2.size, fun hs => ?_⟩⟩, fun k hk => k2.block k (h4 k hk).1 (h4 k hk).2⟩
  · rcases k3 i hi with h | h
    · exact h3 i h
    · exact Nat.le_trans h2.size h
  · rcases k3 k hs with h | h
    · exact (h4 k hk).2 h
    · have := (h4 k hk).1; omega
theorem xo_New (w0 W : World) (hk : Kept w0 W) : Calls Tryd.prog 6 #[] W fun e w' => ∃ q, e = .returned (.pointer (some ⟨q, 0, none⟩)) ∧ XO w0 (fun k => k < w0.heap.size) w' q XT.none_ ∧ Kept W w' :=
  (ext_New W).mono fun e w' ⟨q, S, he, h1, h2, h3⟩ => ⟨q, he, ⟨S, h1, hk.trans h2, fun i hi => Nat.le_trans hk.size (h3 i hi), fun k hk' => ⟨Nat.lt_of_lt_of_le hk' (hk.trans h2).size, fun hs => by have := h3 k hs; have := hk.size; omega⟩⟩, h2⟩
theorem xo_Add (h : XO w0 R W q E) (d : Int) (z n : Nat) (hd0 : 0 ≤ d) (hz : z ≤ 4096) (hcn : cntX z = (n : Int)) (hd : E d = none) :
    Calls Tryd.prog 7 #[.pointer (some ⟨q, 0, none⟩), .int .i64 d, .int .i64 (z : Int)] W fun e w' => e = .returned (.int .i64 0) ∧ XO w0 R w' q (E.set d n (fun _ => false)) ∧ SameR R W w' := by
  obtain ⟨S, h1, h2, h3, h4⟩ := h
  exact (ext_Add h1 d z n hd0 hz hcn hd).mono fun e w' ⟨he, S', k1, k3, k2⟩ => ⟨he, XO.step h1 h2 h3 h4 k1 k2 k3⟩
theorem xo_Take (h : XO w0 R W q E) (hT : DbAt w0) (d : Int) :
    Calls Tryd.prog 11 #[.pointer (some ⟨q, 0, none⟩), .int .i64 d] W fun e w' => ∃ v E', e = .returned v ∧ TakeR E d v E' ∧ XO w0 R w' q E' ∧ SameR R W w' := by
  obtain ⟨S, h1, h2, h3, h4⟩ := h
  exact (ext_Take h1 (hT.kept h2) d).mono fun e w' ⟨v, E', he, ht, k1, k2⟩ => ⟨v, E', he, ht, XO.step h1 h2 h3 h4 k1 k2 (fun _ h => .inl h)⟩
theorem xo_TakeAt (h : XO w0 R W q E) (d a : Int) (ha : -9223372036854775808 ≤ a) (ha2 : a < 9223372036854775808) :
    Calls Tryd.prog 13 #[.pointer (some ⟨q, 0, none⟩), .agg #[.int .i64 d, .int .i64 a]] W fun e w' => e = .returned (.int .i64 (chgX true E d a).1) ∧ XO w0 R w' q (chgX true E d a).2 ∧ SameR R W w' := by
  obtain ⟨S, h1, h2, h3, h4⟩ := h
  exact (ext_TakeAt h1 d a ha ha2).mono fun e w' ⟨he, k1, k2⟩ => ⟨he, XO.step h1 h2 h3 h4 k1 k2 (fun _ h => .inl h)⟩
theorem xo_Free (h : XO w0 R W q E) (d a : Int) (ha : -9223372036854775808 ≤ a) (ha2 : a < 9223372036854775808) :
    Calls Tryd.prog 9 #[.pointer (some ⟨q, 0, none⟩), .agg #[.int .i64 d, .int .i64 a]] W fun e w' => e = .returned (.int .i64 (chgX false E d a).1) ∧ XO w0 R w' q (chgX false E d a).2 ∧ SameR R W w' := by
  obtain ⟨S, h1, h2, h3, h4⟩ := h
  exact (ext_Free h1 d a ha ha2).mono fun e w' ⟨he, k1, k2⟩ => ⟨he, XO.step h1 h2 h3 h4 k1 k2 (fun _ h => .inl h)⟩
theorem xo_Has (h : XO w0 R W q E) (d a : Int) (ha : -9223372036854775808 ≤ a) (ha2 : a < 9223372036854775808) :
    Calls Tryd.prog 12 #[.pointer (some ⟨q, 0, none⟩), .agg #[.int .i64 d, .int .i64 a]] W fun e w' => e = .returned (.bool (hasX E d a == 0)) ∧ XO w0 R w' q E ∧ SameR R W w' := by
  have H := h
  obtain ⟨S, h1, h2, h3, h4⟩ := h
  exact (ext_Has h1 d a ha ha2).mono fun e w' ⟨he, k1⟩ => ⟨he, H.kept k1⟩
theorem xo_Used (h : XO w0 R W q E) (d : Int) : Calls Tryd.prog 14 #[.pointer (some ⟨q, 0, none⟩), .int .i64 d] W fun e w' => e = .returned (.int .i64 (usedX E d : Int)) ∧ W = w' := by
  obtain ⟨S, h1, _⟩ := h
  exact ext_Used h1 d
theorem xo_Room (h : XO w0 R W q E) (d : Int) : Calls Tryd.prog 10 #[.pointer (some ⟨q, 0, none⟩), .int .i64 d] W fun e w' => e = .returned (.int .i64 (roomX E d : Int)) ∧ W = w' := by
  obtain ⟨S, h1, _⟩ := h
  exact ext_Room h1 d
end
theorem TakeR.first {E E' : XT} {d : Int} {v : Value} (h : TakeR E d v E') {n : Nat} {s : Nat → Bool} (hd : E d = some (n, s)) {i : Nat} (hi : i < n) (hs : s i = false) (hl : ∀ j, j < i → s j = true) : v = extV d (114 + (i : Int) * 8) 0 ∧ E' = E.set d n (setS s i true) := by
  rcases h with ⟨h, _⟩ | ⟨n', s', h, h'⟩
  · rw [hd] at h; cases h
  · rw [hd] at h; injection h with h; injection h with h1 h2; subst h1; subst h2
    rcases h' with ⟨hall, _⟩ | ⟨j, hj, hsj, hlj, hv, hE⟩
    · rw [hall i hi] at hs; cases hs
    · have : j = i := by
        rcases Nat.lt_trichotomy j i with h | h | h
        · rw [hl j h] at hsj; cases hsj
        · exact h
        · rw [hlj i h] at hs; cases hs
      subst this; exact ⟨hv, hE⟩
theorem TakeR.full {E E' : XT} {d : Int} {v : Value} (h : TakeR E d v E') {n : Nat} {s : Nat → Bool} (hd : E d = some (n, s)) (hall : ∀ j, j < n → s j = true) : v = extV 0 0 4 ∧ E' = E := by
  rcases h with ⟨h, _⟩ | ⟨n', s', h, h'⟩
  · rw [hd] at h; cases h
  · rw [hd] at h; injection h with h; injection h with h1 h2; subst h1; subst h2
    rcases h' with ⟨_, hv, hE⟩ | ⟨j, hj, hsj, _⟩
    · exact ⟨hv, hE⟩
    · rw [hall j hj] at hsj; cases hsj
theorem TakeR.nobody {E E' : XT} {d : Int} {v : Value} (h : TakeR E d v E') (hd : E d = none) : v = extV 0 0 8 ∧ E' = E := by
  rcases h with ⟨_, h⟩ | ⟨n', s', h, h'⟩
  · exact h
  · rw [hd] at h; cases h
section
variable {P : Program} {ops : Array Oper} {rest : List Oper} {o1 o2 : Oper} {a : Act} {w : World} {Q : Exit → Act → World → Prop}
/-- A new variable of an aggregate type, and what it is given; the world a letter. -/
theorem wpList_new_agg (hg1 : o1.guard = none) (hg2 : o2.guard = none) {T n : Nat} (x y : Operand) (ho1 : o1.op = .alloc T) (ho2 : o2.op = .store T x y) (hT : AggT P T n)
    (zs : List Value) (hz : ∀ w, (zeroValue T).run P w = .ok (.agg zs.toArray) w) (hzl : zs.length = n)
    (xs : List Value) (hy : (a.put o1.dst (.pointer (some ⟨w.heap.size, 0, none⟩))).eval y = .agg xs.toArray) (hl : xs.length = n) (h1 : ∀ v ∈ xs, v.oneCell' = true)
    (hx : (a.put o1.dst (.pointer (some ⟨w.heap.size, 0, none⟩))).eval x = .pointer (some ⟨w.heap.size, 0, none⟩))
    (h : ∀ w1, Hid (w1.heap[w.heap.size]? = some (.cells xs.toArray T (0, 0))) → w.heap.size < w1.heap.size → Kept w w1 → wpList P ops Q rest ((a.put o1.dst (.pointer (some ⟨w.heap.size, 0, none⟩))).put o2.dst undef) w1) : wpList P ops Q (o1 :: o2 :: rest) a w := by
  refine wpList_alloc_abs hg1 T ho1 zs hz ?_
  intro w1 hz1 hs1 hn1 hk1
  refine wpList_store_agg hg2 x y ho2 hT w.heap.size 0 hx xs hy hl h1 zs T hz1.out (by omega) ?_
  intro w2 hw2
  replace hw2 := hw2.all (by omega)
  exact h w2 (Lib.hid hw2.blk) (by rw [hw2.size]; exact hs1) (hw2.kept hk1 (Nat.le_refl _))
end
end Go.Proofs.YtglplhmclfekfaaDoor
