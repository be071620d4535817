/- A map of extents beside its document's: each step, first the map's half, then the document's. -/
import Derived.Test.YtglplhmclfekfaaDoorRvs
namespace Go.Proofs.YtglplhmclfekfaaDoor
open Go.RowKit
set_option linter.unusedVariables false
set_option linter.unusedSimpArgs false

/-- the map has turned, its document has not yet -/
structure PXm (w0 : World) (R : Nat → Prop) (W : World) (q q2 : Nat) (E : XT) (c : Nat) (M : RM) (v : Value) (tb : Nat → Nat) (tj : Nat → List Value) : Prop where
  xo : XO w0 (fun k => R k ∨ InX M q2 v tb k) W q E
  xr : XR W q2 M v tb tj
  ok : M.Ok
  fine : M.Fine
  len : M.length ≤ c
  own : ∀ k, InX M q2 v tb k → w0.heap.size ≤ k
  off : ∀ k, R k → ¬ InX M q2 v tb k
section
variable {w0 W W' : World} {R : Nat → Prop} {q q2 c : Nat} {E E' : XT} {M : RM} {v : Value} {tb : Nat → Nat} {tj : Nat → List Value}
theorem PX.xrlt (h : PX w0 R W q q2 E c M v tb tj) {b : Nat} (hb : InX M q2 v tb b) : b < W.heap.size := h.xr.lt hb
/-- a new block is the law's own -/
theorem PX.more (h : PX w0 R W q q2 E c M v tb tj) (hk : Kept W W') (B : Nat) (h1 : W.heap.size ≤ B) (h2 : B < W'.heap.size) : PX w0 (fun k => R k ∨ k = B) W' q q2 E c M v tb tj :=
  ⟨(h.xo.more hk B h1 h2).less fun k hk => by rcases hk with (h | h) | h; exact .inl (.inl h); exact .inr h; exact .inl (.inr h), h.xr.kept hk, h.eq, h.ok, h.fine, h.len, h.own, fun k hk hi => by
    rcases hk with h' | rfl
    · exact h.off k h' hi
    · have := h.xr.lt hi; omega⟩
theorem PXm.kept (h : PXm w0 R W q q2 E c M v tb tj) (hk : Kept W W') : PXm w0 R W' q q2 E c M v tb tj ∧ SameR R W W' :=
  ⟨⟨(h.xo.kept hk).1, h.xr.kept hk, h.ok, h.fine, h.len, h.own, h.off⟩, fun k hk' => (h.xo.kept hk).2 k (.inl hk')⟩
theorem PXm.more (h : PXm w0 R W q q2 E c M v tb tj) (hk : Kept W W') (B : Nat) (h1 : W.heap.size ≤ B) (h2 : B < W'.heap.size) : PXm w0 (fun k => R k ∨ k = B) W' q q2 E c M v tb tj :=
  ⟨(h.xo.more hk B h1 h2).less fun k hk => by rcases hk with (h | h) | h; exact .inl (.inl h); exact .inr h; exact .inl (.inr h), h.xr.kept hk, h.ok, h.fine, h.len, h.own, fun k hk hi => by
    rcases hk with h' | rfl
    · exact h.off k h' hi
    · have := h.xr.lt hi; omega⟩
theorem PX.half (h : PX w0 R W q q2 E c M v tb tj) (h1 : XO w0 (fun k => R k ∨ InX M q2 v tb k) W' q E') (hs : SameR (fun k => R k ∨ InX M q2 v tb k) W W') : PXm w0 R W' q q2 E' c M v tb tj ∧ SameR R W W' :=
  ⟨⟨h1, h.xr.same fun b hb => hs b (.inr hb), h.ok, h.fine, h.len, h.own, h.off⟩, fun k hk => hs k (.inl hk)⟩
theorem PXm.whole (h : PXm w0 R W q q2 E c M v tb tj) (he : M.xt = E) : PX w0 R W q q2 E c M v tb tj :=
  ⟨h.xo, h.xr, he, h.ok, h.fine, h.len, h.own, h.off⟩
theorem PXm.full {M' : RM} (h : PXm w0 R W q q2 E c M v tb tj) (h2 : XR W' q2 M' v tb tj) (hb : But (InX M q2 v tb) W W') (hl : RM.Like M M') (he : M'.xt = E) :
    PX w0 R W' q q2 E c M' v tb tj ∧ SameR R W W' := by
  have hin : ∀ k, InX M' q2 v tb k → InX M q2 v tb k := fun k hk => (InX_like hl k).1 hk
  refine ⟨⟨h.xo.but_ hb (fun k hk => .inr hk) h.own (fun k hk => .inl (hk.imp id (hin k))), h2, he, h.ok.like hl, h.fine.like hl, by rw [hl.len]; exact h.len, fun k hk => h.own k (hin k hk), fun k hk hi => h.off k hk (hin k hi)⟩, fun k hk => ?_⟩
  have hlt : k < W.heap.size := by obtain ⟨S, _, _, _, h4⟩ := h.xo; exact (h4 k (.inl hk)).1
  exact hb.block k hlt (h.off k hk)
theorem PXm.added {d : Int} {M' : RM} {v' : Value} {tb' : Nat → Nat} {tj' : Nat → List Value} (h : PXm w0 R W q q2 E c M v tb tj) (h2 : XR W' q2 M' v' tb' tj') (hb : But (InX M q2 v tb) W W') (hin : ∀ b, InX M' q2 v' tb' b → InX M q2 v tb b ∨ W.heap.size ≤ b) (he : M'.xt = E)
    (hM : M' = M ∨ ∃ n, n ≤ 600 ∧ 0 ≤ d ∧ ¬ M.at_ d < M.length ∧ M' = M ++ [(d, List.replicate n false)]) (hd : d ≤ 9223372036854775807) (hc : c ≤ 1000) : PX w0 R W' q q2 E (c + 1) M' v' tb' tj' ∧ SameR R W W' := by
  have hml := h.len
  have hlt : ∀ k, R k → k < W.heap.size := fun k hk => by obtain ⟨S, _, _, _, h4⟩ := h.xo; exact (h4 k (.inl hk)).1
  have h3 : RM.Ok M' ∧ RM.Fine M' ∧ M'.length ≤ c + 1 := by
    rcases hM with rfl | ⟨n, hn, h0, hat, rfl⟩
    · exact ⟨h.ok, h.fine, by omega⟩
    · exact ⟨RM.ok_app h.ok (by omega) hn, RM.fine_app h.fine _ h0 hd hat, by rw [List.length_append]; simp; omega⟩
  refine ⟨⟨h.xo.but_ hb (fun k hk => .inr hk) h.own (fun k hk => ?_), h2, he, h3.1, h3.2.1, h3.2.2, fun k hk => ?_, fun k hk hi => ?_⟩, fun k hk => hb.block k (hlt k hk) (h.off k hk)⟩
  · rcases hk with hk | hk
    · exact .inl (.inl hk)
    · rcases hin k hk with h' | h'
      · exact .inl (.inr h')
      · exact .inr ⟨h', h2.lt hk⟩
  · rcases hin k hk with h' | h'
    · exact h.own k h'
    · exact Nat.le_trans h.xo.keeps.size h'
  · rcases hin k hi with h' | h'
    · exact h.off k hk h'
    · have := hlt k hk; omega
theorem PX.c1 (h : PX w0 R W q q2 E c M v tb tj) : PX w0 R W q q2 E (c + 1) M v tb tj :=
  ⟨h.xo, h.xr, h.eq, h.ok, h.fine, Nat.le_succ_of_le h.len, h.own, h.off⟩
theorem px_TakeAt (h : PX w0 R W q q2 E c M v tb tj) (d a : Int) (ha : IsI64 a) :
    Calls Tryd.prog 13 #[.pointer (some ⟨q, 0, none⟩), .agg #[.int .i64 d, .int .i64 a]] W fun e w' => e = .returned (.int .i64 (chgX true M.xt d a).1) ∧ PXm w0 R w' q q2 (chgX true M.xt d a).2 c M v tb tj ∧ SameR R W w' :=
  (xo_TakeAt h.xo d a ha.1 (by have := ha.2; omega)).mono fun e w' ⟨h1, h2, h3⟩ => by rw [h.eq]; exact ⟨h1, h.half h2 h3⟩
theorem px_TakeAt2 {d a : Int} (h : PXm w0 R W q q2 (chgX true M.xt d a).2 c M v tb tj) :
    Calls Tryd.prog 36 #[.pointer (some ⟨q2, 0, none⟩), .agg #[.int .i64 d, .int .i64 a]] W fun e w' => e = .returned (.int .i64 (chgX true M.xt d a).1) ∧ ∃ E' M', PX w0 R w' q q2 E' c M' v tb tj ∧ SameR R W w' :=
  (xr_TakeAt h.xr h.ok d a).mono fun e w' ⟨M', h1, h2, h3, h4, h5⟩ => ⟨h1, _, M', h.full h2 h5 h4 h3⟩
theorem px_Free (h : PX w0 R W q q2 E c M v tb tj) (d a : Int) (ha : IsI64 a) :
    Calls Tryd.prog 9 #[.pointer (some ⟨q, 0, none⟩), .agg #[.int .i64 d, .int .i64 a]] W fun e w' => e = .returned (.int .i64 (chgX false M.xt d a).1) ∧ PXm w0 R w' q q2 (chgX false M.xt d a).2 c M v tb tj ∧ SameR R W w' :=
  (xo_Free h.xo d a ha.1 (by have := ha.2; omega)).mono fun e w' ⟨h1, h2, h3⟩ => by rw [h.eq]; exact ⟨h1, h.half h2 h3⟩
theorem px_Free2 {d a : Int} (h : PXm w0 R W q q2 (chgX false M.xt d a).2 c M v tb tj) :
    Calls Tryd.prog 37 #[.pointer (some ⟨q2, 0, none⟩), .agg #[.int .i64 d, .int .i64 a]] W fun e w' => e = .returned (.int .i64 (chgX false M.xt d a).1) ∧ ∃ E' M', PX w0 R w' q q2 E' c M' v tb tj ∧ SameR R W w' :=
  (xr_Free h.xr h.ok d a).mono fun e w' ⟨M', h1, h2, h3, h4, h5⟩ => ⟨h1, _, M', h.full h2 h5 h4 h3⟩
theorem px_Has (h : PX w0 R W q q2 E c M v tb tj) (d a : Int) (ha : IsI64 a) :
    Calls Tryd.prog 12 #[.pointer (some ⟨q, 0, none⟩), .agg #[.int .i64 d, .int .i64 a]] W fun e w' => e = .returned (.bool (hasX M.xt d a == 0)) ∧ PXm w0 R w' q q2 M.xt c M v tb tj ∧ SameR R W w' :=
  (xo_Has h.xo d a ha.1 (by have := ha.2; omega)).mono fun e w' ⟨h1, h2, h3⟩ => by rw [h.eq]; exact ⟨h1, h.half h2 h3⟩
theorem px_Has2 {d a : Int} (h : PXm w0 R W q q2 M.xt c M v tb tj) :
    Calls Tryd.prog 38 #[.pointer (some ⟨q2, 0, none⟩), .agg #[.int .i64 d, .int .i64 a]] W fun e w' => e = .returned (.bool (hasX M.xt d a == 0)) ∧ ∃ E' M', PX w0 R w' q q2 E' c M' v tb tj ∧ SameR R W w' :=
  (xr_Has h.xr h.ok d a).mono fun e w' ⟨h1, h2⟩ => ⟨h1, _, M, (h.whole rfl).kept h2⟩
theorem px_Add (h : PX w0 R W q q2 E c M v tb tj) (d z : Int) :
    Calls Tryd.prog 7 #[.pointer (some ⟨q, 0, none⟩), .int .i64 d, .int .i64 z] W fun e w' => e = .returned (.int .i64 (addX M.xt d z).1) ∧ PXm w0 R w' q q2 (addX M.xt d z).2 c M v tb tj ∧ SameR R W w' :=
  (xo_AddX h.xo d z).mono fun e w' ⟨h1, h2, h3⟩ => by rw [h.eq]; exact ⟨h1, h.half h2 h3⟩
theorem px_Add2 {d z : Int} (h : PXm w0 R W q q2 (addX M.xt d z).2 c M v tb tj) (hd : IsI64 d) (hc : c ≤ 1000) :
    Calls Tryd.prog 35 #[.pointer (some ⟨q2, 0, none⟩), .int .i64 d, .int .i64 z] W fun e w' => e = .returned (.int .i64 (addX M.xt d z).1) ∧ ∃ E' M' v' tb' tj', PX w0 R w' q q2 E' (c + 1) M' v' tb' tj' ∧ SameR R W w' :=
  (xr_Add h.xr (by have := h.len; omega) d z).mono fun e w' ⟨h1, M', v', tb', tj', h2, h3, h4, h5, h6⟩ => ⟨h1, _, M', v', tb', tj', h.added h2 h4 h5 h3 h6 hd.2 hc⟩
theorem px_Take (h : PX w0 R W q q2 E c M v tb tj) (hT : DbAt w0) (d : Int) :
    Calls Tryd.prog 11 #[.pointer (some ⟨q, 0, none⟩), .int .i64 d] W fun e w' => ∃ x E', e = .returned x ∧ TakeR M.xt d x E' ∧ PXm w0 R w' q q2 E' c M v tb tj ∧ SameR R W w' :=
  (xo_Take h.xo hT d).mono fun e w' ⟨x, E', h1, h2, h3, h4⟩ => by rw [h.eq]; exact ⟨x, E', h1, h2, h.half h3 h4⟩
theorem px_Take2 {d : Int} {x : Value} {E' : XT} (h : PXm w0 R W q q2 E' c M v tb tj) (ht : TakeR M.xt d x E') :
    Calls Tryd.prog 39 #[.pointer (some ⟨q2, 0, none⟩), .int .i64 d] W fun e w' => e = .returned x ∧ ∃ M', PX w0 R w' q q2 E' c M' v tb tj ∧ SameR R W w' :=
  (xr_Take h.xr h.ok d).mono fun e w' ⟨y, M', h1, h2, h3, h4, h5⟩ => by
    obtain ⟨hxy, hE⟩ := ht.det h2
    rw [hxy]
    exact ⟨h1, M', h.full h3 h5 h4 hE.symm⟩
/-- what an answer of Take looks like -/
theorem TakeR.form {E E' : XT} {d : Int} {x : Value} (h : TakeR E d x E') : ∃ a b e, x = extV a b e := by
  rcases h with ⟨_, rfl, _⟩ | ⟨n, s, _, ⟨_, rfl, _⟩ | ⟨i, _, _, _, rfl, _⟩⟩
  all_goals exact ⟨_, _, _, rfl⟩
end
end Go.Proofs.YtglplhmclfekfaaDoor
