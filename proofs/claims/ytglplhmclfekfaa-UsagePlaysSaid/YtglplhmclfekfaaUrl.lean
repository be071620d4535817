/- A table beside its document: each step, first the table's half, then the document's. -/
import Derived.Test.YtglplhmclfekfaaUrk
namespace Go.Proofs.Ytglplhmclfekfaa
open Go.RowKit
set_option linter.unusedVariables false
set_option linter.unusedSimpArgs false

section
variable {w0 W W' : World} {R : Nat → Prop} {p q c : Nat} {G G' : UG} {L L' : UL} {T T' : Tab} {vg vl vg' vl' : Value}
/-- both, side by side: they say T; of at most c groups and live slots; R: what else is apart from both -/
structure PU (w0 : World) (R : Nat → Prop) (W : World) (p q : Nat) (T : Tab) (c : Nat) (G : UG) (L : UL) (vg vl : Value) : Prop where
  own : Own w0 (fun k => R k ∨ InU q vg vl k) W p T
  ux : UX W q G L T c vg vl
  ge : ∀ k, InU q vg vl k → w0.heap.size ≤ k
  off : ∀ k, R k → ¬ InU q vg vl k
/-- the table has turned, its document has not yet -/
structure PUm (w0 : World) (R : Nat → Prop) (W : World) (p q : Nat) (T T' : Tab) (c : Nat) (G : UG) (L : UL) (vg vl : Value) : Prop where
  own : Own w0 (fun k => R k ∨ InU q vg vl k) W p T'
  ux : UX W q G L T c vg vl
  ge : ∀ k, InU q vg vl k → w0.heap.size ≤ k
  off : ∀ k, R k → ¬ InU q vg vl k
theorem PU.kept (h : PU w0 R W p q T c G L vg vl) (hk : Kept W W') : PU w0 R W' p q T c G L vg vl ∧ SameR R W W' :=
  ⟨⟨(h.own.kept hk).1, h.ux.kept hk, h.ge, h.off⟩, fun k hk' => (h.own.kept hk).2 k (.inl hk')⟩
theorem PU.less {R' : Nat → Prop} (h : PU w0 R W p q T c G L vg vl) (hr : ∀ k, R' k → R k) : PU w0 R' W p q T c G L vg vl :=
  ⟨h.own.less fun k hk => hk.imp (hr k) id, h.ux, h.ge, fun k hk => h.off k (hr k hk)⟩
theorem PU.more (h : PU w0 R W p q T c G L vg vl) (hk : Kept W W') (B : Nat) (h1 : W.heap.size ≤ B) (h2 : B < W'.heap.size) : PU w0 (fun k => R k ∨ k = B) W' p q T c G L vg vl :=
  ⟨(h.own.more hk B h1 h2).less fun k hk => by rcases hk with (h | h) | h; exact .inl (.inl h); exact .inr h; exact .inl (.inr h), h.ux.kept hk, h.ge, fun k hk hi => by
    rcases hk with h' | rfl
    · exact h.off k h' hi
    · have := h.ux.ud.lt hi; omega⟩
theorem PU.c1 (h : PU w0 R W p q T c G L vg vl) : PU w0 R W p q T (c + 1) G L vg vl :=
  ⟨h.own, ⟨h.ux.ud, h.ux.ur, h.ux.ok, Nat.le_succ_of_le h.ux.gl, Nat.le_succ_of_le h.ux.ll⟩, h.ge, h.off⟩
theorem PU.half (h : PU w0 R W p q T c G L vg vl) (h1 : Own w0 (fun k => R k ∨ InU q vg vl k) W' p T') (hs : SameR (fun k => R k ∨ InU q vg vl k) W W') : PUm w0 R W' p q T T' c G L vg vl ∧ SameR R W W' :=
  ⟨⟨h1, h.ux.same fun b hb => hs b (.inr hb), h.ge, h.off⟩, fun k hk => hs k (.inl hk)⟩
/-- blocks turn that are none of the table's; some are new -/
theorem Own.but_ (h : Own w0 R W p T) {D : Nat → Prop} (hb : But D W W') (ht : ∀ k, D k → R k) (h0 : ∀ k, D k → w0.heap.size ≤ k) {R' : Nat → Prop} (hr : ∀ k, R' k → R k ∨ (W.heap.size ≤ k ∧ k < W'.heap.size)) : Own w0 R' W' p T := by
  obtain ⟨S, h1, h2, h3, h4⟩ := h
  refine ⟨S, h1.but hb fun k hk ht' => (h4 k (ht k ht')).2 hk, But.to_kept h2 hb h0, h3, fun k hk => ?_⟩
  rcases hr k hk with h | ⟨ha, hb'⟩
  · exact ⟨Nat.lt_of_lt_of_le (h4 k h).1 hb.size, (h4 k h).2⟩
  · exact ⟨hb', fun hs => by have := h1.slt k hs; omega⟩
theorem PUm.full {c' : Nat} (h : PUm w0 R W p q T T' c G L vg vl) (h2 : UX W' q G' L' T' c' vg' vl') (hb : But (InU q vg vl) W W') (hin : ∀ b, InU q vg' vl' b → InU q vg vl b ∨ W.heap.size ≤ b) :
    PU w0 R W' p q T' c' G' L' vg' vl' ∧ SameR R W W' := by
  have hlt : ∀ k, R k → k < W.heap.size := fun k hk => by obtain ⟨S, _, _, _, h4⟩ := h.own; exact (h4 k (.inl hk)).1
  refine ⟨⟨h.own.but_ hb (fun k hk => .inr hk) h.ge (fun k hk => ?_), h2, fun k hk => ?_, fun k hk hi => ?_⟩, fun k hk => hb.block k (hlt k hk) (h.off k hk)⟩
  · rcases hk with hk | hk
    · exact .inl (.inl hk)
    · rcases hin k hk with h' | h'
      · exact .inl (.inr h')
      · exact .inr ⟨h', h2.ud.lt hk⟩
  · rcases hin k hk with h' | h'
    · exact h.ge k h'
    · exact Nat.le_trans h.own.keeps.size h'
  · rcases hin k hi with h' | h'
    · exact h.off k hk h'
    · have := hlt k hk; omega
theorem pu_Open (h : PU w0 R W p q T c G L vg vl) (n z : Int) : Calls Try.prog 27 #[.pointer (some ⟨p, 0, none⟩), .int .i64 n, .int .i64 z] W fun e w' => e = .returned (.int .i64 (openI T n z).1) ∧ PUm w0 R w' p q T (openI T n z).2 c G L vg vl ∧ SameR R W w' :=
  (own_OpenX h.own n z).mono fun e w' ⟨h1, h2, h3⟩ => ⟨h1, h.half h2 h3⟩
theorem pu_Open2 {n z : Int} (h : PUm w0 R W p q T (openI T n z).2 c G L vg vl) (hc : c < 10000) (hn : n ≤ 9223372036854775807) : Calls Try.prog 77 #[.pointer (some ⟨q, 0, none⟩), .int .i64 n, .int .i64 z] W fun e w' => e = .returned (.int .i64 (openI T n z).1) ∧ ∃ T' G' L' vg' vl', PU w0 R w' p q T' (c + 1) G' L' vg' vl' ∧ SameR R W w' :=
  (ur_Open h.ux hc n z hn).mono fun e w' ⟨h1, G', L', vg', vl', h2, h3, h4⟩ => ⟨h1, _, G', L', vg', vl', h.full h2 h3 h4⟩
theorem pu_Drop (h : PU w0 R W p q T c G L vg vl) (n : Int) : Calls Try.prog 29 #[.pointer (some ⟨p, 0, none⟩), .int .i64 n] W fun e w' => e = .returned (.int .i64 (dropI T n).1) ∧ PUm w0 R w' p q T (dropI T n).2 c G L vg vl ∧ SameR R W w' :=
  (own_DropX h.own n).mono fun e w' ⟨h1, h2, h3⟩ => ⟨h1, h.half h2 h3⟩
theorem pu_Drop2 {n : Int} (h : PUm w0 R W p q T (dropI T n).2 c G L vg vl) (hc : c < 10000) : Calls Try.prog 78 #[.pointer (some ⟨q, 0, none⟩), .int .i64 n] W fun e w' => e = .returned (.int .i64 (dropI T n).1) ∧ ∃ T' G' L' vg' vl', PU w0 R w' p q T' (c + 1) G' L' vg' vl' ∧ SameR R W w' :=
  (ur_Drop h.ux hc n).mono fun e w' ⟨h1, G', L', vg', vl', h2, h3, h4⟩ => ⟨h1, _, G', L', vg', vl', h.full h2 h3 h4⟩
theorem pu_Put (h : PU w0 R W p q T c G L vg vl) (n s b : Int) : Calls Try.prog 28 #[.pointer (some ⟨p, 0, none⟩), .int .i64 n, .int .i64 s, .int .i64 b] W fun e w' => e = .returned (.int .i64 (putI T n s b).1) ∧ PUm w0 R w' p q T (putI T n s b).2 c G L vg vl ∧ SameR R W w' :=
  (own_PutX h.own h.ux.ok n s b).mono fun e w' ⟨h1, h2, h3⟩ => ⟨h1, h.half h2 h3⟩
theorem pu_Put2 {n s b : Int} (h : PUm w0 R W p q T (putI T n s b).2 c G L vg vl) (hc : c < 10000) : Calls Try.prog 79 #[.pointer (some ⟨q, 0, none⟩), .int .i64 n, .int .i64 s, .int .i64 b] W fun e w' => e = .returned (.int .i64 (putI T n s b).1) ∧ ∃ T' G' L' vg' vl', PU w0 R w' p q T' (c + 1) G' L' vg' vl' ∧ SameR R W w' :=
  (ur_Put h.ux hc n s b).mono fun e w' ⟨h1, G', L', vg', vl', h2, h3, h4⟩ => ⟨h1, _, G', L', vg', vl', h.full h2 h3 h4⟩
theorem pu_Clear (h : PU w0 R W p q T c G L vg vl) (n s : Int) : Calls Try.prog 75 #[.pointer (some ⟨p, 0, none⟩), .int .i64 n, .int .i64 s] W fun e w' => e = .returned (.int .i64 (clearI T n s).1) ∧ PUm w0 R w' p q T (clearI T n s).2 c G L vg vl ∧ SameR R W w' :=
  (own_ClearX h.own h.ux.ok n s).mono fun e w' ⟨h1, h2, h3⟩ => ⟨h1, h.half h2 h3⟩
theorem pu_Clear2 {n s : Int} (h : PUm w0 R W p q T (clearI T n s).2 c G L vg vl) (hc : c < 10000) : Calls Try.prog 80 #[.pointer (some ⟨q, 0, none⟩), .int .i64 n, .int .i64 s] W fun e w' => e = .returned (.int .i64 (clearI T n s).1) ∧ ∃ T' G' L' vg' vl', PU w0 R w' p q T' (c + 1) G' L' vg' vl' ∧ SameR R W w' :=
  (ur_Clear h.ux hc n s).mono fun e w' ⟨h1, G', L', vg', vl', h2, h3, h4⟩ => ⟨h1, _, G', L', vg', vl', h.full h2 h3 h4⟩
theorem pu_Hole (h : PU w0 R W p q T c G L vg vl) (n : Int) : Calls Try.prog 72 #[.pointer (some ⟨p, 0, none⟩), .int .i64 n] W fun e w' => e = .returned (.tuple #[.int .i64 (holeI T n).1, .bool (holeI T n).2]) ∧ W = w' := by
  obtain ⟨S, h1, _⟩ := h.own
  exact tab_HoleX h1 h.ux.ok n
end
section
variable {w : World}
set_option maxHeartbeats 1000000
set_option maxRecDepth 100000
/-- law14.numbers, of two lists that are the same -/
theorem law_numbers (w : World) (v u : Value) (l : List Int) (hl : l.length ≤ 100000) (h1 : CSl w v l) (h2 : CSl w u l) : Calls Try.prog 83 #[v, u] w fun e w' => e = .returned (.bool true) ∧ Kept w w' := by
  obtain ⟨oa, cap, rfl, hc1⟩ := h1
  obtain ⟨ob, cap2, rfl, hc2⟩ := h2
  have HC1 := Lib.hid hc1
  have HC2 := Lib.hid hc2
  clear hc1 hc2
  go_enter Try.func83, Try.ntmps83
  go_wp2
  go_loopw [5] (fun i wr => ∃ k : Nat, k ≤ l.length ∧ i = .int .i64 k ∧ Hid (Kept w wr)) (fun i _ => l.length - (intOf i).toNat)
  case atStart => exact ⟨0, Nat.zero_le _, rfl, Lib.hid (Kept.refl _)⟩
  case round =>
    obtain ⟨k, hk, rfl, HK⟩ := hrel
    by_cases hlt : k < l.length
    · obtain ⟨b1, rfl, c1⟩ := HC1.out k hlt
      obtain ⟨b2, rfl, c2⟩ := HC2.out k hlt
      have c1r := HK.out.cell' c1
      have c2r := HK.out.cell' c2
      clear c1 c2
      generalize l[k] = x at *
      go_upto_region 6 with fail
      go_quiet (fail)
      have HK2 := Lib.hid (fun n => HK.out.drewN n)
      go_wp2
      go_roundw
      case rel => exact ⟨k + 1, hlt, by go_num, Lib.hid (HK2.out _)⟩
      case measure => simp [intOf]; omega
    · have hkk : k = l.length := by omega
      subst hkk
      go_wp2
      go_ret
      exact ⟨rfl, HK.out⟩
end
end Go.Proofs.Ytglplhmclfekfaa
