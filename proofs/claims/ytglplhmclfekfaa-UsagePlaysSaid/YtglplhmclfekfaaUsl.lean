/- shown: what must be in any case. -/
import Derived.Test.YtglplhmclfekfaaUsk
namespace Go.Proofs.Ytglplhmclfekfaa
open Go.RowKit Go.ChangeMaps Go.MapKept
set_option linter.unusedVariables false
set_option linter.unusedSimpArgs false

def s1 : Tab := Tab.empty.open_ 3 4
def s2 : Tab := s1.open_ 5 2
def s3 : Tab := s2.put 3 1 7
def s4 : Tab := s3.put 5 0 8
def s5 : Tab := s4.put 5 1 7
theorem ok1 : s1.Ok := Tab.Ok.empty.open_ rfl (by decide) (by decide)
theorem ok2 : s2.Ok := ok1.open_ (by decide) (by decide) (by decide)
theorem ok3 : s3.Ok := ok2.put (by decide) (by decide)
theorem ok4 : s4.Ok := ok3.put (by decide) (by decide)
theorem ok5 : s5.Ok := ok4.put (by decide) (by decide)
section
variable {w W : World} {R : Nat → Prop} {p : Nat}
theorem shown_o1 (h : Own w R W p Tab.empty) : Calls Try.prog 27 #[.pointer (some ⟨p, 0, none⟩), .int .i64 3, .int .i64 4] W fun e w' => e = .returned (.int .i64 0) ∧ Own w R w' p s1 ∧ SameR R W w' :=
  own_Open h 3 4 (by decide) (by decide) (by decide) rfl
theorem shown_o2 (h : Own w R W p s1) : Calls Try.prog 27 #[.pointer (some ⟨p, 0, none⟩), .int .i64 5, .int .i64 2] W fun e w' => e = .returned (.int .i64 0) ∧ Own w R w' p s2 ∧ SameR R W w' :=
  own_Open h 5 2 (by decide) (by decide) (by decide) (by decide)
theorem shown_p1 (h : Own w R W p s2) : Calls Try.prog 28 #[.pointer (some ⟨p, 0, none⟩), .int .i64 3, .int .i64 1, .int .i64 7] W fun e w' => e = .returned (.int .i64 0) ∧ Own w R w' p s3 ∧ SameR R W w' :=
  own_Put h ok2 3 7 1 (by decide) (by decide)
theorem shown_p2 (h : Own w R W p s3) : Calls Try.prog 28 #[.pointer (some ⟨p, 0, none⟩), .int .i64 5, .int .i64 0, .int .i64 8] W fun e w' => e = .returned (.int .i64 0) ∧ Own w R w' p s4 ∧ SameR R W w' :=
  own_Put h ok3 5 8 0 (by decide) (by decide)
theorem shown_p3 (h : Own w R W p s4) : Calls Try.prog 28 #[.pointer (some ⟨p, 0, none⟩), .int .i64 5, .int .i64 1, .int .i64 7] W fun e w' => e = .returned (.int .i64 0) ∧ Own w R w' p s5 ∧ SameR R W w' :=
  own_Put h ok4 5 7 1 (by decide) (by decide)
theorem shown_p4 (h : Own w R W p s5) : Calls Try.prog 28 #[.pointer (some ⟨p, 0, none⟩), .int .i64 5, .int .i64 0, .int .i64 9] W fun e w' => e = .returned (.int .i64 9) ∧ W = w' :=
  own_Put_live h ok5 5 9 0 (x := 8) (by decide) (by decide) (by decide)
theorem shown_c1 (h : Own w R W p s5) : Calls Try.prog 75 #[.pointer (some ⟨p, 0, none⟩), .int .i64 3, .int .i64 1] W fun e w' => e = .returned (.int .i64 9) ∧ W = w' :=
  own_Clear_dead h ok5 3 1 (by decide)
theorem shown_f (h : Own w R W p s5) : Calls Try.prog 32 #[.pointer (some ⟨p, 0, none⟩), .int .i64 7] W fun e w' => e = .returned (.tuple #[.int .i64 5, .int .i64 1, .bool true]) ∧ Own w R w' p s5 ∧ SameR R W w' :=
  own_Find h 7 (some (5, 1)) (by decide)
theorem shown_h (h : Own w R W p s5) : Calls Try.prog 72 #[.pointer (some ⟨p, 0, none⟩), .int .i64 5] W fun e w' => e = .returned (.tuple #[.int .i64 0, .bool false]) ∧ W = w' :=
  own_Hole_none h ok5 5 (l := [8, 7]) (by decide) (by decide)
theorem shown_e (h : Own w R W p s5) (v : Value) (hs : ISl W v [5, 3, 9]) : Calls Try.prog 73 #[.pointer (some ⟨p, 0, none⟩), v] W fun e w' => e = .returned (.tuple #[.int .i64 3, .bool true]) ∧ Own w R w' p s5 ∧ SameR R W w' ∧ Kept W w' :=
  own_Emptiest h ok5 v [5, 3, 9] hs
theorem shown_b (h : Own w R W p s5) : Calls Try.prog 74 #[.pointer (some ⟨p, 0, none⟩), .int .i64 5, .int .i64 0] W fun e w' => e = .returned (.tuple #[.int .i64 8, .bool true]) ∧ W = w' :=
  own_Block h ok5 5 0 (by decide) (by decide)
theorem shown_n (h : Own w R W p s5) : Calls Try.prog 33 #[.pointer (some ⟨p, 0, none⟩), .int .i64 3] W fun e w' => e = .returned (.int .i64 0) ∧ Own w R w' p s5 ∧ SameR R W w' ∧ Kept W w' :=
  (own_Count h ok5 3 (l := [-1, -1, -1, -1]) (by decide)).mono fun e w' h => by
    rw [show (liveL [-1, -1, -1, -1]).length = 0 from by decide] at h
    exact h
theorem ISl.made (W : World) (l : List Int) (t : TypeId) (fr : Nat × Nat) (n : Nat) (hn : n = l.length) (hl : n ≤ maxLen) : ISl (W.alloc (.cells (ints l).toArray t fr)) (.slice (some ⟨W.heap.size, 0, none⟩) n n) l := by
  subst hn
  refine ⟨_, _, rfl, Nat.le_refl _, hl, fun k hk => ⟨_, _, rfl, ?_⟩⟩
  have := Cells.of_block (heap_alloc_new W (.cells (ints l).toArray t fr)) k (by simpa [ints] using hk)
  simpa [ints] using this
set_option maxHeartbeats 2000000
set_option maxRecDepth 100000
theorem usage_shown (w : World) : Calls Try.prog 20 #[] w fun e w' => e = .returned (.bool true) ∧ Kept w w' := by
  go_enter Try.func20, Try.ntmps20
  go_wp2_with (first
    | (go_at_call 21; refine (own_New w _ (Kept.refl _)).mono ?_; rintro e w1 ⟨p, rfl, h1, _⟩)
    | (go_at_call 27; refine (shown_o1 h1).mono ?_; rintro e w2 ⟨rfl, h2, _⟩; clear h1)
    | (go_at_call 27; refine (shown_o2 h2).mono ?_; rintro e w3 ⟨rfl, h3, _⟩; clear h2)
    | (go_at_call 28; refine (shown_p1 h3).mono ?_; rintro e w4 ⟨rfl, h4, _⟩; clear h3)
    | (go_at_call 28; refine (shown_p2 h4).mono ?_; rintro e w5 ⟨rfl, h5, _⟩; clear h4)
    | (go_at_call 28; refine (shown_p3 h5).mono ?_; rintro e w6 ⟨rfl, h6, _⟩; clear h5)
    | (go_at_call 32; refine (shown_f h6).mono ?_; rintro e w7 ⟨rfl, h7, _⟩; clear h6)
    | (go_at_call 72; refine (shown_h h7).mono ?_; rintro e w8 ⟨rfl, rfl⟩)
    | (go_at_call 73; refine (shown_e (h7.kept ((Kept.refl _).alloc _)).1 _ (ISl.made _ [5, 3, 9] _ _ 3 rfl (by decide))).mono ?_; rintro e w9 ⟨rfl, h9, _⟩; clear h7)
    | (go_at_call 74; refine (shown_b h9).mono ?_; rintro e w8 ⟨rfl, rfl⟩)
    | (go_at_call 33; refine (shown_n h9).mono ?_; rintro e w10 ⟨rfl, h10, _⟩; clear h9)
    | (go_at_call 28; refine (shown_p4 h10).mono ?_; rintro e w8 ⟨rfl, rfl⟩)
    | (go_at_call 75; refine (shown_c1 h10).mono ?_; rintro e w8 ⟨rfl, rfl⟩))
  go_ret
  exact ⟨rfl, h10.keeps⟩
end
end Go.Proofs.Ytglplhmclfekfaa
