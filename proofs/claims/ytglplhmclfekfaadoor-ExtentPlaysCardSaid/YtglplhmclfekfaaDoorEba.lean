/- ExtentBounds: the walk. -/
import Derived.Test.YtglplhmclfekfaaDoorEca
namespace Go.Proofs.YtglplhmclfekfaaDoor
open Go.RowKit Go.ChangeMaps Go.MapKept
set_option linter.unusedVariables false
set_option linter.unusedSimpArgs false

/-- a law's map, and two variables of its own, each an extent -/
structure Two (w0 W : World) (q : Nat) (E : XT) (b1 : Nat) (d1 a1 : Int) (b2 : Nat) (d2 a2 : Int) : Prop where
  x : XO w0 (fun k => (k < w0.heap.size ∨ k = b1) ∨ k = b2) W q E
  c1 : W.heap[b1]? = some (.cells #[Value.int .i64 d1, .int .i64 a1] 33 (0, 0))
  c2 : W.heap[b2]? = some (.cells #[Value.int .i64 d2, .int .i64 a2] 33 (0, 0))
section
variable {w0 W : World} {q : Nat} {E : XT} {b1 : Nat} {d1 a1 : Int} {b2 : Nat} {d2 a2 : Int}
theorem Two.cell10 (h : Two w0 W q E b1 d1 a1 b2 d2 a2) : W.cell? ⟨b1, 0, none⟩ = some (.int .i64 d1) := by rw [cell_of_row _ _ _ _ _ _ h.c1]; rfl
theorem Two.cell11 (h : Two w0 W q E b1 d1 a1 b2 d2 a2) : W.cell? ⟨b1, 1, none⟩ = some (.int .i64 a1) := by rw [cell_of_row _ _ _ _ _ _ h.c1]; rfl
theorem Two.cell20 (h : Two w0 W q E b1 d1 a1 b2 d2 a2) : W.cell? ⟨b2, 0, none⟩ = some (.int .i64 d2) := by rw [cell_of_row _ _ _ _ _ _ h.c2]; rfl
theorem Two.cell21 (h : Two w0 W q E b1 d1 a1 b2 d2 a2) : W.cell? ⟨b2, 1, none⟩ = some (.int .i64 a2) := by rw [cell_of_row _ _ _ _ _ _ h.c2]; rfl
theorem Two.go {W' : World} {E' : XT} (h : Two w0 W q E b1 d1 a1 b2 d2 a2) (k : XO w0 (fun k => (k < w0.heap.size ∨ k = b1) ∨ k = b2) W' q E') (r : SameR (fun k => (k < w0.heap.size ∨ k = b1) ∨ k = b2) W W') : Two w0 W' q E' b1 d1 a1 b2 d2 a2 :=
  ⟨k, (r _ (.inl (.inr rfl))).trans h.c1, (r _ (.inr rfl)).trans h.c2⟩
theorem two_TakeAt (h : Two w0 W q E b1 d1 a1 b2 d2 a2) (d a : Int) (ha : -9223372036854775808 ≤ a ∧ a ≤ 9223372036854775807) {v : Int} {E' : XT} (hv : chgX true E d a = (v, E')) :
    Calls Tryd.prog 13 #[.pointer (some ⟨q, 0, none⟩), .agg #[.int .i64 d, .int .i64 a]] W fun e w' => e = .returned (.int .i64 v) ∧ Two w0 w' q E' b1 d1 a1 b2 d2 a2 :=
  (xo_TakeAt h.x d a ha.1 (by omega)).mono fun e w' ⟨he, k, r⟩ => by rw [hv] at he k; exact ⟨he, h.go k r⟩
theorem two_Free (h : Two w0 W q E b1 d1 a1 b2 d2 a2) (d a : Int) (ha : -9223372036854775808 ≤ a ∧ a ≤ 9223372036854775807) {v : Int} {E' : XT} (hv : chgX false E d a = (v, E')) :
    Calls Tryd.prog 9 #[.pointer (some ⟨q, 0, none⟩), .agg #[.int .i64 d, .int .i64 a]] W fun e w' => e = .returned (.int .i64 v) ∧ Two w0 w' q E' b1 d1 a1 b2 d2 a2 :=
  (xo_Free h.x d a ha.1 (by omega)).mono fun e w' ⟨he, k, r⟩ => by rw [hv] at he k; exact ⟨he, h.go k r⟩
theorem two_Has (h : Two w0 W q E b1 d1 a1 b2 d2 a2) (d a : Int) (ha : -9223372036854775808 ≤ a ∧ a ≤ 9223372036854775807) {v : Bool} (hv : (hasX E d a == 0) = v) :
    Calls Tryd.prog 12 #[.pointer (some ⟨q, 0, none⟩), .agg #[.int .i64 d, .int .i64 a]] W fun e w' => e = .returned (.bool v) ∧ Two w0 w' q E b1 d1 a1 b2 d2 a2 :=
  (xo_Has h.x d a ha.1 (by omega)).mono fun e w' ⟨he, k, r⟩ => by rw [hv] at he; exact ⟨he, h.go k r⟩
theorem two_Used (h : Two w0 W q E b1 d1 a1 b2 d2 a2) (d : Int) {v : Nat} (hv : usedX E d = v) :
    Calls Tryd.prog 14 #[.pointer (some ⟨q, 0, none⟩), .int .i64 d] W fun e w' => e = .returned (.int .i64 (v : Int)) ∧ Two w0 w' q E b1 d1 a1 b2 d2 a2 :=
  (xo_Used h.x d).mono fun e w' ⟨he, hw⟩ => by rw [hv] at he; exact ⟨he, hw ▸ h⟩
end
def isK (b : Int) (k : Nat) : Bool := (List.range k).any fun j => b == 114 + (j : Int) * 8
theorem isK_next (b : Int) (k : Nat) : isK b (k + 1) = (isK b k || b == 114 + (k : Int) * 8) := by
  unfold isK; rw [List.range_succ, List.any_append]; simp
theorem isK_true {b : Int} {n : Nat} (h : isK b n = true) : ∃ i : Nat, i < n ∧ b = 114 + (i : Int) * 8 := by
  unfold isK at h
  obtain ⟨i, hi, he⟩ := List.any_eq_true.1 h
  exact ⟨i, List.mem_range.1 hi, by simpa using he⟩
theorem isK_false {b : Int} {n : Nat} (h : isK b n = false) (i : Int) (hi : idxE b = some i) : ¬ i.toNat < n := by
  intro hl
  have h0 := idxE_nonneg hi
  have : isK b n = true := by
    unfold isK
    refine List.any_eq_true.2 ⟨i.toNat, List.mem_range.2 hl, ?_⟩
    unfold idxE at hi
    split at hi
    · cases hi
    · split at hi
      · injection hi with hi; simp; omega
      · cases hi
  rw [this] at h; cases h
def e0X (n : Nat) : XT := XT.none_.set 2 n (fun _ => false)
theorem e0X_2 (n : Nat) : e0X n 2 = some (n, fun _ => false) := rfl
theorem e0X_3 (n : Nat) : e0X n 3 = none := rfl
theorem set_at (E : XT) (d : Int) (n : Nat) (s : Nat → Bool) : (E.set d n s) d = some (n, s) := by simp [XT.set]
theorem has_e0 (n : Nat) (b : Int) : (hasX (e0X n) 2 b == 0) = false := by
  unfold hasX; rw [e0X_2]
  cases idxE b with
  | none => rfl
  | some i => dsimp only; split <;> rfl
theorem chg_no (c : Bool) (n : Nat) {b : Int} (h : isK b n = false) : chgX c (e0X n) 2 b = (1, e0X n) := by
  unfold chgX; rw [e0X_2]
  cases hi : idxE b with
  | none => rfl
  | some i => dsimp only; rw [if_neg (isK_false h i hi)]
theorem chg_at (c : Bool) {E : XT} {d : Int} {n : Nat} {s : Nat → Bool} (hd : E d = some (n, s)) {i : Nat} (hi : i < n) : chgX c E d (114 + (i : Int) * 8) = if s i = c then (9, E) else (0, E.set d n (setS s i c)) := by
  unfold chgX; rw [hd]; dsimp only; rw [idx_place]; dsimp only; rw [Int.toNat_natCast, if_pos hi]
theorem has_at {E : XT} {d : Int} {n : Nat} {s : Nat → Bool} (hd : E d = some (n, s)) {i : Nat} (hi : i < n) : hasX E d (114 + (i : Int) * 8) = if s i then 0 else 9 := by
  unfold hasX; rw [hd]; dsimp only; rw [idx_place]; dsimp only; rw [Int.toNat_natCast, if_pos hi]
theorem setS_self (s : Nat → Bool) (i : Nat) (c : Bool) : setS s i c i = c := by simp [setS]
theorem used_at {E : XT} {d : Int} {n : Nat} {s : Nat → Bool} (hd : E d = some (n, s)) : usedX E d = cntS n s := by unfold usedX; rw [hd]
theorem cnt_one (n i : Nat) (hi : i < n) : cntS n (setS (fun _ => false) i true) = 1 := by
  have := cnt_set n i (fun _ => false) true hi
  rw [cnt_zero] at this
  simpa using this
set_option maxHeartbeats 4000000
set_option maxRecDepth 100000
--
--
--
--
--
--
--
--
--
--
--
--
--
--
--
--
--
--
--
--
--
--
--
--
--
--
--
--
--
--
--
--
--
--
--
--
--
--
--
--
--
--
--
--
--
--
--
--
--
--
--
--
--
--
--
--
--
--
--
--
--
--
--
--
--
--
--
--
--
--
--
--
--
--
--
--
--
--
--
--
--
--
--
--
--
--
--
--
--
--
--
--
--
--
--
--
--
--
--
--
--
--
--
--
--
--
--
--
--
--
--
--
--
--
--
--
--
--
--
--
--
--
--
--
--
--
--
--
--
--
--
--
--
--
--
--
--
--
--
--
--
--
--
--
--
--
--
--
--
--
--
--
--
--
--
--
--
--
--
--
--
--
--
--
--
--
--
--
--
--
--
--
--
--
--
--
--
--
--
--
--
--
--
--
--
--
--
--
--
--
--
--
--
--
--
--
--
--
--
--
--
--
--
--
--
--
--
--
--
--
--
--
--
--
--
--
--
--
--
--
--
--
--
--
--
--
--
end Go.Proofs.YtglplhmclfekfaaDoor
