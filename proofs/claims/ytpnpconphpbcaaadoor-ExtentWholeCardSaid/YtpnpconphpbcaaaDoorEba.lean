/- ExtentBounds: the walk. -/
import Derived.Test.YtpnpconphpbcaaaDoorEca
namespace Go.Proofs.YtpnpconphpbcaaaDoor
open Go.RowKit Go.ChangeMaps Go.MapKept
set_option linter.unusedVariables false
set_option linter.unusedSimpArgs false

/-- a law's map, and two variables of its own, each an extent -/
structure Two (w0 W : World) (q : Nat) (E : XT) (b1 : Nat) (d1 a1 : Int) (b2 : Nat) (d2 a2 : Int) : Prop where
  x : XO w0 (fun k => (k < w0.heap.size ∨ k = b1) ∨ k = b2) W q E
  c1 : W.heap[b1]? = some (.cells #[Value.int .i64 d1, .int .i64 a1] 35 (0, 0))
  c2 : W.heap[b2]? = some (.cells #[Value.int .i64 d2, .int .i64 a2] 35 (0, 0))
section
variable {w0 W : World} {q : Nat} {E : XT} {b1 : Nat} {d1 a1 : Int} {b2 : Nat} {d2 a2 : Int}
theorem Two.cell10 (h : Two w0 W q E b1 d1 a1 b2 d2 a2) : W.cell? ⟨b1, 0, none⟩ = some (.int .i64 d1) := by rw [cell_of_row _ _ _ _ _ _ h.c1]; rfl
theorem Two.cell11 (h : Two w0 W q E b1 d1 a1 b2 d2 a2) : W.cell? ⟨b1, 1, none⟩ = some (.int .i64 a1) := by rw [cell_of_row _ _ _ _ _ _ h.c1]; rfl
theorem Two.cell20 (h : Two w0 W q E b1 d1 a1 b2 d2 a2) : W.cell? ⟨b2, 0, none⟩ = some (.int .i64 d2) := by rw [cell_of_row _ _ _ _ _ _ h.c2]; rfl
theorem Two.cell21 (h : Two w0 W q E b1 d1 a1 b2 d2 a2) : W.cell? ⟨b2, 1, none⟩ = some (.int .i64 a2) := by rw [cell_of_row _ _ _ _ _ _ h.c2]; rfl
theorem Two.go {W' : World} {E' : XT} (h : Two w0 W q E b1 d1 a1 b2 d2 a2) (k : XO w0 (fun k => (k < w0.heap.size ∨ k = b1) ∨ k = b2) W' q E') (r : SameR (fun k => (k < w0.heap.size ∨ k = b1) ∨ k = b2) W W') : Two w0 W' q E' b1 d1 a1 b2 d2 a2 :=
  ⟨k, (r _ (.inl (.inr rfl))).trans h.c1, (r _ (.inr rfl)).trans h.c2⟩
theorem two_TakeAt (h : Two w0 W q E b1 d1 a1 b2 d2 a2) (d a : Int) (ha : -9223372036854775808 ≤ a ∧ a ≤ 9223372036854775807) {v : Int} {E' : XT} (hv : chgX true E d a = (v, E')) :
    Calls Tryd.prog 16 #[.pointer (some ⟨q, 0, none⟩), .agg #[.int .i64 d, .int .i64 a]] W fun e w' => e = .returned (.int .i64 v) ∧ Two w0 w' q E' b1 d1 a1 b2 d2 a2 :=
  (xo_TakeAt h.x d a ha.1 (by omega)).mono fun e w' ⟨he, k, r⟩ => by rw [hv] at he k; exact ⟨he, h.go k r⟩
theorem two_Free (h : Two w0 W q E b1 d1 a1 b2 d2 a2) (d a : Int) (ha : -9223372036854775808 ≤ a ∧ a ≤ 9223372036854775807) {v : Int} {E' : XT} (hv : chgX false E d a = (v, E')) :
    Calls Tryd.prog 20 #[.pointer (some ⟨q, 0, none⟩), .agg #[.int .i64 d, .int .i64 a]] W fun e w' => e = .returned (.int .i64 v) ∧ Two w0 w' q E' b1 d1 a1 b2 d2 a2 :=
  (xo_Free h.x d a ha.1 (by omega)).mono fun e w' ⟨he, k, r⟩ => by rw [hv] at he k; exact ⟨he, h.go k r⟩
theorem two_Has (h : Two w0 W q E b1 d1 a1 b2 d2 a2) (d a : Int) (ha : -9223372036854775808 ≤ a ∧ a ≤ 9223372036854775807) {v : Bool} (hv : (hasX E d a == 0) = v) :
    Calls Tryd.prog 21 #[.pointer (some ⟨q, 0, none⟩), .agg #[.int .i64 d, .int .i64 a]] W fun e w' => e = .returned (.bool v) ∧ Two w0 w' q E b1 d1 a1 b2 d2 a2 :=
  (xo_Has h.x d a ha.1 (by omega)).mono fun e w' ⟨he, k, r⟩ => by rw [hv] at he; exact ⟨he, h.go k r⟩
theorem two_Used (h : Two w0 W q E b1 d1 a1 b2 d2 a2) (d : Int) {v : Nat} (hv : usedX E d = v) :
    Calls Tryd.prog 18 #[.pointer (some ⟨q, 0, none⟩), .int .i64 d] W fun e w' => e = .returned (.int .i64 (v : Int)) ∧ Two w0 w' q E b1 d1 a1 b2 d2 a2 :=
  (xo_Used h.x d).mono fun e w' ⟨he, hw⟩ => by rw [hv] at he; exact ⟨he, hw ▸ h⟩
end
def isK (b : Int) (k : Nat) : Bool := (List.range k).any fun j => b == 114 + (j : Int) * 8
theorem isK_next (b : Int) (k : Nat) : isK b (k + 1) = (isK b k || b == 114 + (k : Int) * 8) := by
  unfold isK; rw [List.range_succ, List.any_append]; simp
theorem isK_true {b : Int} {n : Nat} (h : isK b n = true) : ∃ i : Nat, i < n ∧ b = 114 + (i : Int) * 8 := by
  unfold isK at h
  obtain ⟨i, hi, he⟩ := List.any_eq_true.1 h
  exact ⟨i, List.mem_range.1 hi, by simpa using he⟩
theorem isK_false {b : Int} {n : Nat} (h : isK b n = false) (i : Int) (hi : idxE b = some i) : ¬ i.toNat < n := by
  intro hl
  have h0 := idxE_nonneg hi
  have : isK b n = true := by
    unfold isK
    refine List.any_eq_true.2 ⟨i.toNat, List.mem_range.2 hl, ?_⟩
    unfold idxE at hi
    split at hi
    · cases hi
    · split at hi
      · injection hi with hi; simp; omega
      · cases hi
  rw [this] at h; cases h
def e0X (n : Nat) : XT := XT.none_.set 2 n (fun _ => false)
theorem e0X_2 (n : Nat) : e0X n 2 = some (n, fun _ => false) := rfl
theorem e0X_3 (n : Nat) : e0X n 3 = none := rfl
theorem set_at (E : XT) (d : Int) (n : Nat) (s : Nat → Bool) : (E.set d n s) d = some (n, s) := by simp [XT.set]
theorem has_e0 (n : Nat) (b : Int) : (hasX (e0X n) 2 b == 0) = false := by
  unfold hasX; rw [e0X_2]
  cases idxE b with
  | none => rfl
  | some i => dsimp only; split <;> rfl
theorem chg_no (c : Bool) (n : Nat) {b : Int} (h : isK b n = false) : chgX c (e0X n) 2 b = (1, e0X n) := by
  unfold chgX; rw [e0X_2]
  cases hi : idxE b with
  | none => rfl
  | some i => dsimp only; rw [if_neg (isK_false h i hi)]
theorem chg_at (c : Bool) {E : XT} {d : Int} {n : Nat} {s : Nat → Bool} (hd : E d = some (n, s)) {i : Nat} (hi : i < n) : chgX c E d (114 + (i : Int) * 8) = if s i = c then (9, E) else (0, E.set d n (setS s i c)) := by
  unfold chgX; rw [hd]; dsimp only; rw [idx_place]; dsimp only; rw [Int.toNat_natCast, if_pos hi]
theorem has_at {E : XT} {d : Int} {n : Nat} {s : Nat → Bool} (hd : E d = some (n, s)) {i : Nat} (hi : i < n) : hasX E d (114 + (i : Int) * 8) = if s i then 0 else 9 := by
  unfold hasX; rw [hd]; dsimp only; rw [idx_place]; dsimp only; rw [Int.toNat_natCast, if_pos hi]
theorem setS_self (s : Nat → Bool) (i : Nat) (c : Bool) : setS s i c i = c := by simp [setS]
theorem used_at {E : XT} {d : Int} {n : Nat} {s : Nat → Bool} (hd : E d = some (n, s)) : usedX E d = cntS n s := by unfold usedX; rw [hd]
theorem cnt_one (n i : Nat) (hi : i < n) : cntS n (setS (fun _ => false) i true) = 1 := by
  have := cnt_set n i (fun _ => false) true hi
  rw [cnt_zero] at this
  simpa using this
set_option maxHeartbeats 4000000
set_option maxRecDepth 100000
theorem bounds_walk (a b : Int) (w : World) (hb : -9223372036854775808 ≤ b ∧ b ≤ 9223372036854775807) (hT : DbAt w) : Calls Tryd.prog 6 #[.int .i64 a, .int .i64 b] w fun e w' => e = .returned (.bool true) ∧ Kept w w' := by
  obtain ⟨y, hand, hy⟩ := and_i64 a 20 (by decide) (m := 1048575) (by decide)
  have hz : y % 4097 < 4097 := Nat.mod_lt _ (by decide)
  have hmod : (y : Int) % 4097 = ((y % 4097 : Nat) : Int) := by omega
  have htmod : (y : Int).tmod 4097 = ((y % 4097 : Nat) : Int) := by rw [Int.tmod_eq_emod_of_nonneg (by omega)]; exact hmod
  generalize y % 4097 = z at *
  have HT := Lib.hid hT; clear hT
  obtain ⟨n, hn⟩ : ∃ n : Nat, cntX z = (n : Int) := ⟨(cntX z).toNat, by unfold cntX; split <;> omega⟩
  have hn2 : n ≤ 512 := by unfold cntX at hn; split at hn <;> omega
  have HN := Lib.hid hn
  have HC : Hid (∀ W, Calls Tryd.prog 8 #[.int .i64 (z : Int)] W fun e w' => e = .returned (.int .i64 (n : Int)) ∧ W = w') := Lib.hid fun W => by rw [← hn]; exact ext_Count z (by omega) (by omega) W
  have HP : Hid (∀ (k : Nat) W, k ≤ 600 → Calls Tryd.prog 11 #[.int .i64 (k : Int)] W fun e w' => e = .returned (.int .i64 (114 + (k : Int) * 8)) ∧ W = w') := Lib.hid fun k W h => ext_Place k (by omega) (by omega) W
  have HB := Lib.hid hb
  clear hn hb
  go_enter Tryd.func6, Tryd.ntmps6
  go_wp2_with fail
  refine Calls.mono (law_shown w HT.out) ?_
  rintro e w1 ⟨rfl, hk1⟩
  go_wp2_with fail
  refine Calls.mono (xo_New w w1 hk1) ?_
  rintro e w2 ⟨q, rfl, X2, _⟩
  clear hk1
  go_wp2_with fail
  refine Calls.mono (xo_Add X2 2 z n (by omega) (by omega) HN.out rfl) ?_
  rintro e w3 ⟨rfl, X3, _⟩
  replace X3 : XO w (fun k => k < w.heap.size) w3 q (e0X n) := X3
  clear X2
  go_wp2_with fail
  go_loop [7, 8] (fun is i => ∃ k : Nat, k ≤ n ∧ i = .int .i64 (k : Int) ∧ is = .bool (isK b k)) (fun _ i => n - (intOf i).toNat)
  case atStart => exact ⟨0, Nat.zero_le _, rfl, rfl⟩
  case round =>
    obtain ⟨k, hk, rfl, rfl⟩ := hrel
    by_cases hlt : k < n
    · have hnx := isK_next b k
      cases hik : isK b k with
      | true =>
        rw [hik] at hnx
        have HNX := Lib.hid hnx; clear hnx hik
        go_wp2_with fail
        refine Calls.mono (HC.out _) ?_
        rintro e w' ⟨rfl, rfl⟩
        go_wp2_with fail
        go_round
        case rel => exact ⟨k + 1, by omega, by go_num, by rw [HNX.out]; rfl⟩
        case measure => simp [intOf] <;> omega
      | false =>
        rw [hik, Bool.false_or] at hnx
        have HNX := Lib.hid hnx; clear hnx hik
        go_wp2_with fail
        refine Calls.mono (HC.out _) ?_
        rintro e w' ⟨rfl, rfl⟩
        go_wp2_with fail
        refine Calls.mono (HP.out k _ (by omega)) ?_
        rintro e w' ⟨rfl, rfl⟩
        go_wp2_with fail
        go_round
        case rel => exact ⟨k + 1, by omega, by go_num, by rw [HNX.out]⟩
        case measure => simp [intOf] <;> omega
    · obtain rfl : k = n := by omega
      cases hik : isK b k with
      | false =>
        have HIK := Lib.hid hik; clear hik
        go_wp2_with fail
        refine Calls.mono (HC.out _) ?_
        rintro e w' ⟨rfl, rfl⟩
        go_wp2_with (refine stop_at (o := ⟨some 9, _, _, _, _, _⟩) ?_)
        refine Stop.mk ?_
        refine wpList_new_agg rfl rfl _ _ rfl rfl ty_ext [Value.int .i64 0, .int .i64 0] zero_ext rfl [Value.int .i64 2, .int .i64 b] rfl rfl (by simp [Value.oneCell']) rfl ?_
        intro w4 hz4 hs4 hk4
        have X4 := X3.more hk4 w3.heap.size (Nat.le_refl _) hs4
        go_wp2_with (refine stop_at (o := ⟨some 10, _, _, _, _, _⟩) ?_)
        refine Stop.mk ?_
        refine wpList_new_agg rfl rfl _ _ rfl rfl ty_ext [Value.int .i64 0, .int .i64 0] zero_ext rfl [Value.int .i64 3, .int .i64 b] rfl rfl (by simp [Value.oneCell']) rfl ?_
        intro w5 hz5 hs5 hk5
        have T : Two w w5 q (e0X k) w3.heap.size 2 b w4.heap.size 3 b := ⟨X4.more hk5 w4.heap.size (Nat.le_refl _) hs5, hk5.block hz4.out, hz5.out⟩
        clear X4 hz4 hz5 hk4 hk5 X3
        generalize w3.heap.size = b9 at *
        generalize w4.heap.size = b10 at *
        have d0 := T.cell10; have d1 := T.cell11; have d2 := T.cell20; have d3 := T.cell21
        go_wp2_with fail
        replace T := two_Has T 2 b HB.out (has_e0 _ b)
        refine Calls.mono T ?_
        clear T d0 d1 d2 d3
        rintro e w' ⟨rfl, T⟩
        have d0 := T.cell10; have d1 := T.cell11; have d2 := T.cell20; have d3 := T.cell21
        go_wp2_with fail
        replace T := two_Has T 3 b HB.out (v := false) rfl
        refine Calls.mono T ?_
        clear T d0 d1 d2 d3
        rintro e w' ⟨rfl, T⟩
        have d0 := T.cell10; have d1 := T.cell11; have d2 := T.cell20; have d3 := T.cell21
        go_wp2_with fail
        replace T := two_TakeAt T 3 b HB.out (v := 8) rfl
        refine Calls.mono T ?_
        clear T d0 d1 d2 d3
        rintro e w' ⟨rfl, T⟩
        have d0 := T.cell10; have d1 := T.cell11; have d2 := T.cell20; have d3 := T.cell21
        go_wp2_with fail
        replace T := two_Free T 3 b HB.out (v := 8) rfl
        refine Calls.mono T ?_
        clear T d0 d1 d2 d3
        rintro e w' ⟨rfl, T⟩
        have d0 := T.cell10; have d1 := T.cell11; have d2 := T.cell20; have d3 := T.cell21
        go_wp2_with fail
        replace T := two_TakeAt T 2 b HB.out (chg_no true _ HIK.out)
        refine Calls.mono T ?_
        clear T d0 d1 d2 d3
        rintro e w' ⟨rfl, T⟩
        have d0 := T.cell10; have d1 := T.cell11; have d2 := T.cell20; have d3 := T.cell21
        go_wp2_with fail
        replace T := two_Free T 2 b HB.out (chg_no false _ HIK.out)
        refine Calls.mono T ?_
        clear T d0 d1 d2 d3
        rintro e w' ⟨rfl, T⟩
        have d0 := T.cell10; have d1 := T.cell11; have d2 := T.cell20; have d3 := T.cell21
        go_wp2_with fail
        replace T := two_Used T 2 (v := 0) ((used_at (e0X_2 _)).trans (cnt_zero _))
        refine Calls.mono T ?_
        clear T d0 d1 d2 d3
        rintro e w' ⟨rfl, T⟩
        have d0 := T.cell10; have d1 := T.cell11; have d2 := T.cell20; have d3 := T.cell21
        go_wp2_with fail
        have HK := T.x.keeps
        go_ret
        exact ⟨rfl, HK⟩
      | true =>
        obtain ⟨i, hi, hbi⟩ := isK_true hik
        have HIK := Lib.hid hik; clear hik
        have HBI := Lib.hid hbi; clear hbi
        have g1 : chgX false (e0X k) 2 b = (9, e0X k) := by rw [HBI.out, chg_at false (e0X_2 k) hi]; rfl
        have g2 : chgX true (e0X k) 2 b = (0, (e0X k).set 2 k (setS (fun _ => false) i true)) := by rw [HBI.out, chg_at true (e0X_2 k) hi]; rfl
        have g3 : (hasX ((e0X k).set 2 k (setS (fun _ => false) i true)) 2 b == 0) = true := by rw [HBI.out, has_at (set_at _ _ _ _) hi, setS_self]; rfl
        have g4 : usedX ((e0X k).set 2 k (setS (fun _ => false) i true)) 2 = 1 := (used_at (set_at _ _ _ _)).trans (cnt_one k i hi)
        have g5 : chgX false ((e0X k).set 2 k (setS (fun _ => false) i true)) 2 b = (0, ((e0X k).set 2 k (setS (fun _ => false) i true)).set 2 k (setS (setS (fun _ => false) i true) i false)) := by rw [HBI.out, chg_at false (set_at _ _ _ _) hi, setS_self]; rfl
        have g6 : chgX false (((e0X k).set 2 k (setS (fun _ => false) i true)).set 2 k (setS (setS (fun _ => false) i true) i false)) 2 b = (9, ((e0X k).set 2 k (setS (fun _ => false) i true)).set 2 k (setS (setS (fun _ => false) i true) i false)) := by rw [HBI.out, chg_at false (set_at _ _ _ _) hi, setS_self]; rfl
        have g7 : (hasX (((e0X k).set 2 k (setS (fun _ => false) i true)).set 2 k (setS (setS (fun _ => false) i true) i false)) 2 b == 0) = false := by rw [HBI.out, has_at (set_at _ _ _ _) hi, setS_self]; rfl
        generalize (e0X k).set 2 k (setS (fun _ => false) i true) = E1 at *
        generalize E1.set 2 k (setS (setS (fun _ => false) i true) i false) = E2 at *
        have G1 := Lib.hid g1; have G2 := Lib.hid g2; have G3 := Lib.hid g3; have G4 := Lib.hid g4; have G5 := Lib.hid g5; have G6 := Lib.hid g6; have G7 := Lib.hid g7
        clear g1 g2 g3 g4 g5 g6 g7
        go_wp2_with fail
        refine Calls.mono (HC.out _) ?_
        rintro e w' ⟨rfl, rfl⟩
        go_wp2_with (refine stop_at (o := ⟨some 9, _, _, _, _, _⟩) ?_)
        refine Stop.mk ?_
        refine wpList_new_agg rfl rfl _ _ rfl rfl ty_ext [Value.int .i64 0, .int .i64 0] zero_ext rfl [Value.int .i64 2, .int .i64 b] rfl rfl (by simp [Value.oneCell']) rfl ?_
        intro w4 hz4 hs4 hk4
        have X4 := X3.more hk4 w3.heap.size (Nat.le_refl _) hs4
        go_wp2_with (refine stop_at (o := ⟨some 10, _, _, _, _, _⟩) ?_)
        refine Stop.mk ?_
        refine wpList_new_agg rfl rfl _ _ rfl rfl ty_ext [Value.int .i64 0, .int .i64 0] zero_ext rfl [Value.int .i64 3, .int .i64 b] rfl rfl (by simp [Value.oneCell']) rfl ?_
        intro w5 hz5 hs5 hk5
        have T : Two w w5 q (e0X k) w3.heap.size 2 b w4.heap.size 3 b := ⟨X4.more hk5 w4.heap.size (Nat.le_refl _) hs5, hk5.block hz4.out, hz5.out⟩
        clear X4 hz4 hz5 hk4 hk5 X3
        generalize w3.heap.size = b9 at *
        generalize w4.heap.size = b10 at *
        have d0 := T.cell10; have d1 := T.cell11; have d2 := T.cell20; have d3 := T.cell21
        go_wp2_with fail
        replace T := two_Has T 2 b HB.out (has_e0 _ b)
        refine Calls.mono T ?_
        clear T d0 d1 d2 d3
        rintro e w' ⟨rfl, T⟩
        have d0 := T.cell10; have d1 := T.cell11; have d2 := T.cell20; have d3 := T.cell21
        go_wp2_with fail
        replace T := two_Has T 3 b HB.out (v := false) rfl
        refine Calls.mono T ?_
        clear T d0 d1 d2 d3
        rintro e w' ⟨rfl, T⟩
        have d0 := T.cell10; have d1 := T.cell11; have d2 := T.cell20; have d3 := T.cell21
        go_wp2_with fail
        replace T := two_TakeAt T 3 b HB.out (v := 8) rfl
        refine Calls.mono T ?_
        clear T d0 d1 d2 d3
        rintro e w' ⟨rfl, T⟩
        have d0 := T.cell10; have d1 := T.cell11; have d2 := T.cell20; have d3 := T.cell21
        go_wp2_with fail
        replace T := two_Free T 3 b HB.out (v := 8) rfl
        refine Calls.mono T ?_
        clear T d0 d1 d2 d3
        rintro e w' ⟨rfl, T⟩
        have d0 := T.cell10; have d1 := T.cell11; have d2 := T.cell20; have d3 := T.cell21
        go_wp2_with fail
        replace T := two_Free T 2 b HB.out G1.out
        refine Calls.mono T ?_
        clear T d0 d1 d2 d3
        rintro e w' ⟨rfl, T⟩
        have d0 := T.cell10; have d1 := T.cell11; have d2 := T.cell20; have d3 := T.cell21
        go_wp2_with fail
        replace T := two_TakeAt T 2 b HB.out G2.out
        refine Calls.mono T ?_
        clear T d0 d1 d2 d3
        rintro e w' ⟨rfl, T⟩
        have d0 := T.cell10; have d1 := T.cell11; have d2 := T.cell20; have d3 := T.cell21
        go_wp2_with fail
        replace T := two_Has T 2 b HB.out G3.out
        refine Calls.mono T ?_
        clear T d0 d1 d2 d3
        rintro e w' ⟨rfl, T⟩
        have d0 := T.cell10; have d1 := T.cell11; have d2 := T.cell20; have d3 := T.cell21
        go_wp2_with fail
        replace T := two_Used T 2 G4.out
        refine Calls.mono T ?_
        clear T d0 d1 d2 d3
        rintro e w' ⟨rfl, T⟩
        have d0 := T.cell10; have d1 := T.cell11; have d2 := T.cell20; have d3 := T.cell21
        go_wp2_with fail
        replace T := two_Free T 2 b HB.out G5.out
        refine Calls.mono T ?_
        clear T d0 d1 d2 d3
        rintro e w' ⟨rfl, T⟩
        have d0 := T.cell10; have d1 := T.cell11; have d2 := T.cell20; have d3 := T.cell21
        go_wp2_with fail
        replace T := two_Free T 2 b HB.out G6.out
        refine Calls.mono T ?_
        clear T d0 d1 d2 d3
        rintro e w' ⟨rfl, T⟩
        have d0 := T.cell10; have d1 := T.cell11; have d2 := T.cell20; have d3 := T.cell21
        go_wp2_with fail
        replace T := two_Has T 2 b HB.out G7.out
        refine Calls.mono T ?_
        clear T d0 d1 d2 d3
        rintro e w' ⟨rfl, T⟩
        have d0 := T.cell10; have d1 := T.cell11; have d2 := T.cell20; have d3 := T.cell21
        go_wp2_with fail
        have HK := T.x.keeps
        go_ret
        exact ⟨rfl, HK⟩
end Go.Proofs.YtpnpconphpbcaaaDoor
