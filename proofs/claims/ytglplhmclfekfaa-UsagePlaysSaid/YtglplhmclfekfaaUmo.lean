/- UsageMoves: the walk. -/
import Derived.Test.YtglplhmclfekfaaSrc
namespace Go.Proofs.Ytglplhmclfekfaa
open Go.RowKit Go.ChangeMaps Go.MapKept
set_option linter.unusedVariables false
set_option linter.unusedSimpArgs false

/-- groups 0, 1, .. of these sizes, all dead -/
def opensT (l : List Nat) : Tab := ⟨fun x => if 0 ≤ x then (l[x.toNat]?).map (fun N => List.replicate N (-1)) else none, fun _ => none⟩
theorem opensT_nil : opensT [] = Tab.empty := by
  unfold opensT Tab.empty; congr 1; funext x; simp
theorem opensT_next (l : List Nat) (N : Nat) : (opensT l).open_ (l.length : Int) N = opensT (l ++ [N]) := by
  unfold opensT Tab.open_
  congr 1
  funext x
  dsimp only
  by_cases hx : x = (l.length : Int)
  · subst hx; simp
  · rw [if_neg hx]
    by_cases h0 : 0 ≤ x
    · rw [if_pos h0, if_pos h0]
      rcases Nat.lt_or_ge x.toNat l.length with h | h
      · rw [List.getElem?_append_left h]
      · rw [List.getElem?_eq_none h, List.getElem?_eq_none (by simp; omega)]
    · rw [if_neg h0, if_neg h0]
theorem opensT_none (l : List Nat) : (opensT l).g (l.length : Int) = none := by simp [opensT]
theorem opensT_g (l : List Nat) (i : Nat) (h : i < l.length) : (opensT l).g (i : Int) = some (List.replicate l[i] (-1)) := by simp [opensT, h]
theorem opensT_ok (l : List Nat) (h : ∀ n ∈ l, 1 ≤ n ∧ n ≤ 4096) : (opensT l).Ok := by
  refine ⟨(fun b n s hf => by cases hf), fun n i b hs hb => ?_, fun n k hk => ?_⟩
  · obtain ⟨k, hk, hi, e⟩ := Tab.slot_some hs
    simp only [opensT] at hk
    split at hk
    · cases hg : l[n.toNat]? with
      | none => rw [hg] at hk; cases hk
      | some N => rw [hg] at hk; simp at hk; subst hk; simp at e; exact absurd e.symm hb
    · cases hk
  · simp only [opensT] at hk
    split at hk
    · cases hg : l[n.toNat]? with
      | none => rw [hg] at hk; cases hk
      | some N =>
        rw [hg] at hk; simp at hk; subst hk
        have := h N (List.mem_of_getElem? hg)
        simp; omega
    · cases hk
theorem setG_len {T : Tab} {m : Int} {l : List Int} (h : T.g m = some l) (n : Int) (i : Nat) (x : Int) : ∃ l', (T.setG n i x).g m = some l' ∧ l'.length = l.length := by
  simp only [Tab.setG]
  by_cases hm : m = n
  · subst hm; exact ⟨_, by rw [if_pos rfl, h]; rfl, by simp⟩
  · exact ⟨l, by rw [if_neg hm, h], rfl⟩
theorem put_len {T : Tab} {m : Int} {l : List Int} (h : T.g m = some l) (n : Int) (i : Nat) (b : Int) : ∃ l', (T.put n i b).g m = some l' ∧ l'.length = l.length := by
  have h1 : ∃ l', ((T.clr b).setF b (n, (i : Int))).g m = some l' ∧ l'.length = l.length := by
    show ∃ l', (T.clr b).g m = some l' ∧ _
    unfold Tab.clr
    split
    · exact setG_len h _ _ _
    · exact ⟨l, h, rfl⟩
  obtain ⟨l', h1, h2⟩ := h1
  obtain ⟨l2, h3, h4⟩ := setG_len h1 n i b
  exact ⟨l2, h3, by omega⟩
theorem clear_len {T : Tab} {m : Int} {l : List Int} (h : T.g m = some l) (n : Int) (i : Nat) (b : Int) : ∃ l', (T.clear n i b).g m = some l' ∧ l'.length = l.length := setG_len (T := T.delF b) h n i (-1)

theorem liveL_none {l : List Int} (h : ∀ i (hi : i < l.length), l[i] = -1) : liveL l = [] := by
  unfold liveL
  rw [List.filter_eq_nil_iff]
  intro x hx
  obtain ⟨i, hi, rfl⟩ := List.getElem_of_mem hx
  simp [h i hi]
theorem liveL_one {l : List Int} {s : Nat} (hs : s < l.length) (h1 : l[s] ≠ -1) (h : ∀ i (hi : i < l.length), i ≠ s → l[i] = -1) : (liveL l).length = 1 := by
  have e : l = l.take s ++ (l[s] :: l.drop (s + 1)) := by rw [List.getElem_cons_drop, List.take_append_drop]
  have a : liveL (l.take s) = [] := liveL_none fun i hi => by
    have hi' : i < s := by simp at hi; omega
    rw [List.getElem_take]; exact h i (by omega) (by omega)
  have b : liveL (l.drop (s + 1)) = [] := liveL_none fun i hi => by
    rw [List.getElem_drop]
    exact h (s + 1 + i) (by simp at hi; omega) (by omega)
  have c : liveL (l.take s ++ (l[s] :: l.drop (s + 1))) = [l[s]] := by
    unfold liveL at a b ⊢
    rw [List.filter_append, a, List.filter_cons_of_pos (by simpa using h1), b]; rfl
  rw [e, c]; rfl

/-- three groups of eight; block 42 is in slot c, if anywhere; nothing else is live -/
structure OneAt (T : Tab) (c : Option (Nat × Nat)) : Prop where
  ok : T.Ok
  len : ∀ n : Nat, n < 3 → ∃ l, T.g n = some l ∧ l.length = 8
  sl : ∀ n i : Nat, n < 3 → i < 8 → T.slot n i = some (if c = some (n, i) then 42 else -1)
theorem OneAt.zero : OneAt (opensT (List.replicate 3 8)) none := by
  refine ⟨opensT_ok _ (by intro n hn; simp at hn; omega), fun n hn => ⟨_, opensT_g _ n (by rw [List.length_replicate]; exact hn), by rw [List.length_replicate, List.getElem_replicate]⟩, fun n i hn hi => ?_⟩
  rw [Tab.slot_of (opensT_g _ n (by rw [List.length_replicate]; exact hn)), List.getElem_replicate, List.getElem?_eq_getElem (by rw [List.length_replicate]; exact hi), List.getElem_replicate, if_neg (by intro e; cases e)]
theorem OneAt.put {T : Tab} {c : Option (Nat × Nat)} (h : OneAt T c) {g s : Nat} (hg : g < 3) (hs : s < 8) (hc : c ≠ some (g, s)) : OneAt (T.put g s 42) (some (g, s)) := by
  have hd : T.slot g s = some (-1) := by rw [h.sl g s hg hs, if_neg hc]
  refine ⟨h.ok.put hd (by decide), fun n hn => ?_, fun n i hn hi => ?_⟩
  · obtain ⟨l, h1, h2⟩ := h.len n hn
    obtain ⟨l', h3, h4⟩ := put_len h1 g s 42
    exact ⟨l', h3, by omega⟩
  · rw [Tab.slot_put h.ok hd (by decide)]
    by_cases hk : n = g ∧ i = s
    · obtain ⟨rfl, rfl⟩ := hk; simp
    · have hk' : ¬ ((n : Int) = (g : Int) ∧ i = s) := by omega
      have hk2 : ¬ (some (g, s) = some (n, i)) := by intro e; injection e with e; injection e with e1 e2; exact hk ⟨e1.symm, e2.symm⟩
      rw [if_neg hk', if_neg hk2]
      split
      · rfl
      · rename_i hf
        rw [h.sl n i hn hi]
        split
        · rename_i e
          have := h.ok.of n i 42 (by rw [h.sl n i hn hi, if_pos e]) (by decide)
          exact absurd this hf
        · rfl
theorem OneAt.f {T : Tab} {g s : Nat} (h : OneAt T (some (g, s))) (hg : g < 3) (hs : s < 8) : T.f 42 = some ((g : Int), (s : Int)) :=
  h.ok.of g s 42 (by rw [h.sl g s hg hs, if_pos rfl]) (by decide)
theorem OneAt.cnt {T : Tab} {g s : Nat} (h : OneAt T (some (g, s))) (hs : s < 8) (n : Nat) (hn : n < 3) : ∃ l, T.g n = some l ∧ (liveL l).length = if n = g then 1 else 0 := by
  obtain ⟨l, h1, h2⟩ := h.len n hn
  have hsl : ∀ i (hi : i < l.length), l[i] = if some (g, s) = some (n, i) then 42 else -1 := by
    intro i hi
    have := h.sl n i hn (by omega)
    rw [Tab.slot_of h1, List.getElem?_eq_getElem hi] at this
    injection this
  refine ⟨l, h1, ?_⟩
  by_cases hng : n = g
  · subst hng
    rw [if_pos rfl]
    refine liveL_one (s := s) (by omega) (by rw [hsl s (by omega)]; simp) fun i hi hne => ?_
    rw [hsl i hi, if_neg]
    intro e; injection e with e; injection e with _ e; exact hne e.symm
  · rw [if_neg hng, liveL_none]; rfl
    intro i hi
    rw [hsl i hi, if_neg]
    intro e; injection e with e; injection e with e _; exact hng e.symm

theorem and_i64 (x : Int) (k : Nat) (hk : k ≤ 62) {m : Int} (hm : m = 2 ^ k - 1) : ∃ y : Nat, bits .and .i64 x m = (y : Int) ∧ y < 2 ^ k := by
  subst hm
  have hp : (0 : Int) < 2 ^ k := Int.pow_pos (by decide)
  have h0 := Int.emod_nonneg x (show (2 : Int) ^ k ≠ 0 by omega)
  have h1 := Int.emod_lt_of_pos x hp
  obtain ⟨y, hy⟩ := Int.eq_ofNat_of_zero_le h0
  refine ⟨y, by rw [i64_and_mask x k hk, hy], ?_⟩
  have : ((2 ^ k : Nat) : Int) = (2 : Int) ^ k := by norm_cast
  omega

section
variable {w W : World} {R : Nat → Prop} {p : Nat} {T : Tab}
theorem one_count {g s : Nat} (h : OneAt T (some (g, s))) (hs : s < 8) (n : Nat) (hn : n < 3) (hW : Own w R W p T) :
    Calls Try.prog 33 #[.pointer (some ⟨p, 0, none⟩), .int .i64 n] W fun e w' => e = .returned (.int .i64 (if n = g then 1 else 0)) ∧ Own w R w' p T := by
  obtain ⟨l, h1, h2⟩ := h.cnt hs n hn
  refine (own_Count hW h.ok n h1).mono fun e w' ⟨he, ho, _⟩ => ⟨?_, ho⟩
  rw [he, h2]
  split <;> rfl
theorem one_find {g s : Nat} (h : OneAt T (some (g, s))) (hg : g < 3) (hs : s < 8) (hW : Own w R W p T) :
    Calls Try.prog 32 #[.pointer (some ⟨p, 0, none⟩), .int .i64 42] W fun e w' => e = .returned (.tuple #[.int .i64 g, .int .i64 s, .bool true]) ∧ Own w R w' p T :=
  (own_Find hW 42 _ (h.f hg hs)).mono fun e w' ⟨he, ho, _⟩ => ⟨he, ho⟩
theorem one_open (k : Nat) (hW : Own w R W p (opensT (List.replicate k 8))) :
    Calls Try.prog 27 #[.pointer (some ⟨p, 0, none⟩), .int .i64 k, .int .i64 8] W fun e w' => e = .returned (.int .i64 0) ∧ Own w R w' p (opensT (List.replicate (k + 1) 8)) := by
  have h := own_Open hW (k : Int) 8 (by omega) (by decide) (by decide) (by have := opensT_none (List.replicate k 8); rwa [List.length_replicate] at this)
  refine h.mono fun e w' ⟨he, ho, _⟩ => ⟨he, ?_⟩
  have e := opensT_next (List.replicate k 8) 8
  rw [List.length_replicate] at e
  rw [e, ← List.replicate_succ'] at ho
  exact ho
theorem one_counts {g s : Nat} (h : OneAt T (some (g, s))) (hg : g < 3) (hs : s < 8) : ∃ x0 x1 x2 : Int, (0 ≤ x0 ∧ x0 ≤ 1) ∧ (0 ≤ x1 ∧ x1 ≤ 1) ∧ (0 ≤ x2 ∧ x2 ≤ 1) ∧ ((x0 + x1 + x2) != 1) = false ∧
    (∀ W, Own w R W p T → Calls Try.prog 33 #[.pointer (some ⟨p, 0, none⟩), .int .i64 0] W fun e w' => e = .returned (.int .i64 x0) ∧ Own w R w' p T) ∧
    (∀ W, Own w R W p T → Calls Try.prog 33 #[.pointer (some ⟨p, 0, none⟩), .int .i64 1] W fun e w' => e = .returned (.int .i64 x1) ∧ Own w R w' p T) ∧
    (∀ W, Own w R W p T → Calls Try.prog 33 #[.pointer (some ⟨p, 0, none⟩), .int .i64 2] W fun e w' => e = .returned (.int .i64 x2) ∧ Own w R w' p T) ∧
    (∀ W, Own w R W p T → Calls Try.prog 33 #[.pointer (some ⟨p, 0, none⟩), .int .i64 g] W fun e w' => e = .returned (.int .i64 1) ∧ Own w R w' p T) := by
  refine ⟨if 0 = g then 1 else 0, if 1 = g then 1 else 0, if 2 = g then 1 else 0, ?_, ?_, ?_, ?_, fun W hW => one_count h hs 0 (by decide) hW, fun W hW => one_count h hs 1 (by decide) hW, fun W hW => one_count h hs 2 (by decide) hW, fun W hW => ?_⟩
  · split <;> omega
  · split <;> omega
  · split <;> omega
  · have : g = 0 ∨ g = 1 ∨ g = 2 := by omega
    rcases this with rfl | rfl | rfl <;> decide
  · have := one_count h hs g hg hW
    rwa [if_pos rfl] at this
end
end Go.Proofs.Ytglplhmclfekfaa
