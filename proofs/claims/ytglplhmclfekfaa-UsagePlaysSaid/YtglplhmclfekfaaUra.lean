/- The document's table (ref14) in plain Lean: its groups and live slots, beside the table that they say. -/
import Derived.Test.YtglplhmclfekfaaUdp
namespace Go.Proofs.Ytglplhmclfekfaa
open Go.RowKit
set_option linter.unusedVariables false
set_option linter.unusedSimpArgs false

/-- how many slots each group has -/
def Tab.sz (T : Tab) (m : Int) : Option Nat := (T.g m).map List.length
section
variable {T : Tab} {n m b : Int} {i N : Nat}
theorem Tab.sz_some {l : List Int} (h : T.g m = some l) : T.sz m = some l.length := by simp [Tab.sz, h]
theorem Tab.sz_setG (x : Int) : (T.setG n i x).sz m = T.sz m := by
  unfold Tab.sz Tab.setG
  by_cases h : m = n
  · subst h; cases hg : T.g m <;> simp [hg]
  · simp [h]
theorem Tab.sz_clr : (T.clr b).sz m = T.sz m := by
  unfold Tab.clr
  split
  · exact Tab.sz_setG _
  · rfl
theorem Tab.sz_put : (T.put n i b).sz m = T.sz m := by
  unfold Tab.put
  rw [Tab.sz_setG]
  exact Tab.sz_clr
theorem Tab.sz_clear : (T.clear n i b).sz m = T.sz m := by
  unfold Tab.clear
  rw [Tab.sz_setG]; rfl
theorem Tab.sz_open : (T.open_ n N).sz m = if m = n then some N else T.sz m := by
  unfold Tab.open_ Tab.sz
  simp only
  split <;> simp
theorem Tab.sz_drop : (T.drop n).sz m = if m = n then none else T.sz m := by
  unfold Tab.drop Tab.sz
  simp only
  split <;> simp
theorem Tab.sz_slot {x : Int} (h : T.slot m i = some x) : ∃ k, T.sz m = some k ∧ i < k := by
  obtain ⟨l, hl, hi, _⟩ := Tab.slot_some h
  exact ⟨l.length, Tab.sz_some hl, hi⟩
end
abbrev UG : Type := List (Int × Int)
abbrev UL : Type := List (Int × Int × Int)
/-- the live slots that are left -/
def UL.wout (L : UL) (g s b : Int) : UL := L.filter fun x => decide (¬ ((x.1 = g ∧ (s < 0 ∨ x.2.1 = s)) ∨ (0 ≤ b ∧ x.2.2 = b)))
theorem UL.mem_wout {L : UL} {g s b : Int} {x : Int × Int × Int} : x ∈ L.wout g s b ↔ x ∈ L ∧ ¬ ((x.1 = g ∧ (s < 0 ∨ x.2.1 = s)) ∨ (0 ≤ b ∧ x.2.2 = b)) := by
  unfold UL.wout
  rw [List.mem_filter, decide_eq_true_iff]
theorem UL.wout_len (L : UL) (g s b : Int) : (L.wout g s b).length ≤ L.length := List.length_filter_le _ _
/-- they say one table -/
structure UR (G : UG) (L : UL) (T : Tab) : Prop where
  nod : (G.map Prod.fst).Nodup
  grp : ∀ n k, (n, k) ∈ G ↔ ∃ z : Nat, T.sz n = some z ∧ k = (z : Int)
  ids : ∀ p, p ∈ G → 0 ≤ p.1 ∧ p.1 ≤ 9223372036854775807
  live : ∀ n s b, (n, s, b) ∈ L ↔ 0 ≤ s ∧ T.slot n s.toNat = some b ∧ b ≠ -1
section
variable {G : UG} {L : UL} {T : Tab} {n m b s : Int} {i N : Nat}
theorem UR.nil : UR [] [] Tab.empty := ⟨List.nodup_nil, fun n k => by simp [Tab.empty, Tab.sz], fun p hp => by simp at hp, fun n s b => by simp [Tab.empty, Tab.slot]⟩
theorem UR.some_ (h : UR G L T) (hn : T.g n ≠ none) : 0 ≤ n ∧ n ≤ 9223372036854775807 := by
  cases hg : T.g n with
  | none => exact absurd hg hn
  | some l => exact h.ids (n, (l.length : Int)) ((h.grp _ _).2 ⟨_, Tab.sz_some hg, rfl⟩)
theorem UR.open_ (h : UR G L T) (hn : T.g n = none) (h0 : 0 ≤ n) (h1 : n ≤ 9223372036854775807) : UR (G ++ [(n, (N : Int))]) L (T.open_ n N) := by
  have hsl : ∀ m j x, x ≠ -1 → ((T.open_ n N).slot m j = some x ↔ T.slot m j = some x) := by
    intro m j x hx
    unfold Tab.slot Tab.open_
    by_cases hm : m = n
    · subst hm
      simp only [if_true, hn, Option.bind_some, Option.bind_none, List.getElem?_replicate]
      constructor
      · intro e; split at e
        · injection e with e; exact absurd e.symm hx
        · cases e
      · intro e; cases e
    · simp [hm]
  have hnG : ∀ k, (n, k) ∉ G := fun k hk => by
    obtain ⟨z, hz, _⟩ := (h.grp n k).1 hk
    rw [Tab.sz, hn] at hz; cases hz
  refine ⟨?_, fun m k => ?_, fun p hp => ?_, fun m s x => ?_⟩
  · rw [List.map_append, List.nodup_append]
    refine ⟨h.nod, by simp, fun a ha c hc => ?_⟩
    simp at hc
    obtain ⟨p, hp, rfl⟩ := List.mem_map.1 ha
    intro e
    exact hnG p.2 (by rw [← hc, ← e]; exact hp)
  · rw [List.mem_append, Tab.sz_open, List.mem_singleton]
    by_cases hm : m = n
    · subst hm
      rw [if_pos rfl]
      constructor
      · rintro (hk | hk)
        · exact absurd hk (hnG _)
        · injection hk with _ hk; exact ⟨N, rfl, hk⟩
      · rintro ⟨z, hz, rfl⟩
        injection hz with hz; subst hz; exact .inr rfl
    · rw [if_neg hm, ← h.grp]
      exact ⟨fun hk => hk.resolve_right fun e => hm (by injection e), .inl⟩
  · rcases List.mem_append.1 hp with hp | hp
    · exact h.ids p hp
    · simp at hp; subst hp; exact ⟨h0, h1⟩
  · rw [h.live]
    exact ⟨fun ⟨a, b, c⟩ => ⟨a, (hsl _ _ _ c).2 b, c⟩, fun ⟨a, b, c⟩ => ⟨a, (hsl _ _ _ c).1 b, c⟩⟩
theorem UR.put (h : UR G L T) (ok : T.Ok) (hd : T.slot n i = some (-1)) (hb : 0 ≤ b) : UR G (L.wout (-1) (-1) b ++ [(n, (i : Int), b)]) (T.put n i b) := by
  refine ⟨h.nod, fun m k => by rw [Tab.sz_put]; exact h.grp m k, h.ids, fun m s x => ?_⟩
  rw [List.mem_append, UL.mem_wout, List.mem_singleton, Tab.slot_put ok hd hb, h.live]
  simp only
  have hm1 : ∀ m j y, T.slot m j = some y → m ≠ -1 := fun m j y hy e => by
    obtain ⟨l, hl, _⟩ := Tab.slot_some hy
    have := (h.some_ (n := m) (by rw [hl]; simp)).1
    omega
  constructor
  · rintro (⟨⟨h1, h2, h3⟩, h4⟩ | h1)
    · refine ⟨h1, ?_, h3⟩
      rw [if_neg, if_neg, h2]
      · intro e
        have := ok.of _ _ _ h2 h3
        obtain ⟨h5, i', e1, e2⟩ := ok.at_ _ _ _ e
        have e3 : s.toNat = i' := by omega
        rw [e3, e2] at h2
        injection h2 with h2
        exact h4 (.inr ⟨hb, h2.symm⟩)
      · rintro ⟨rfl, hs⟩
        rw [hs, hd] at h2
        injection h2 with h2
        exact h3 h2.symm
    · injection h1 with e1 e2
      injection e2 with e2 e3
      subst e1 e2 e3
      exact ⟨by omega, by rw [if_pos ⟨rfl, by omega⟩], by omega⟩
  · rintro ⟨h1, h2, h3⟩
    by_cases hc : m = n ∧ s.toNat = i
    · rw [if_pos hc] at h2
      injection h2 with h2
      obtain ⟨rfl, hs⟩ := hc
      exact .inr (by rw [← h2, ← hs, Int.toNat_of_nonneg h1])
    · rw [if_neg hc] at h2
      split at h2
      · injection h2 with h2; exact absurd h2.symm h3
      · rename_i hf
        refine .inl ⟨⟨h1, h2, h3⟩, ?_⟩
        rintro (⟨hx, _⟩ | ⟨_, hx⟩)
        · exact hm1 _ _ _ h2 hx
        · subst hx
          have := ok.of _ _ _ h2 h3
          exact hf this
theorem UR.clear (h : UR G L T) (ok : T.Ok) (hd : T.slot n i = some b) (hb : b ≠ -1) : UR G (L.wout n i (-1)) (T.clear n i b) := by
  refine ⟨h.nod, fun m k => by rw [Tab.sz_clear]; exact h.grp m k, h.ids, fun m s x => ?_⟩
  rw [UL.mem_wout, Tab.slot_clear hd, h.live]
  simp only
  constructor
  · rintro ⟨⟨h1, h2, h3⟩, h4⟩
    refine ⟨h1, ?_, h3⟩
    rw [if_neg, h2]
    rintro ⟨rfl, hs⟩
    exact h4 (.inl ⟨rfl, .inr (by omega)⟩)
  · rintro ⟨h1, h2, h3⟩
    by_cases hc : m = n ∧ s.toNat = i
    · rw [if_pos hc] at h2
      injection h2 with h2
      exact absurd h2.symm h3
    · rw [if_neg hc] at h2
      refine ⟨⟨h1, h2, h3⟩, ?_⟩
      rintro (⟨hx, h5 | h5⟩ | ⟨h5, _⟩)
      · omega
      · exact hc ⟨hx, by omega⟩
      · omega
theorem UR.drop (h : UR G L T) : UR (G.filter fun p => decide (p.1 ≠ n)) (L.wout n (-1) (-1)) (T.drop n) := by
  refine ⟨h.nod.sublist (List.Sublist.map _ List.filter_sublist), fun m k => ?_, fun p hp => h.ids p (List.mem_filter.1 hp).1, fun m s x => ?_⟩
  · rw [List.mem_filter, decide_eq_true_iff, Tab.sz_drop, h.grp]
    by_cases hm : m = n
    · subst hm; simp
    · simp [hm]
  · rw [UL.mem_wout, Tab.drop_slot, h.live]
    simp only
    by_cases hm : m = n
    · subst hm; simp
    · rw [if_neg hm]
      exact ⟨fun h => h.1, fun h => ⟨h, fun hx => by rcases hx with ⟨hx, _⟩ | ⟨hx, _⟩; exact hm hx; omega⟩⟩
end
end Go.Proofs.Ytglplhmclfekfaa
