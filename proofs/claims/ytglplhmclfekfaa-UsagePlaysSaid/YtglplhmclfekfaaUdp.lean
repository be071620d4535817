/- UsageDrops: plain laws; a table that loses a group. -/
import Derived.Test.YtglplhmclfekfaaUmo
namespace Go.Proofs.Ytglplhmclfekfaa
open Go.RowKit Go.ChangeMaps Go.MapKept
set_option linter.unusedVariables false
set_option linter.unusedSimpArgs false

def Tab.drop (T : Tab) (n : Int) : Tab := ⟨fun x => if x = n then none else T.g x, fun b => match T.f b with | some s => if s.1 = n then none else some s | none => none⟩
theorem Tab.drop_f {T : Tab} {n b : Int} {s : Int × Int} : (T.drop n).f b = some s ↔ T.f b = some s ∧ s.1 ≠ n := by
  unfold Tab.drop
  dsimp only
  cases h : T.f b with
  | none => simp
  | some x =>
    dsimp only
    by_cases e : x.1 = n
    · rw [if_pos e]
      constructor
      · intro hh; cases hh
      · rintro ⟨hh, hn⟩; injection hh with hh; subst hh; exact absurd e hn
    · rw [if_neg e]
      constructor
      · intro hh; injection hh with hh; subst hh; exact ⟨rfl, e⟩
      · rintro ⟨hh, _⟩; exact hh
theorem Tab.drop_slot {T : Tab} {n m : Int} {i : Nat} : (T.drop n).slot m i = if m = n then none else T.slot m i := by
  unfold Tab.slot Tab.drop
  dsimp only
  split <;> rfl
theorem Tab.Ok.drop {T : Tab} (h : T.Ok) (n : Int) : (T.drop n).Ok := by
  refine ⟨fun b m s hf => ?_, fun m i b hs hb => ?_, fun m l hl => ?_⟩
  · obtain ⟨hf, hn⟩ := Tab.drop_f.1 hf
    obtain ⟨h0, i, hi, hs⟩ := h.at_ b m s hf
    exact ⟨h0, i, hi, by rw [Tab.drop_slot, if_neg hn]; exact hs⟩
  · rw [Tab.drop_slot] at hs
    split at hs
    · cases hs
    · exact Tab.drop_f.2 ⟨h.of m i b hs hb, ‹_›⟩
  · have hl' : (if m = n then none else T.g m) = some l := hl
    split at hl'
    · cases hl'
    · exact h.len m l hl'
/-- four groups of sixteen slots -/
structure DV (T : Tab) : Prop where
  ok : T.Ok
  g : ∀ i : Nat, i < 4 → ∃ l, T.g (i : Int) = some l ∧ l.length = 16
  no : ∀ m : Int, m < 0 ∨ 4 ≤ m → T.g m = none
theorem DV.opens : DV (opensT (List.replicate 4 16)) := by
  refine ⟨opensT_ok _ (by intro n hn; simp at hn; omega), fun i hi => ⟨_, opensT_g _ i (by rw [List.length_replicate]; exact hi), by rw [List.length_replicate, List.getElem_replicate]⟩, fun m hm => ?_⟩
  simp only [opensT]
  split
  · rw [List.getElem?_eq_none (by rw [List.length_replicate]; omega)]; rfl
  · rfl
theorem DV.put {T : Tab} (h : DV T) {g : Int} {i : Nat} (hd : T.slot g i = some (-1)) {b : Int} (h0 : 0 ≤ b) : DV (T.put g i b) := by
  refine ⟨h.ok.put hd h0, fun j hj => ?_, fun m hm => ?_⟩
  · obtain ⟨l, hl, ha⟩ := h.g j hj
    obtain ⟨l', hl', e⟩ := put_len hl g i b
    exact ⟨l', hl', by omega⟩
  · have hno := h.no m hm
    cases hp : (T.put g i b).g m with
    | none => rfl
    | some l =>
      have hlen := (h.ok.put hd h0).len m l hp
      have hs : (T.put g i b).slot m 0 = some l[0] := by rw [Tab.slot_of hp, List.getElem?_eq_getElem hlen.1]
      rw [Tab.slot_put h.ok hd h0] at hs
      have hmg : ¬ (m = g ∧ 0 = i) := by
        rintro ⟨rfl, rfl⟩
        rw [Tab.slot, hno] at hd; cases hd
      rw [if_neg hmg] at hs
      split at hs
      · rename_i hf
        obtain ⟨_, j, _, hs'⟩ := h.ok.at_ b m _ hf
        rw [Tab.slot, hno] at hs'; cases hs'
      · rw [Tab.slot, hno] at hs; cases hs
theorem DV.drop_none {T : Tab} (who : Int) : (T.drop who).g who = none := by unfold Tab.drop; simp
/-- the groups that are left -/
theorem DV.left {T : Tab} (h : DV T) (who : Int) (m : Int) : (T.drop who).g m ≠ none ↔ (0 ≤ m ∧ m < 4) ∧ m ≠ who := by
  show (if m = who then none else T.g m) ≠ none ↔ _
  by_cases e : m = who
  · rw [if_pos e]; simp [e]
  · rw [if_neg e]
    by_cases hm : 0 ≤ m ∧ m < 4
    · obtain ⟨l, hl, _⟩ := h.g m.toNat (by omega)
      rw [Int.toNat_of_nonneg hm.1] at hl
      simp [hl, hm, e]
    · rw [h.no m (by omega)]; simp; omega
/-- of four numbers one is left out -/
theorem three_left {ks : List Int} (hn : ks.Nodup) {who : Int} (hw : 0 ≤ who ∧ who < 4) (hm : ∀ m, m ∈ ks ↔ (0 ≤ m ∧ m < 4) ∧ m ≠ who) : ks.length = 3 := by
  have hp : ks.Perm (([0, 1, 2, 3] : List Int).filter fun m => m != who) := by
    rw [List.perm_ext_iff_of_nodup hn ((by decide : ([0, 1, 2, 3] : List Int).Nodup).filter _)]
    intro m
    rw [hm m]
    simp only [List.mem_filter, List.mem_cons, List.not_mem_nil, or_false, bne_iff_ne, ne_eq]
    constructor
    · rintro ⟨h1, h2⟩; exact ⟨by omega, h2⟩
    · rintro ⟨h1, h2⟩; exact ⟨by omega, h2⟩
  rw [hp.length_eq]
  have : who = 0 ∨ who = 1 ∨ who = 2 ∨ who = 3 := by omega
  rcases this with rfl | rfl | rfl | rfl <;> rfl
section
variable {w W : World} {R : Nat → Prop} {p : Nat} {T : Tab}
/-- Put, whatever stands there -/
theorem dv_Put (h : Own w R W p T) (hv : DV T) (g : Nat) (hg : g < 4) (i : Nat) (hi : i < 16) (b : Int) (hb : 0 ≤ b) :
    Calls Try.prog 28 #[.pointer (some ⟨p, 0, none⟩), .int .i64 g, .int .i64 i, .int .i64 b] W fun e w' => ∃ E T', e = .returned (.int .i64 E) ∧ DV T' ∧ Own w R w' p T' ∧ SameR R W w' := by
  obtain ⟨l, hl, hll⟩ := hv.g g hg
  have hs : T.slot g i = some (l[i]'(by omega)) := by rw [Tab.slot_of hl, List.getElem?_eq_getElem]
  by_cases hx : l[i]'(by omega) = -1
  · rw [hx] at hs
    exact (own_Put h hv.ok g b i hs hb).mono fun e w' ⟨he, k1, k2⟩ => ⟨0, _, he, hv.put hs hb, k1, k2⟩
  · refine (own_Put_live h hv.ok g b i hs hx hb).mono fun e w' ⟨he, hw⟩ => ⟨9, T, he, hv, ?_, ?_⟩
    · rw [← hw]; exact h
    · rw [← hw]; exact SameR.refl _ _
end
end Go.Proofs.Ytglplhmclfekfaa
