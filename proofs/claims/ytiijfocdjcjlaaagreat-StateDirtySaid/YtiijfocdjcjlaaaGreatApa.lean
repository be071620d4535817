/- StateApart in plain Lean: what a right state's extents and places are. -/
import Derived.Test.YtiijfocdjcjlaaaGreatHla
namespace Go.Proofs.YtiijfocdjcjlaaaGreat
open Go.RowKit
set_option linter.unusedVariables false
set_option linter.unusedSimpArgs false
theorem exsB_some (ms : List Mb) : ∀ (l seen s : List Ex), exsB ms seen l = some s → (∀ x ∈ l, exB ms x = true ∧ x ∉ seen) ∧ l.Nodup ∧ ∀ x, x ∈ s ↔ x ∈ l ∨ x ∈ seen
  | [], seen, s, h => by
    rw [exsB] at h
    cases h
    exact ⟨fun x hx => absurd hx List.not_mem_nil, List.nodup_nil, fun x => ⟨fun h => .inr h, fun h => h.resolve_left List.not_mem_nil⟩⟩
  | a :: l, seen, s, h => by
    rw [exsB] at h
    split at h
    · rename_i hc
      rw [Bool.and_eq_true, Bool.not_eq_true', List.contains_eq_mem, decide_eq_false_iff_not] at hc
      obtain ⟨h1, h2, h3⟩ := exsB_some ms l (a :: seen) s h
      refine ⟨fun x hx => ?_, ?_, fun x => ?_⟩
      · rcases List.mem_cons.1 hx with rfl | hx
        · exact hc
        · exact ⟨(h1 x hx).1, fun hs => (h1 x hx).2 (List.mem_cons_of_mem _ hs)⟩
      · rw [List.nodup_cons]
        exact ⟨fun ha => (h1 a ha).2 List.mem_cons_self, h2⟩
      · rw [h3, List.mem_cons, List.mem_cons]
        constructor
        · rintro (h | rfl | h)
          · exact .inl (.inr h)
          · exact .inl (.inl rfl)
          · exact .inr h
        · rintro ((rfl | h) | h)
          · exact .inr (.inl rfl)
          · exact .inl h
          · exact .inr (.inr h)
    · cases h
theorem grpsB_some (ms : List Mb) : ∀ (gs : List Grp) (seen s : List Ex), grpsB ms seen gs = some s → (∀ g ∈ gs, (∀ x ∈ g.ext, exB ms x = true ∧ x ∉ seen) ∧ apartD (g.ext.map (·.1)) = true) ∧ gs.Pairwise fun g h => ∀ x ∈ g.ext, x ∉ h.ext
  | [], seen, s, h => ⟨fun g hg => absurd hg List.not_mem_nil, List.Pairwise.nil⟩
  | g :: gs, seen, s, h => by
    rw [grpsB] at h
    cases hg : grpB ms seen g with
    | none => rw [hg] at h; cases h
    | some s1 =>
      rw [hg] at h
      obtain ⟨h1, h2⟩ := grpsB_some ms gs s1 s h
      unfold grpB at hg
      split at hg
      · rename_i hc
        rw [Bool.and_eq_true] at hc
        cases hx : exsB ms seen g.ext with
        | none => rw [hx] at hg; cases hg
        | some s2 =>
          rw [hx] at hg
          simp only at hg
          split at hg
          · cases hg
            obtain ⟨k1, k2, k3⟩ := exsB_some ms _ _ _ hx
            refine ⟨fun a ha => ?_, ?_⟩
            · rcases List.mem_cons.1 ha with rfl | ha
              · exact ⟨k1, hc.2⟩
              · exact ⟨fun x hx => ⟨((h1 a ha).1 x hx).1, fun hs => ((h1 a ha).1 x hx).2 ((k3 x).2 (.inr hs))⟩, (h1 a ha).2⟩
            · rw [List.pairwise_cons]
              exact ⟨fun a ha x hx hxa => ((h1 a ha).1 x hxa).2 ((k3 x).2 (.inl hx)), h2⟩
          · cases hg
      · cases hg
theorem apartD_ne : ∀ (l : List Int), apartD l = true → ∀ i j (hi : i < l.length) (hj : j < l.length), i ≠ j → l[i] ≠ l[j]
  | [], _, i, j, hi, _, _ => by cases hi
  | a :: l, h, i, j, hi, hj, hne => by
    rw [apartD, Bool.and_eq_true, Bool.not_eq_true', List.contains_eq_mem, decide_eq_false_iff_not] at h
    rcases i with _ | i
    · rcases j with _ | j
      · exact absurd rfl hne
      · intro e
        simp only [List.getElem_cons_zero, List.getElem_cons_succ] at e
        exact h.1 (e ▸ List.getElem_mem (by simpa using hj))
    · rcases j with _ | j
      · intro e
        simp only [List.getElem_cons_zero, List.getElem_cons_succ] at e
        exact h.1 (e ▸ List.getElem_mem (by simpa using hi))
      · simp only [List.getElem_cons_succ]
        exact apartD_ne l h.2 i j (by simpa using hi) (by simpa using hj) (by omega)
theorem exB_at {ms : List Mb} {x : Ex} (hm : ms.all mbB = true) (h : exB ms x = true) : 114 ≤ x.2 ∧ (x.2 - 114) % 8 = 0 ∧ wrap64 (x.2 + 8) ≤ 4096 := by
  unfold exB at h
  cases hf : ms.find? (fun m => m.1 == x.1) with
  | none => rw [hf] at h; cases h
  | some m =>
    rw [hf] at h
    simp only [Bool.and_eq_true, decide_eq_true_eq, beq_iff_eq] at h
    have h3 := List.all_eq_true.1 hm m (List.mem_of_find?_eq_some hf)
    unfold mbB inN at h3
    simp only [Bool.and_eq_true, decide_eq_true_eq] at h3
    exact ⟨h.2.1, h.2.2.1, by have := h.2.2.2; omega⟩
theorem wrap_le {x : Int} (h : 0 ≤ x) : wrap64 x ≤ x := by unfold wrap64; omega
/-- two extents at unlike places of the same kind have no sector in common -/
theorem ex_apart {a b : Int} (ha : 114 ≤ a) (hb : 114 ≤ b) (ma : (a - 114) % 8 = 0) (mb : (b - 114) % 8 = 0) (hne : a ≠ b) : ¬ (a < wrap64 (b + 8) ∧ b < wrap64 (a + 8)) := by
  rintro ⟨h1, h2⟩
  have w1 := wrap_le (x := b + 8) (by omega)
  have w2 := wrap_le (x := a + 8) (by omega)
  omega
structure ApartS (t : St) : Prop where
  at_ : ∀ i (hi : i < t.gs.length) k (hk : k < (t.gs[i]).ext.length), 114 ≤ ((t.gs[i]).ext[k]).2 ∧ wrap64 (((t.gs[i]).ext[k]).2 + 8) ≤ 4096
  one : ∀ i (hi : i < t.gs.length) k (hk : k < (t.gs[i]).ext.length) n (hn : n < (t.gs[i]).ext.length), k ≠ n → ((t.gs[i]).ext[k]).1 ≠ ((t.gs[i]).ext[n]).1
  two : ∀ i (hi : i < t.gs.length) k (hk : k < (t.gs[i]).ext.length) j (hj : j < t.gs.length) n (hn : n < (t.gs[j]).ext.length), i ≠ j → ((t.gs[i]).ext[k]).1 = ((t.gs[j]).ext[n]).1 →
    ¬ (((t.gs[i]).ext[k]).2 < wrap64 (((t.gs[j]).ext[n]).2 + 8) ∧ ((t.gs[j]).ext[n]).2 < wrap64 (((t.gs[i]).ext[k]).2 + 8))
  once : ∀ i (hi : i < t.mp.length) k (hk : k < i), t.mp[i] = t.mp[k] → t.mp[i].1 = 0
  len : (t.mp.length : Int) = t.blocks
theorem onceW_at : ∀ (l : List Wh), onceW l = true → ∀ i (hi : i < l.length) k (hk : k < i), l[i] = l[k] → l[i].1 = 0
  | [], _, i, hi, _, _, _ => by cases hi
  | w :: l, h, i, hi, k, hk, e => by
    rw [onceW, Bool.and_eq_true] at h
    obtain ⟨j, rfl⟩ : ∃ j, i = j + 1 := ⟨i - 1, by omega⟩
    rcases k with _ | k
    · simp only [List.getElem_cons_zero, List.getElem_cons_succ] at e ⊢
      rcases Bool.or_eq_true _ _ ▸ h.1 with h1 | h1
      · rw [e]; simpa using h1
      · rw [Bool.not_eq_true', List.contains_eq_mem, decide_eq_false_iff_not] at h1
        exact absurd (e ▸ List.getElem_mem (by simpa using hi)) h1
    · simp only [List.getElem_cons_succ] at e ⊢
      exact onceW_at l h.2 j (by simpa using hi) k (by omega) e
theorem apart_of (t : St) (h : rightS t = true) : ApartS t := by
  have hR := (rightS_iff t).1 h
  obtain ⟨s, hs⟩ : ∃ s, grpsB t.ms [] t.gs = some s := Option.isSome_iff_exists.1 hR.grps
  obtain ⟨h1, h2⟩ := grpsB_some t.ms t.gs [] s hs
  have ha := fun i (hi : i < t.gs.length) k (hk : k < (t.gs[i]).ext.length) => exB_at hR.mbs ((h1 _ (List.getElem_mem hi)).1 _ (List.getElem_mem hk)).1
  refine { at_ := fun i hi k hk => ⟨(ha i hi k hk).1, (ha i hi k hk).2.2⟩, one := fun i hi k hk n hn hne => ?_, two := fun i hi k hk j hj n hn hij hd => ?_, once := ?_, len := hR.mplen }
  · have := apartD_ne _ (h1 _ (List.getElem_mem hi)).2 k n (by simpa using hk) (by simpa using hn) hne
    simpa using this
  · refine ex_apart (ha i hi k hk).1 (ha j hj n hn).1 (ha i hi k hk).2.1 (ha j hj n hn).2.1 ?_
    intro he
    have hx : (t.gs[i]).ext[k] = (t.gs[j]).ext[n] := Prod.ext hd he
    rw [List.pairwise_iff_getElem] at h2
    rcases Nat.lt_or_gt_of_ne hij with hl | hl
    · exact h2 i j hi hj hl _ (List.getElem_mem hk) (hx ▸ List.getElem_mem hn)
    · exact h2 j i hj hi hl _ (List.getElem_mem hn) (hx ▸ List.getElem_mem hk)
  · have h3 := hR.mapped
    unfold mappedB at h3
    rw [Bool.and_eq_true, Bool.and_eq_true] at h3
    exact onceW_at t.mp h3.1.2
end Go.Proofs.YtiijfocdjcjlaaaGreat
