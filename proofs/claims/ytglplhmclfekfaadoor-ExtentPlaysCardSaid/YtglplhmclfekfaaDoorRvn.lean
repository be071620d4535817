/- ref06's Clone: a row of bits, cloned. -/
import Derived.Test.YtglplhmclfekfaaDoorRvm
namespace Go.Proofs.YtglplhmclfekfaaDoor
open Go.RowKit
set_option linter.unusedVariables false
set_option linter.unusedSimpArgs false

theorem ty_bools : ElemT Tryd.prog 69 4 1 1 := by
  refine ⟨Tryd.underlying69, ?_, by decide⟩
  have h1 := bool_info
  cases hi : Tryd.prog.info? 4 with
  | none => simp [hi] at h1
  | some i =>
    simp only [hi, Option.map_some, Option.some.injEq, Prod.mk.injEq] at h1
    exact ⟨i, _, rfl, h1.1, h1.2.1, h1.2.2, rfl⟩
theorem run_clone_bools (w : World) (l : List Bool) (hl : l.length ≤ 600) (B0 b c : Nat) (hb0 : w.heap[B0]? = some (.cells #[] 4 (0, 0))) (hc : l.length ≤ c) (hr : Cells w b 0 (boolsV l)) (ty : TypeId) :
    ∃ B rest w', (Builtin.append_ #[69, 69] ty #[.slice (some ⟨B0, 0, none⟩) 0 0, .slice (some ⟨b, 0, none⟩) l.length c]).run Tryd.prog w = .ok (.slice (some ⟨B, 0, none⟩) l.length (l.length + rest.length)) w' ∧
      w'.heap[B]? = some (.cells (boolsV l ++ rest).toArray 4 (0, 0)) ∧ (B = B0 ∨ w.heap.size ≤ B) ∧ Kept w w' := by
  have hlen : (boolsV l).length = l.length * 1 := by simp [boolsV]
  have hone : ∀ u ∈ boolsV l, u.oneCell' = true := by intro u hu; simp only [boolsV, List.mem_map] at hu; obtain ⟨y, _, rfl⟩ := hu; rfl
  by_cases h0 : l.length = 0
  · have hl0 : l = [] := List.eq_nil_of_length_eq_zero h0
    subst hl0
    refine ⟨B0, [], w, ?_, by simpa [boolsV] using hb0, .inl rfl, Kept.refl w⟩
    have h1 := bool_info
    cases hi : Tryd.prog.info? 4 with
    | none => simp [hi] at h1
    | some i => simp [Builtin.append_, run_underlying Tryd.underlying69, sizeOf, typeInfo, hi, Builtin.lenOf, Builtin.firstCells, loadCells, loadCellsFrom, storeCells]
  · obtain ⟨v', w', hrun, _, hg, hB, hown⟩ := run_append_app (P := Tryd.prog) w ty_bools ty w.heap.size (.slice (some ⟨B0, 0, none⟩) 0 0) 0 [] (.inr ⟨rfl, _, rfl, by simp, by simp⟩) _ l.length (boolsV l) (Src.of_cells hr hlen hc) hone (by unfold maxLen; omega) (by omega) (Nat.le_refl _)
    have ho := hown (.inl (by omega))
    rw [Nat.zero_add, List.nil_append] at ho
    rcases ho.2 with ⟨_, h⟩ | ⟨g, cap, cur, rfl, hgb, hh, hn, hm, hs, ht⟩
    · omega
    · have e : cur = (boolsV l ++ cur.toList.drop l.length).toArray := by
        rw [Nat.mul_one] at ht
        rw [← ht, List.take_append_drop, Array.toArray_toList]
      have hcl : cur.toList.length = cap := by simpa using hs
      refine ⟨g, cur.toList.drop l.length, w', ?_, by rw [← e]; exact hh, .inr hgb, hB⟩
      rw [hrun]
      congr 2
      rw [List.length_drop, hcl]; omega
end Go.Proofs.YtglplhmclfekfaaDoor
