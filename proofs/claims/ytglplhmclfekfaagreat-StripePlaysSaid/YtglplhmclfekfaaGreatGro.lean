/- A slice that a law or the document owns grows by one element: what that does to the memory. -/
import Derived.Test.YtglplhmclfekfaaGreatEA
import Derived.Deep.MidRow
namespace Go.Proofs.YtglplhmclfekfaaGreat
open Go.RowKit
set_option linter.unusedVariables false
set_option linter.unusedSimpArgs false

/-- what one append does to the memory -/
def Grw (W W' : World) (v v' : Value) : Prop := (v'.ownBlock = v.ownBlock ∧ But (fun k => v.ownBlock = some k) W W') ∨ (∃ g, v'.ownBlock = some g ∧ W.heap.size ≤ g ∧ g < W'.heap.size ∧ Kept W W')
theorem Grw.size {W W' : World} {v v' : Value} (h : Grw W W' v v') : W.heap.size ≤ W'.heap.size := by
  rcases h with ⟨_, h⟩ | ⟨_, _, _, _, h⟩ <;> exact h.size
theorem Grw.blk {W W' : World} {v v' : Value} (h : Grw W W' v v') {b : Nat} (hb : b < W.heap.size) (hn : v.ownBlock ≠ some b) : W'.heap[b]? = W.heap[b]? := by
  rcases h with ⟨_, h⟩ | ⟨_, _, _, _, h⟩
  · exact h.block b hb hn
  · exact h.block_eq hb
theorem own_lt {w : World} {base e size n : Nat} {v : Value} {xs : List Value} (h : w.ownsRow base e size v n xs) {g : Nat} (hg : v.ownBlock = some g) : g < w.heap.size := by
  rcases h.2 with ⟨rfl, _⟩ | ⟨g', cap, cur, rfl, _, hh, _⟩
  · simp [Value.ownBlock] at hg
  · simp only [Value.ownBlock, Option.some.injEq] at hg
    subst hg
    exact (Array.getElem?_eq_some_iff.1 hh).1
/-- one element more in a slice that is owned -/
theorem own_append {P : Program} {t e size bytes : Nat} (E : ElemT P t e size bytes) {W : World} {v : Value} {n : Nat} {xs : List Value} (hv : W.ownsRow 0 e size v n xs) (hn : n < 20000) (hby : bytes ≤ 1000000) {b : Nat} (es : List Value) (hl : es.length = size)
    (hb : ∀ j u, es[j]? = some u → W.cell? ⟨b, j, none⟩ = some u) (h1 : ∀ u ∈ es, u.oneCell' = true) (ty : TypeId) :
    ∃ v' W', (Builtin.append_ #[t, t] ty #[v, .slice (some ⟨b, 0, none⟩) 1 1]).run P W = .ok v' W' ∧ W'.ownsRow 0 e size v' (n + 1) (xs ++ es) ∧ Grw W W' v v' := by
  have hcb : ∀ j u, es[j]? = some u → W.cell? ((⟨b, 0, none⟩ : Addr).add j) = some u := fun j u hu => by rw [Addr.add_mid, Nat.zero_add]; exact hb j u hu
  have hsrc : Src W size (.slice (some ⟨b, 0, none⟩) 1 1) 1 es := ⟨by omega, _, 1, rfl, Nat.le_refl _, by simp, fun b' hb' j u hu => by cases hb'; exact hcb j u hu⟩
  have hbb : (n + 1) * bytes ≤ 140737488355328 := Nat.le_trans (Nat.mul_le_mul (show n + 1 ≤ 20000 by omega) hby) (by decide)
  have fresh : App W W.heap.size e size v n xs → ∃ v' W', (Builtin.append_ #[t, t] ty #[v, .slice (some ⟨b, 0, none⟩) 1 1]).run P W = .ok v' W' ∧ W'.ownsRow 0 e size v' (n + 1) (xs ++ es) ∧ Grw W W' v v' := by
    intro ha
    obtain ⟨v', W', hr, _, hg, hB, hown⟩ := run_append_app (P := P) W E ty W.heap.size v n xs ha _ 1 _ hsrc h1 (by simp only [maxLen]; omega) hbb (Nat.le_refl _)
    have ho := hown (.inl (by decide))
    refine ⟨v', W', hr, ownsRow_base ho (Nat.zero_le _), ?_⟩
    rcases ho.2 with ⟨_, h0⟩ | ⟨g, c, cur, rfl, hge, hh, _⟩
    · omega
    · exact .inr ⟨g, rfl, hge, (Array.getElem?_eq_some_iff.1 hh).1, ⟨hB.os, hB.tape, hB.output, hB.size, fun k hk => hB.block k hk⟩⟩
  have hv0 := hv
  rcases hv.2 with ⟨rfl, h0⟩ | ⟨g, cap, cur, rfl, hbg, hh, hnc, hcm, hcs, htk⟩
  · have hx : xs = [] := List.eq_nil_of_length_eq_zero (by rw [hv.1, h0, Nat.zero_mul])
    subst hx h0
    exact fresh (App.empty W _ _ _)
  · by_cases hfull : n = cap
    · refine fresh (.inr ⟨hv.1, some ⟨g, 0, none⟩, by rw [hfull], by simp, fun b' hb' j u hu => ?_⟩)
      cases hb'
      have hj : j < xs.length := by
        rcases Nat.lt_or_ge j xs.length with h | h
        · exact h
        · rw [List.getElem?_eq_none h] at hu; cases hu
      have hcl : cur = cur.toList.toArray := by simp
      rw [hcl] at hh
      have hj2 : j < n * size := by rw [← hv.1]; exact hj
      rw [Addr.add_mid, Nat.zero_add, cell_of_row _ _ _ _ _ _ hh, ← hu, ← htk, List.getElem?_take, if_pos hj2]
      simp
    · obtain ⟨ht, ⟨i, z, hi, hz, hsz, hby', hzs⟩, hpos⟩ := E
      obtain ⟨W', hr, ho, hg⟩ := run_append_fits (P := P) (w := W) 0 _ ty _ i size ht hi hsz g n cap xs hv0 ⟨b, 0, none⟩ 1 1 es (by omega) hcb h1 (by omega)
      exact ⟨_, W', hr, ho, .inl ⟨rfl, ⟨hg.os, hg.tape, hg.output, hg.size, fun k hk hne => hg.block k hk (fun e => hne e.symm)⟩⟩⟩
theorem own_form {W : World} {base e sz n : Nat} {v : Value} {xs : List Value} (h : W.ownsRow base e sz v n xs) : ∃ ao cap, v = .slice ao n cap := by
  rcases h.2 with ⟨rfl, h0⟩ | ⟨g, cap, cur, rfl, _⟩
  · exact ⟨none, 0, by rw [h0]⟩
  · exact ⟨_, cap, rfl⟩
/-- what an owned row's cells hold -/
theorem own_cell {W : World} {base e sz n : Nat} {v : Value} {xs : List Value} (h : W.ownsRow base e sz v n xs) (hn : n ≠ 0) : ∃ g cap, v = .slice (some ⟨g, 0, none⟩) n cap ∧ v.ownBlock = some g ∧ (∃ cur, W.heap[g]? = some (.cells cur e (0, 0))) ∧ ∀ j u, xs[j]? = some u → W.cell? ⟨g, j, none⟩ = some u := by
  rcases h.2 with ⟨_, h0⟩ | ⟨g, cap, cur, rfl, hbg, hh, hnc, hcm, hcs, htk⟩
  · exact absurd h0 hn
  · refine ⟨g, cap, rfl, rfl, ⟨cur, hh⟩, fun j u hu => ?_⟩
    have hj : j < xs.length := by
      rcases Nat.lt_or_ge j xs.length with h | h
      · exact h
      · rw [List.getElem?_eq_none h] at hu; cases hu
    have hcl : cur = cur.toList.toArray := by simp
    rw [hcl] at hh
    have hj2 : j < n * sz := by rw [← h.1]; exact hj
    rw [cell_of_row _ _ _ _ _ _ hh, ← hu, ← htk, List.getElem?_take, if_pos hj2]
    simp
/-- it stays where its block stays -/
theorem own_same {W W' : World} {base e sz n : Nat} {v : Value} {xs : List Value} (h : W.ownsRow base e sz v n xs) (hs : ∀ g, v.ownBlock = some g → W'.heap[g]? = W.heap[g]?) : W'.ownsRow base e sz v n xs := by
  refine ⟨h.1, ?_⟩
  rcases h.2 with h0 | ⟨g, cap, cur, rfl, hbg, hh, hr⟩
  · exact .inl h0
  · exact .inr ⟨g, cap, cur, rfl, hbg, (hs g rfl).trans hh, hr⟩
end Go.Proofs.YtglplhmclfekfaaGreat
