/- PaA: several texts in one: Gro Rva Rvb Rvc Rvd Rve Rvf Rvg. -/
import Derived.Test.YtglplhmclfekfaaDoorApp
import Derived.Test.YtglplhmclfekfaaDoorFrame
import Derived.Deep.MidRow
import Derived.Test.YtglplhmclfekfaaDoorExf
import Derived.Test.YtglplhmclfekfaaDoorExd
import Derived.Test.YtglplhmclfekfaaDoorEca
import Derived.BigQuiet
import Derived.Laws.MakeOwn
/- A slice that a law or the document owns grows by one element: what that does to the memory. -/
namespace Go.Proofs.YtglplhmclfekfaaDoor
open Go.RowKit
set_option linter.unusedVariables false
set_option linter.unusedSimpArgs false

/-- what one append does to the memory -/
def Grw (W W' : World) (v v' : Value) : Prop := (v'.ownBlock = v.ownBlock ∧ But (fun k => v.ownBlock = some k) W W') ∨ (∃ g, v'.ownBlock = some g ∧ W.heap.size ≤ g ∧ g < W'.heap.size ∧ Kept W W')
theorem Grw.size {W W' : World} {v v' : Value} (h : Grw W W' v v') : W.heap.size ≤ W'.heap.size := by
  rcases h with ⟨_, h⟩ | ⟨_, _, _, _, h⟩ <;> exact h.size
theorem Grw.blk {W W' : World} {v v' : Value} (h : Grw W W' v v') {b : Nat} (hb : b < W.heap.size) (hn : v.ownBlock ≠ some b) : W'.heap[b]? = W.heap[b]? := by
  rcases h with ⟨_, h⟩ | ⟨_, _, _, _, h⟩
  · exact h.block b hb hn
  · exact h.block_eq hb
theorem own_lt {w : World} {base e size n : Nat} {v : Value} {xs : List Value} (h : w.ownsRow base e size v n xs) {g : Nat} (hg : v.ownBlock = some g) : g < w.heap.size := by
  rcases h.2 with ⟨rfl, _⟩ | ⟨g', cap, cur, rfl, _, hh, _⟩
  · simp [Value.ownBlock] at hg
  · simp only [Value.ownBlock, Option.some.injEq] at hg
    subst hg
    exact (Array.getElem?_eq_some_iff.1 hh).1
/-- one element more in a slice that is owned -/
theorem own_append {P : Program} {t e size bytes : Nat} (E : ElemT P t e size bytes) {W : World} {v : Value} {n : Nat} {xs : List Value} (hv : W.ownsRow 0 e size v n xs) (hn : n < 20000) (hby : bytes ≤ 1000000) {b : Nat} (es : List Value) (hl : es.length = size)
    (hb : ∀ j u, es[j]? = some u → W.cell? ⟨b, j, none⟩ = some u) (h1 : ∀ u ∈ es, u.oneCell' = true) (ty : TypeId) :
    ∃ v' W', (Builtin.append_ #[t, t] ty #[v, .slice (some ⟨b, 0, none⟩) 1 1]).run P W = .ok v' W' ∧ W'.ownsRow 0 e size v' (n + 1) (xs ++ es) ∧ Grw W W' v v' := by
  have hcb : ∀ j u, es[j]? = some u → W.cell? ((⟨b, 0, none⟩ : Addr).add j) = some u := fun j u hu => by rw [Addr.add_mid, Nat.zero_add]; exact hb j u hu
  have hsrc : Src W size (.slice (some ⟨b, 0, none⟩) 1 1) 1 es := ⟨by omega, _, 1, rfl, Nat.le_refl _, by simp, fun b' hb' j u hu => by cases hb'; exact hcb j u hu⟩
  have hbb : (n + 1) * bytes ≤ 140737488355328 := Nat.le_trans (Nat.mul_le_mul (show n + 1 ≤ 20000 by omega) hby) (by decide)
  have fresh : App W W.heap.size e size v n xs → ∃ v' W', (Builtin.append_ #[t, t] ty #[v, .slice (some ⟨b, 0, none⟩) 1 1]).run P W = .ok v' W' ∧ W'.ownsRow 0 e size v' (n + 1) (xs ++ es) ∧ Grw W W' v v' := by
    intro ha
    obtain ⟨v', W', hr, _, hg, hB, hown⟩ := run_append_app (P := P) W E ty W.heap.size v n xs ha _ 1 _ hsrc h1 (by simp only [maxLen]; omega) hbb (Nat.le_refl _)
    have ho := hown (.inl (by decide))
    refine ⟨v', W', hr, ownsRow_base ho (Nat.zero_le _), ?_⟩
    rcases ho.2 with ⟨_, h0⟩ | ⟨g, c, cur, rfl, hge, hh, _⟩
    · omega
    · exact .inr ⟨g, rfl, hge, (Array.getElem?_eq_some_iff.1 hh).1, ⟨hB.os, hB.tape, hB.output, hB.size, fun k hk => hB.block k hk⟩⟩
  have hv0 := hv
  rcases hv.2 with ⟨rfl, h0⟩ | ⟨g, cap, cur, rfl, hbg, hh, hnc, hcm, hcs, htk⟩
  · have hx : xs = [] := List.eq_nil_of_length_eq_zero (by rw [hv.1, h0, Nat.zero_mul])
    subst hx h0
    exact fresh (App.empty W _ _ _)
  · by_cases hfull : n = cap
    · refine fresh (.inr ⟨hv.1, some ⟨g, 0, none⟩, by rw [hfull], by simp, fun b' hb' j u hu => ?_⟩)
      cases hb'
      have hj : j < xs.length := by
        rcases Nat.lt_or_ge j xs.length with h | h
        · exact h
        · rw [List.getElem?_eq_none h] at hu; cases hu
      have hcl : cur = cur.toList.toArray := by simp
      rw [hcl] at hh
      have hj2 : j < n * size := by rw [← hv.1]; exact hj
      rw [Addr.add_mid, Nat.zero_add, cell_of_row _ _ _ _ _ _ hh, ← hu, ← htk, List.getElem?_take, if_pos hj2]
      simp
    · obtain ⟨ht, ⟨i, z, hi, hz, hsz, hby', hzs⟩, hpos⟩ := E
      obtain ⟨W', hr, ho, hg⟩ := run_append_fits (P := P) (w := W) 0 _ ty _ i size ht hi hsz g n cap xs hv0 ⟨b, 0, none⟩ 1 1 es (by omega) hcb h1 (by omega)
      exact ⟨_, W', hr, ho, .inl ⟨rfl, ⟨hg.os, hg.tape, hg.output, hg.size, fun k hk hne => hg.block k hk (fun e => hne e.symm)⟩⟩⟩
theorem own_form {W : World} {base e sz n : Nat} {v : Value} {xs : List Value} (h : W.ownsRow base e sz v n xs) : ∃ ao cap, v = .slice ao n cap := by
  rcases h.2 with ⟨rfl, h0⟩ | ⟨g, cap, cur, rfl, _⟩
  · exact ⟨none, 0, by rw [h0]⟩
  · exact ⟨_, cap, rfl⟩
/-- what an owned row's cells hold -/
theorem own_cell {W : World} {base e sz n : Nat} {v : Value} {xs : List Value} (h : W.ownsRow base e sz v n xs) (hn : n ≠ 0) : ∃ g cap, v = .slice (some ⟨g, 0, none⟩) n cap ∧ v.ownBlock = some g ∧ (∃ cur, W.heap[g]? = some (.cells cur e (0, 0))) ∧ ∀ j u, xs[j]? = some u → W.cell? ⟨g, j, none⟩ = some u := by
  rcases h.2 with ⟨_, h0⟩ | ⟨g, cap, cur, rfl, hbg, hh, hnc, hcm, hcs, htk⟩
  · exact absurd h0 hn
  · refine ⟨g, cap, rfl, rfl, ⟨cur, hh⟩, fun j u hu => ?_⟩
    have hj : j < xs.length := by
      rcases Nat.lt_or_ge j xs.length with h | h
      · exact h
      · rw [List.getElem?_eq_none h] at hu; cases hu
    have hcl : cur = cur.toList.toArray := by simp
    rw [hcl] at hh
    have hj2 : j < n * sz := by rw [← h.1]; exact hj
    rw [cell_of_row _ _ _ _ _ _ hh, ← hu, ← htk, List.getElem?_take, if_pos hj2]
    simp
/-- it stays where its block stays -/
theorem own_same {W W' : World} {base e sz n : Nat} {v : Value} {xs : List Value} (h : W.ownsRow base e sz v n xs) (hs : ∀ g, v.ownBlock = some g → W'.heap[g]? = W.heap[g]?) : W'.ownsRow base e sz v n xs := by
  refine ⟨h.1, ?_⟩
  rcases h.2 with h0 | ⟨g, cap, cur, rfl, hbg, hh, hr⟩
  · exact .inl h0
  · exact .inr ⟨g, cap, cur, rfl, hbg, (hs g rfl).trans hh, hr⟩
end Go.Proofs.YtglplhmclfekfaaDoor
/- The document's map of extents (ref06) in plain Lean: what it says as the map itself would say it. -/
namespace Go.Proofs.YtglplhmclfekfaaDoor
open Go.RowKit
set_option linter.unusedVariables false
set_option linter.unusedSimpArgs false

/-- its members: the number, which are taken -/
abbrev RM : Type := List (Int × List Bool)
def RM.m (M : RM) (k : Nat) : Int × List Bool := M.getD k (0, [])
/-- the place of a member -/
def RM.at_ (M : RM) (d : Int) : Nat := M.findIdx fun p => p.1 == d
def RM.atV (M : RM) (d : Int) : Int := if M.at_ d < M.length then (M.at_ d : Int) else -1
/-- as a map of extents -/
def RM.xt (M : RM) : XT := fun d => if M.at_ d < M.length then some ((M.m (M.at_ d)).2.length, fun i => (M.m (M.at_ d)).2.getD i false) else none
section
variable {M : RM} {d : Int}
theorem RM.m_eq {k : Nat} (h : k < M.length) : M.m k = M[k] := by unfold RM.m; rw [List.getD_eq_getElem?_getD, List.getElem?_eq_getElem h]; rfl
theorem RM.at_is (h : M.at_ d < M.length) : (M.m (M.at_ d)).1 = d := by
  rw [RM.m_eq h]
  have h' : List.findIdx (fun p : Int × List Bool => p.1 == d) M < M.length := h
  have := List.findIdx_getElem (w := h')
  exact beq_iff_eq.1 this
theorem RM.at_not {j : Nat} (h : j < M.at_ d) : (M.m j).1 ≠ d := by
  have hl : j < M.length := Nat.lt_of_lt_of_le h List.findIdx_le_length
  rw [RM.m_eq hl]
  have h' : j < List.findIdx (fun p : Int × List Bool => p.1 == d) M := h
  have := List.not_of_lt_findIdx h'
  intro e; rw [e] at this; simp at this
/-- the first one found -/
theorem RM.at_of {k : Nat} (hk : k < M.length) (h : (M.m k).1 = d) (hl : ∀ j, j < k → (M.m j).1 ≠ d) : M.at_ d = k := by
  rcases Nat.lt_trichotomy (M.at_ d) k with h1 | h1 | h1
  · exact absurd (RM.at_is (Nat.lt_trans h1 hk)) (hl _ h1)
  · exact h1
  · exact absurd h (RM.at_not h1)
theorem RM.at_none (h : ∀ j, j < M.length → (M.m j).1 ≠ d) : M.at_ d = M.length := by
  have h1 : M.at_ d ≤ M.length := List.findIdx_le_length
  rcases Nat.lt_or_eq_of_le h1 with h2 | h2
  · exact absurd (RM.at_is h2) (h _ h2)
  · exact h2
theorem RM.atV_some {k : Nat} (h : M.at_ d = k) (hk : k < M.length) : M.atV d = (k : Int) := by unfold RM.atV; rw [h, if_pos hk]
theorem RM.atV_none (h : ¬ M.at_ d < M.length) : M.atV d = -1 := by unfold RM.atV; rw [if_neg h]
theorem RM.xt_some (h : M.at_ d < M.length) : M.xt d = some ((M.m (M.at_ d)).2.length, fun i => (M.m (M.at_ d)).2.getD i false) := by unfold RM.xt; rw [if_pos h]
theorem RM.xt_none (h : ¬ M.at_ d < M.length) : M.xt d = none := by unfold RM.xt; rw [if_neg h]
theorem RM.xt_nil : RM.xt [] = XT.none_ := by funext d; rfl
/-- one bit of a member -/
def RM.put (M : RM) (k i : Nat) (b : Bool) : RM := M.set k ((M.m k).1, (M.m k).2.set i b)
theorem RM.put_len (k i : Nat) (b : Bool) : (M.put k i b).length = M.length := by simp [RM.put]
theorem RM.put_m {k : Nat} (hk : k < M.length) (i : Nat) (b : Bool) (j : Nat) : (M.put k i b).m j = if j = k then ((M.m k).1, (M.m k).2.set i b) else M.m j := by
  unfold RM.put RM.m
  simp only [List.getD_eq_getElem?_getD, List.getElem?_set]
  by_cases e : k = j
  · subst e; simp [hk]
  · simp [e, Ne.symm e]
theorem RM.put_at {k : Nat} (hk : k < M.length) (i : Nat) (b : Bool) (d : Int) : (M.put k i b).at_ d = M.at_ d := by
  have h1 : ∀ j, ((M.put k i b).m j).1 = (M.m j).1 := fun j => by
    rw [RM.put_m hk]; split
    · rename_i e; rw [e]
    · rfl
  by_cases h : M.at_ d < M.length
  · exact RM.at_of (by rw [RM.put_len]; exact h) ((h1 _).trans (RM.at_is h)) (fun j hj => by rw [h1]; exact RM.at_not hj)
  · have h2 : M.at_ d ≤ M.length := List.findIdx_le_length
    have h3 : M.at_ d = M.length := by omega
    rw [h3, RM.at_none (fun j hj => by rw [h1]; exact RM.at_not (by rw [RM.put_len] at hj; omega)), RM.put_len]
theorem RM.xt_put {k : Nat} (hk : M.at_ d = k) (hl : k < M.length) {i : Nat} (hi : i < (M.m k).2.length) (b : Bool) : (M.put k i b).xt = M.xt.set d (M.m k).2.length (setS (fun j => (M.m k).2.getD j false) i b) := by
  subst hk
  funext x
  unfold XT.set RM.xt
  rw [RM.put_at hl, RM.put_len, RM.put_m hl]
  by_cases e : x = d
  · subst e
    rw [if_pos hl, if_pos rfl, if_pos rfl]
    simp only [List.length_set, Option.some.injEq, Prod.mk.injEq, true_and]
    funext j
    unfold setS
    simp only [List.getD_eq_getElem?_getD, List.getElem?_set]
    by_cases ej : j = i
    · subst ej; simp [hi]
    · simp [ej, Ne.symm ej]
  · rw [if_neg e]
    by_cases h : M.at_ x < M.length
    · have hne : M.at_ x ≠ M.at_ d := fun h' => e (by rw [← RM.at_is h, ← RM.at_is hl, h'])
      rw [if_pos h, if_pos h, if_neg hne]
    · rw [if_neg h, if_neg h]
/-- a new member -/
theorem RM.m_app {l : List Bool} (j : Nat) : (M ++ [(d, l)]).m j = if j < M.length then M.m j else if j = M.length then (d, l) else (0, []) := by
  unfold RM.m
  rw [List.getD_eq_getElem?_getD, List.getElem?_append]
  by_cases h : j < M.length
  · rw [if_pos h, if_pos h, List.getD_eq_getElem?_getD]
  · rw [if_neg h, if_neg h]
    by_cases e : j = M.length
    · rw [if_pos e, e, Nat.sub_self]; rfl
    · rw [if_neg e, List.getElem?_eq_none (by simp; omega)]; rfl
theorem RM.xt_app (h : ¬ M.at_ d < M.length) (n : Nat) : (M ++ [(d, List.replicate n false)]).xt = M.xt.set d n (fun _ => false) := by
  have hl : (M ++ [(d, List.replicate n false)]).length = M.length + 1 := by simp
  have h2 : M.at_ d ≤ M.length := List.findIdx_le_length
  have hne : ∀ j, j < M.length → (M.m j).1 ≠ d := fun j hj => RM.at_not (by omega)
  funext x
  unfold XT.set
  by_cases e : x = d
  · subst e
    rw [if_pos rfl]
    have ha : RM.at_ (M ++ [(x, List.replicate n false)]) x = M.length := RM.at_of (by rw [hl]; omega) (by rw [RM.m_app, if_neg (by omega), if_pos rfl]) (fun j hj => by rw [RM.m_app, if_pos hj]; exact hne j hj)
    rw [RM.xt_some (by rw [ha, hl]; omega), ha, RM.m_app, if_neg (by omega), if_pos rfl]
    simp only [List.length_replicate, Option.some.injEq, Prod.mk.injEq, true_and]
    funext i
    simp [List.getD_eq_getElem?_getD, List.getElem?_replicate]
    split <;> rfl
  · rw [if_neg e]
    by_cases hx : M.at_ x < M.length
    · have ha : RM.at_ (M ++ [(d, List.replicate n false)]) x = M.at_ x := RM.at_of (by rw [hl]; omega) (by rw [RM.m_app, if_pos hx]; exact RM.at_is hx) (fun j hj => by rw [RM.m_app, if_pos (by omega)]; exact RM.at_not hj)
      rw [RM.xt_some (by rw [ha, hl]; omega), ha, RM.m_app, if_pos hx, RM.xt_some hx]
    · have h3 : M.at_ x ≤ M.length := List.findIdx_le_length
      have ha : RM.at_ (M ++ [(d, List.replicate n false)]) x = M.length + 1 := by
        rw [RM.at_none (fun j hj => ?_), hl]
        rw [RM.m_app]
        by_cases h4 : j < M.length
        · rw [if_pos h4]; exact RM.at_not (by omega)
        · rw [if_neg h4, if_pos (by rw [hl] at hj; omega)]; exact fun h5 => e h5.symm
      rw [RM.xt_none (by rw [ha, hl]; omega), RM.xt_none hx]
end
end Go.Proofs.YtglplhmclfekfaaDoor
/- The document's map of extents (ref06) in memory; at. -/
namespace Go.Proofs.YtglplhmclfekfaaDoor
open Go.RowKit
set_option linter.unusedVariables false
set_option linter.unusedSimpArgs false

theorem flat2_len (f : Nat → List Value) (hf : ∀ k, (f k).length = 2) : ∀ n, ((List.range n).flatMap f).length = n * 2
  | 0 => rfl
  | n + 1 => by rw [List.range_succ, List.flatMap_append, List.length_append, flat2_len f hf n]; simp [hf]; omega
theorem flat2_at (f : Nat → List Value) (hf : ∀ k, (f k).length = 2) {r : Nat} (hr : r < 2) : ∀ {n k : Nat}, k < n → ((List.range n).flatMap f)[k * 2 + r]? = (f k)[r]?
  | n + 1, k, hk => by
    rw [List.range_succ, List.flatMap_append]
    by_cases e : k < n
    · rw [List.getElem?_append_left (by rw [flat2_len f hf]; omega)]
      exact flat2_at f hf hr e
    · have : k = n := by omega
      subst this
      rw [List.getElem?_append_right (by rw [flat2_len f hf]; omega), flat2_len f hf]
      simp
theorem flat2_congr {f f' : Nat → List Value} {n : Nat} (h : ∀ k, k < n → f k = f' k) : (List.range n).flatMap f = (List.range n).flatMap f' := by
  induction n with
  | zero => rfl
  | succ n ih => rw [List.range_succ, List.flatMap_append, List.flatMap_append, ih (fun k hk => h k (by omega))]; simp [h n (by omega)]
def memb (M : RM) (tb : Nat → Nat) (tj : Nat → List Value) (k : Nat) : List Value := [.int .i64 (M.m k).1, .slice (some ⟨tb k, 0, none⟩) (M.m k).2.length ((M.m k).2.length + (tj k).length)]
def memV (M : RM) (tb : Nat → Nat) (tj : Nat → List Value) : List Value := (List.range M.length).flatMap (memb M tb tj)
def boolsV (l : List Bool) : List Value := l.map Value.bool
/-- what its blocks hold: v its slice of members, tb the blocks of their bits, tj what cells lie behind these -/
structure XR (W : World) (q : Nat) (M : RM) (v : Value) (tb : Nat → Nat) (tj : Nat → List Value) : Prop where
  top : W.heap[q]? = some (.cells #[v] 68 (0, 0))
  row : W.ownsRow 0 71 2 v M.length (memV M tb tj)
  tak : ∀ k, k < M.length → W.heap[tb k]? = some (.cells (boolsV (M.m k).2 ++ tj k).toArray 4 (0, 0))
  inj : ∀ j k, j < M.length → k < M.length → tb j = tb k → j = k
/-- its blocks -/
def InX (M : RM) (q : Nat) (v : Value) (tb : Nat → Nat) (b : Nat) : Prop := b = q ∨ v.ownBlock = some b ∨ ∃ k, k < M.length ∧ b = tb k
section
variable {w w' W W' : World} {q : Nat} {M : RM} {v : Value} {tb : Nat → Nat} {tj : Nat → List Value}
theorem XR.lt (h : XR W q M v tb tj) {b : Nat} (hb : InX M q v tb b) : b < W.heap.size := by
  rcases hb with rfl | hb | ⟨k, hk, rfl⟩
  · exact (Array.getElem?_eq_some_iff.1 h.top).1
  · exact own_lt h.row hb
  · exact (Array.getElem?_eq_some_iff.1 (h.tak k hk)).1
theorem XR.same (h : XR W q M v tb tj) (hs : ∀ b, InX M q v tb b → W'.heap[b]? = W.heap[b]?) : XR W' q M v tb tj :=
  ⟨(hs _ (.inl rfl)).trans h.top, own_same h.row fun g hg => hs g (.inr (.inl hg)), fun k hk => (hs _ (.inr (.inr ⟨k, hk, rfl⟩))).trans (h.tak k hk), h.inj⟩
theorem XR.kept (h : XR W q M v tb tj) (hk : Kept W W') : XR W' q M v tb tj := h.same fun b hb => hk.block_eq (h.lt hb)
theorem XR.c0 (h : XR W q M v tb tj) : W.cell? ⟨q, 0, none⟩ = some v := by
  rw [cell_of_row _ _ 0 _ _ _ (show W.heap[q]? = some (.cells [v].toArray 68 (0, 0)) from h.top)]; rfl
theorem XR.form (h : XR W q M v tb tj) : ∃ ao cap, v = .slice ao M.length cap := own_form h.row
/-- the cells of one member -/
theorem XR.at_ (h : XR W q M v tb tj) {k : Nat} (hk : k < M.length) : ∃ g cap, v = .slice (some ⟨g, 0, none⟩) M.length cap ∧ W.cell? ⟨g, k * 2, none⟩ = some (.int .i64 (M.m k).1) ∧ W.cell? ⟨g, k * 2 + 1, none⟩ = some (.slice (some ⟨tb k, 0, none⟩) (M.m k).2.length ((M.m k).2.length + (tj k).length)) := by
  obtain ⟨g, cap, hv, _, _, hc⟩ := own_cell h.row (by omega)
  refine ⟨g, cap, hv, ?_, ?_⟩
  · refine hc _ _ ?_
    have := flat2_at (memb M tb tj) (fun _ => rfl) (r := 0) (by decide) hk
    simpa [memV, memb] using this
  · refine hc _ _ ?_
    have := flat2_at (memb M tb tj) (fun _ => rfl) (r := 1) (by decide) hk
    simpa [memV, memb] using this
/-- one bit -/
theorem XR.bit (h : XR W q M v tb tj) {k i : Nat} (hk : k < M.length) (hi : i < (M.m k).2.length) : W.cell? ⟨tb k, i, none⟩ = some (.bool ((M.m k).2.getD i false)) := by
  rw [cell_of_row _ _ _ _ _ _ (h.tak k hk), List.getElem?_toArray, List.getElem?_append_left (by simpa [boolsV] using hi)]
  simp [boolsV, List.getD_eq_getElem?_getD, hi]
set_option maxHeartbeats 1000000
set_option maxRecDepth 100000
theorem xr_at (h : XR w q M v tb tj) (hl : M.length ≤ 100000) (d : Int) : Calls Tryd.prog 48 #[.pointer (some ⟨q, 0, none⟩), .int .i64 d] w fun e w' => e = .returned (.int .i64 (M.atV d)) ∧ w = w' := by
  have c0 := h.c0
  obtain ⟨ao, cap, hv⟩ := h.form
  have HV := Lib.hid hv
  rw [hv] at c0
  have H := Lib.hid h
  clear h hv
  go_enter Tryd.func48, Tryd.ntmps48
  go_wp2
  go_loopw [5] (fun i wr => ∃ k : Nat, k ≤ M.length ∧ i = .int .i64 k ∧ Hid (∀ j, j < k → (M.m j).1 ≠ d) ∧ w = wr) (fun i _ => M.length - (intOf i).toNat)
  case atStart => exact ⟨0, Nat.zero_le _, rfl, Lib.hid (fun j h => by omega), rfl⟩
  case round =>
    obtain ⟨k, hk, rfl, HN, rfl⟩ := hrel
    by_cases hlt : k < M.length
    · obtain ⟨g, cap', hv', c1, _⟩ := H.out.at_ hlt
      rw [HV.out] at hv'
      injection hv' with ha _ hcap
      subst ha
      clear hcap
      by_cases hd : (M.m k).1 = d
      · have he : M.atV d = (k : Int) := RM.atV_some (RM.at_of hlt hd HN.out) hlt
        have HE := Lib.hid he
        rw [hd] at c1
        clear hd he
        go_wp2
        go_ret
        exact ⟨by rw [HE.out]; rfl, rfl⟩
      · have hb : ((M.m k).1 == d) = false := by simpa using hd
        have HN2 : Hid (∀ j, j < k + 1 → (M.m j).1 ≠ d) := Lib.hid fun j hj => by
          by_cases e : j = k
          · rw [e]; exact hd
          · exact HN.out j (by omega)
        generalize (M.m k).1 = x at *
        clear hd HN
        go_wp2
        go_roundw
        case rel => exact ⟨k + 1, hlt, by go_num, HN2, trivial⟩
        case measure => simp [intOf]; omega
    · have he : M.atV d = -1 := RM.atV_none (by rw [RM.at_none (fun j hj => HN.out j (by omega))]; omega)
      have HE := Lib.hid he
      have hkk : k = M.length := by omega
      clear he HN
      go_wp2
      go_ret
      exact ⟨by rw [HE.out]; rfl, rfl⟩
end
theorem xr_New (w : World) : Calls Tryd.prog 16 #[] w fun e w' => e = .returned (.pointer (some ⟨w.heap.size, 0, none⟩)) ∧ XR w' w.heap.size [] (.slice none 0 0) (fun _ => 0) (fun _ => []) ∧ Kept w w' := by
  have hk := (Kept.refl w).alloc (Obj.cells #[.slice none 0 0] 68)
  have hb := heap_alloc_new w (Obj.cells #[.slice none 0 0] 68)
  have HK := Lib.hid hk
  have HX : Hid (XR (w.alloc (Obj.cells #[.slice none 0 0] 68)) w.heap.size [] (.slice none 0 0) (fun _ => 0) (fun _ => [])) := Lib.hid ⟨hb, ⟨rfl, .inl ⟨rfl, rfl⟩⟩, (fun k hk => by cases hk), (fun j k hj => by cases hj)⟩
  clear hk hb
  go_enter Tryd.func16, Tryd.ntmps16
  go_wp2
  go_ret
  exact ⟨rfl, HX.out, HK.out⟩
end Go.Proofs.YtglplhmclfekfaaDoor
/- ref06: Used, Room, Has. -/
namespace Go.Proofs.YtglplhmclfekfaaDoor
open Go.RowKit
set_option linter.unusedVariables false
set_option linter.unusedSimpArgs false

/-- members that are not too many, each not too large -/
structure RM.Ok (M : RM) : Prop where
  len : M.length ≤ 100000
  bits : ∀ k, (M.m k).2.length ≤ 600
theorem cntS_succ (n : Nat) (s : Nat → Bool) : cntS (n + 1) s = cntS n s + (if s n then 1 else 0) := by
  unfold cntS
  rw [List.range_succ, List.filter_append, List.length_append]
  cases h : s n <;> simp [h]
theorem cntS_le (n : Nat) (s : Nat → Bool) : cntS n s ≤ n := by
  unfold cntS
  exact Nat.le_trans (List.length_filter_le _ _) (by simp)
theorem usedX_some {M : RM} {d : Int} (h : M.at_ d < M.length) : usedX M.xt d = cntS (M.m (M.at_ d)).2.length (fun i => (M.m (M.at_ d)).2.getD i false) := by
  unfold usedX; rw [RM.xt_some h]
theorem usedX_none {M : RM} {d : Int} (h : ¬ M.at_ d < M.length) : usedX M.xt d = 0 := by
  unfold usedX; rw [RM.xt_none h]
section
variable {w w' W W' : World} {q : Nat} {M : RM} {v : Value} {tb : Nat → Nat} {tj : Nat → List Value}
set_option maxHeartbeats 1000000
set_option maxRecDepth 100000
theorem xr_Used (h : XR w q M v tb tj) (hok : M.Ok) (d : Int) : Calls Tryd.prog 41 #[.pointer (some ⟨q, 0, none⟩), .int .i64 d] w fun e w' => e = .returned (.int .i64 (usedX M.xt d : Int)) ∧ w = w' := by
  have c0 := h.c0
  obtain ⟨ao, cap, hv⟩ := h.form
  have HV := Lib.hid hv
  rw [hv] at c0
  have H := Lib.hid h
  have HA := Lib.hid (xr_at h hok.len d)
  have HOK := Lib.hid hok
  clear h hv hok
  by_cases hlt : M.at_ d < M.length
  · obtain ⟨g, cap', hv', _, c1⟩ := H.out.at_ hlt
    rw [HV.out] at hv'
    injection hv' with ha _ hcap
    subst ha
    clear hcap
    have hbit := fun i (hi : i < (M.m (M.at_ d)).2.length) => H.out.bit hlt hi
    have hn := HOK.out.bits (M.at_ d)
    have HE := Lib.hid (usedX_some hlt)
    rw [RM.atV_some rfl hlt] at HA
    generalize M.at_ d = k at *
    obtain ⟨s, hs⟩ : ∃ s, s = fun i => (M.m k).2.getD i false := ⟨_, rfl⟩
    rw [← hs] at HE
    have hbit' : ∀ i, i < (M.m k).2.length → w.cell? ⟨tb k, i, none⟩ = some (.bool (s i)) := fun i hi => by rw [hbit i hi, hs]
    generalize (M.m k).2.length = n at *
    have HB := Lib.hid hbit'
    generalize (tj k).length = xc at *
    clear hbit hbit' hs
    go_enter Tryd.func41, Tryd.ntmps41
    go_wp2_with fail
    refine Calls.mono HA.out ?_
    rintro e w1 ⟨rfl, rfl⟩
    clear HA
    go_wp2
    go_loopw [6, 7] (fun c i wr => ∃ j : Nat, j ≤ n ∧ i = .int .i64 j ∧ c = .int .i64 (cntS j s : Int) ∧ w = wr) (fun _ i _ => n - (intOf i).toNat)
    case atStart => exact ⟨0, Nat.zero_le _, rfl, rfl, rfl⟩
    case round =>
      obtain ⟨j, hj, rfl, rfl, rfl⟩ := hrel
      by_cases hjn : j < n
      · have c2 := HB.out j hjn
        have hcs := cntS_succ j s
        have hcl := cntS_le j s
        obtain ⟨c, hc⟩ : ∃ c, c = cntS j s := ⟨_, rfl⟩
        rw [← hc] at hcs hcl ⊢
        cases hsj : s j with
        | true =>
          rw [hsj] at c2 hcs
          have HCS : Hid (cntS (j + 1) s = c + 1) := Lib.hid hcs
          clear hcs hc hsj
          go_wp2
          go_roundw
          case rel => exact ⟨j + 1, hjn, by go_num, by rw [HCS.out]; go_num, trivial⟩
          case measure => simp [intOf]; omega
        | false =>
          rw [hsj] at c2 hcs
          have HCS : Hid (cntS (j + 1) s = c) := Lib.hid hcs
          clear hcs hc hsj
          go_wp2
          go_roundw
          case rel => exact ⟨j + 1, hjn, by go_num, by rw [HCS.out], trivial⟩
          case measure => simp [intOf]; omega
      · have hjj : j = n := by omega
        subst hjj
        go_wp2
        go_ret
        exact ⟨by rw [HE.out]; rfl, rfl⟩
  · have HE := Lib.hid (usedX_none hlt)
    rw [RM.atV_none hlt] at HA
    clear hlt
    go_enter Tryd.func41, Tryd.ntmps41
    go_wp2_with fail
    refine Calls.mono HA.out ?_
    rintro e w1 ⟨rfl, rfl⟩
    clear HA
    go_wp2
    go_loopw [6, 7] (fun c i wr => i = .int .i64 0 ∧ c = .int .i64 0 ∧ w = wr) (fun _ i _ => 0)
    case atStart => exact ⟨rfl, rfl, rfl⟩
    case round =>
      obtain ⟨rfl, rfl, rfl⟩ := hrel
      go_wp2
      go_ret
      exact ⟨by rw [HE.out]; rfl, rfl⟩
end
end Go.Proofs.YtglplhmclfekfaaDoor
/- ref06: Room, Has. -/
namespace Go.Proofs.YtglplhmclfekfaaDoor
open Go.RowKit
set_option linter.unusedVariables false
set_option linter.unusedSimpArgs false

theorem roomX_some {M : RM} {d : Int} (h : M.at_ d < M.length) : (roomX M.xt d : Int) = ((M.m (M.at_ d)).2.length : Int) - (usedX M.xt d : Int) := by
  have hle := cntS_le (M.m (M.at_ d)).2.length (fun i => (M.m (M.at_ d)).2.getD i false)
  rw [usedX_some h]
  unfold roomX; rw [RM.xt_some h]
  show ((_ - _ : Nat) : Int) = _
  omega
theorem roomX_none {M : RM} {d : Int} (h : ¬ M.at_ d < M.length) : roomX M.xt d = 0 := by
  unfold roomX; rw [RM.xt_none h]
theorem has_found {M : RM} {d : Int} (h : M.at_ d < M.length) {j : Nat} (hj : j < (M.m (M.at_ d)).2.length) : (hasX M.xt d (114 + (j : Int) * 8) == 0) = (M.m (M.at_ d)).2.getD j false := by
  unfold hasX
  rw [RM.xt_some h, idx_place]
  simp only [Int.toNat_natCast, if_pos hj]
  by_cases hb : (M.m (M.at_ d)).2.getD j false = true
  · rw [if_pos hb, hb]; rfl
  · rw [if_neg hb]; simp only [Bool.not_eq_true] at hb; rw [hb]; rfl
theorem idx_not {a : Int} {i : Int} (h : idxE a = some i) : 0 ≤ i ∧ a = 114 + i * 8 := by
  unfold idxE at h
  split at h
  · cases h
  · split at h
    · injection h with h; omega
    · cases h
theorem has_not {M : RM} {d a : Int} (h : M.at_ d < M.length) (hn : ∀ j : Nat, j < (M.m (M.at_ d)).2.length → 114 + (j : Int) * 8 ≠ a) : (hasX M.xt d a == 0) = false := by
  unfold hasX
  rw [RM.xt_some h]
  cases hx : idxE a with
  | none => rfl
  | some i =>
    obtain ⟨h0, h1⟩ := idx_not hx
    simp only
    rw [if_neg (fun hi => hn i.toNat hi (by omega))]
    rfl
theorem has_none {M : RM} {d a : Int} (h : ¬ M.at_ d < M.length) : (hasX M.xt d a == 0) = false := by
  unfold hasX; rw [RM.xt_none h]; rfl
section
variable {w w' W W' : World} {q : Nat} {M : RM} {v : Value} {tb : Nat → Nat} {tj : Nat → List Value}
set_option maxHeartbeats 1000000
set_option maxRecDepth 100000
theorem xr_Room (h : XR w q M v tb tj) (hok : M.Ok) (d : Int) : Calls Tryd.prog 42 #[.pointer (some ⟨q, 0, none⟩), .int .i64 d] w fun e w' => e = .returned (.int .i64 (roomX M.xt d : Int)) ∧ Kept w w' := by
  have c0 := h.c0
  obtain ⟨ao, cap, hv⟩ := h.form
  have HV := Lib.hid hv
  rw [hv] at c0
  have H := Lib.hid h
  have HA := Lib.hid (xr_at h hok.len d)
  have HOK := Lib.hid hok
  clear h hv hok
  by_cases hlt : M.at_ d < M.length
  · obtain ⟨g, cap', hv', _, c1⟩ := H.out.at_ hlt
    rw [HV.out] at hv'
    injection hv' with ha _ hcap
    subst ha
    clear hcap
    have hn := HOK.out.bits (M.at_ d)
    have HE := Lib.hid (roomX_some hlt)
    have hu : usedX M.xt d ≤ (M.m (M.at_ d)).2.length := by rw [usedX_some hlt]; exact cntS_le _ _
    have HU := Lib.hid (fun (W : World) (hk : Kept w W) => (xr_Used (H.out.kept hk) HOK.out d).mono (R' := fun e w' => e = .returned (.int .i64 (usedX M.xt d : Int)) ∧ w' = W) fun e w' ⟨h1, h2⟩ => ⟨h1, h2.symm⟩)
    rw [RM.atV_some rfl hlt] at HA
    generalize usedX M.xt d = u at *
    generalize M.at_ d = k at *
    generalize (M.m k).2.length = n at *
    generalize (tj k).length = xc at *
    go_enter Tryd.func42, Tryd.ntmps42
    go_wp2_with fail
    refine Calls.mono HA.out ?_
    rintro e w1 ⟨rfl, rfl⟩
    clear HA
    go_upto_region 4 with fail
    go_quiet (first | (go_at_call 41; refine Calls.quiet_of_same (HU.out _ ((Kept.refl _).drewN _))))
    go_wp2
    go_ret
    exact ⟨by rw [HE.out]; rfl, (Kept.refl _).drewN _⟩
  · have HE := Lib.hid (roomX_none hlt)
    rw [RM.atV_none hlt] at HA
    clear hlt
    go_enter Tryd.func42, Tryd.ntmps42
    go_wp2_with fail
    refine Calls.mono HA.out ?_
    rintro e w1 ⟨rfl, rfl⟩
    clear HA
    go_wp2
    go_ret
    exact ⟨by rw [HE.out]; rfl, Kept.refl _⟩
theorem xr_Has (h : XR w q M v tb tj) (hok : M.Ok) (d a : Int) : Calls Tryd.prog 38 #[.pointer (some ⟨q, 0, none⟩), .agg #[.int .i64 d, .int .i64 a]] w fun e w' => e = .returned (.bool (hasX M.xt d a == 0)) ∧ Kept w w' := by
  obtain ⟨ao, cap, hv⟩ := h.form
  have HV := Lib.hid hv
  have hk1 := (Kept.refl w).alloc (Obj.cells #[.int .i64 d, .int .i64 a] 33)
  have hb1 := heap_alloc_new w (Obj.cells #[.int .i64 d, .int .i64 a] 33)
  have p0 := cell_of_row _ _ 0 _ _ _ hb1
  have p1 := cell_of_row _ _ 1 _ _ _ hb1
  have h1 := h.kept hk1
  have c0 := h1.c0
  rw [hv] at c0
  have H := Lib.hid h1
  have HA := Lib.hid (xr_at h1 hok.len d)
  have HOK := Lib.hid hok
  have HK1 := Lib.hid hk1
  clear h hv hok hk1 hb1 h1
  have HPL := Lib.hid (fun (W : World) (i : Nat) (hi : i ≤ 600) => (ref_Place (i : Int) (by omega) (by omega) W).mono (R' := fun e w' => e = .returned (.int .i64 (114 + (i : Int) * 8)) ∧ w' = W) fun e w' ⟨h1, h2⟩ => ⟨h1, h2.symm⟩)
  by_cases hlt : M.at_ d < M.length
  · obtain ⟨g, cap', hv', _, c1⟩ := H.out.at_ hlt
    rw [HV.out] at hv'
    injection hv' with ha _ hcap
    subst ha
    clear hcap
    have hbit := fun i (hi : i < (M.m (M.at_ d)).2.length) => H.out.bit hlt hi
    have hn := HOK.out.bits (M.at_ d)
    have HF := Lib.hid (fun j hj => has_found (M := M) (d := d) hlt (j := j) hj)
    have HN := Lib.hid (fun hn => has_not (M := M) (d := d) (a := a) hlt hn)
    rw [RM.atV_some rfl hlt] at HA
    generalize M.at_ d = k at *
    obtain ⟨s, hs⟩ : ∃ s, s = fun i => (M.m k).2.getD i false := ⟨_, rfl⟩
    have hbit' : ∀ i, i < (M.m k).2.length → (w.alloc (Obj.cells #[.int .i64 d, .int .i64 a] 33)).cell? ⟨tb k, i, none⟩ = some (.bool (s i)) := fun i hi => by rw [hbit i hi, hs]
    have HF' : Hid (∀ j, j < (M.m k).2.length → (hasX M.xt d (114 + (j : Int) * 8) == 0) = s j) := Lib.hid (fun j hj => by rw [HF.out j hj, hs])
    generalize (M.m k).2.length = n at *
    have HB := Lib.hid hbit'
    generalize (tj k).length = xc at *
    clear hbit hbit' hs HF
    go_enter Tryd.func38, Tryd.ntmps38
    go_wp2_with fail
    refine Calls.mono HA.out ?_
    rintro e w1 ⟨rfl, rfl⟩
    obtain ⟨B, hB⟩ : ∃ B, B = w.heap.size := ⟨_, rfl⟩
    rw [← hB] at p0 p1 ⊢
    clear HA hB
    generalize hw1 : w.alloc (Obj.cells #[.int .i64 d, .int .i64 a] 33) = w1 at *
    clear hw1
    go_wp2
    go_loopw [6] (fun i wr => ∃ j : Nat, j ≤ n ∧ i = .int .i64 j ∧ Hid (∀ i : Nat, i < j → 114 + (i : Int) * 8 ≠ a) ∧ Hid (Kept w1 wr)) (fun i _ => n - (intOf i).toNat)
    case atStart => exact ⟨0, Nat.zero_le _, rfl, Lib.hid (fun i hi => by omega), Lib.hid (Kept.refl _)⟩
    case round =>
      obtain ⟨j, hj, rfl, HNE, HKR⟩ := hrel
      have c0r := HKR.out.cell' c0
      have c1r := HKR.out.cell' c1
      have p1r := HKR.out.cell' p1
      by_cases hjn : j < n
      · go_upto_region 7 with fail
        go_quiet (first | (go_at_call 51; refine Calls.quiet_of_same (HPL.out _ j (by omega))))
        have HKD := Lib.hid (HKR.out.drewN 1)
        by_cases ha : 114 + (j : Int) * 8 = a
        · have c2 := HKR.out.cell' (HB.out j hjn)
          have HE := Lib.hid (HF'.out j hjn)
          rw [ha] at HE
          subst ha
          go_wp2
          go_ret
          exact ⟨by rw [HE.out]; rfl, HK1.out.trans (HKR.out.drewN _)⟩
        · have hab : (114 + (j : Int) * 8 == a) = false := by simpa using ha
          have HNE2 : Hid (∀ i : Nat, i < j + 1 → 114 + (i : Int) * 8 ≠ a) := Lib.hid fun i hi => by
            by_cases e : i = j
            · rw [e]; exact ha
            · exact HNE.out i (by omega)
          go_wp2
          go_roundw
          case rel => exact ⟨j + 1, hjn, by go_num, HNE2, Lib.hid (HKR.out.drewN _)⟩
          case measure => simp [intOf]; omega
      · have hjj : j = n := by omega
        have HE := Lib.hid (HN.out (fun i hi => HNE.out i (by omega)))
        clear HNE
        go_wp2
        go_ret
        exact ⟨by rw [HE.out]; rfl, HK1.out.trans HKR.out⟩
  · have HE := Lib.hid (has_none (a := a) hlt)
    rw [RM.atV_none hlt] at HA
    clear hlt
    go_enter Tryd.func38, Tryd.ntmps38
    go_wp2_with fail
    refine Calls.mono HA.out ?_
    rintro e w1 ⟨rfl, rfl⟩
    clear HA
    go_wp2
    go_ret
    exact ⟨by rw [HE.out]; rfl, HK1.out⟩
end
end Go.Proofs.YtglplhmclfekfaaDoor
/- ref06: set, TakeAt, Free. -/
namespace Go.Proofs.YtglplhmclfekfaaDoor
open Go.RowKit
set_option linter.unusedVariables false
set_option linter.unusedSimpArgs false

theorem size_boolX : (Tryd.prog.info? 4).map (·.size) = some 1 := by kernel_rfl
/-- the same members, of the same sizes -/
structure RM.Like (M M' : RM) : Prop where
  len : M'.length = M.length
  num : ∀ j, (M'.m j).1 = (M.m j).1
  siz : ∀ j, (M'.m j).2.length = (M.m j).2.length
theorem RM.Like.refl (M : RM) : RM.Like M M := ⟨rfl, fun _ => rfl, fun _ => rfl⟩
theorem RM.like_put {M : RM} {k : Nat} (hk : k < M.length) (i : Nat) (b : Bool) : RM.Like M (M.put k i b) :=
  ⟨RM.put_len k i b, fun j => by rw [RM.put_m hk]; split; (rename_i e; rw [e]); rfl, fun j => by rw [RM.put_m hk]; split; (rename_i e; simp [e]); rfl⟩
theorem RM.Ok.like {M M' : RM} (h : M.Ok) (hl : RM.Like M M') : RM.Ok M' := ⟨by rw [hl.len]; exact h.len, fun k => by rw [hl.siz]; exact h.bits k⟩
theorem memV_like {M M' : RM} (h : RM.Like M M') (tb : Nat → Nat) (tj : Nat → List Value) : memV M' tb tj = memV M tb tj := by
  unfold memV
  rw [h.len]
  exact flat2_congr fun k _ => by unfold memb; rw [h.num, h.siz]
theorem InX_like {M M' : RM} (h : RM.Like M M') {q : Nat} {v : Value} {tb : Nat → Nat} (b : Nat) : InX M' q v tb b ↔ InX M q v tb b := by unfold InX; rw [h.len]
section
variable {w w' W W' : World} {q : Nat} {M : RM} {v : Value} {tb : Nat → Nat} {tj : Nat → List Value}
theorem XR.put (h : XR W q M v tb tj) {k i : Nat} (hk : k < M.length) (hi : i < (M.m k).2.length) (b : Bool) (hw : Wrote W W' (tb k) ((boolsV (M.m k).2 ++ tj k).set i (.bool b)) 4) : XR W' q (M.put k i b) v tb tj := by
  have hne : ∀ x cs t, W.heap[x]? = some (.cells cs t (0, 0)) → t ≠ 4 → x ≠ tb k := fun x cs t hx ht e => by
    rw [e, h.tak k hk] at hx
    injection hx with hx
    injection hx with _ h2
    exact ht h2.symm
  have hl := RM.like_put hk i b
  refine ⟨(hw.oth _ (hne _ _ _ h.top (by decide))).trans h.top, ?_, fun j hj => ?_, fun a c ha hc => h.inj a c (by rw [hl.len] at ha; exact ha) (by rw [hl.len] at hc; exact hc)⟩
  · rw [hl.len, memV_like hl]
    refine own_same h.row fun g hg => hw.oth _ ?_
    obtain ⟨g', cap, _, hg', ⟨cur, hc⟩, _⟩ := own_cell h.row (by omega)
    rw [hg] at hg'
    injection hg' with hg'
    rw [hg']
    exact hne _ _ _ hc (by decide)
  · rw [hl.len] at hj
    rw [RM.put_m hk]
    by_cases e : j = k
    · subst e
      rw [if_pos rfl, hw.blk]
      have e2 : (boolsV (M.m j).2 ++ tj j).set i (.bool b) = boolsV ((M.m j).2.set i b) ++ tj j := by
        rw [List.set_append, if_pos (by simpa [boolsV] using hi)]
        simp [boolsV, List.map_set]
      rw [e2]
    · rw [if_neg e]
      exact (hw.oth _ (fun h' => e (h.inj j k hj hk h'))).trans (h.tak j hj)
theorem chg_none {d a : Int} {b : Bool} (h : ¬ M.at_ d < M.length) : chgX b M.xt d a = (8, M.xt) := by unfold chgX; rw [RM.xt_none h]
theorem chg_same {d : Int} {b : Bool} (h : M.at_ d < M.length) {j : Nat} (hj : j < (M.m (M.at_ d)).2.length) (hb : (M.m (M.at_ d)).2.getD j false = b) : chgX b M.xt d (114 + (j : Int) * 8) = (9, M.xt) := by
  unfold chgX
  rw [RM.xt_some h, idx_place]
  simp only [Int.toNat_natCast]
  rw [if_pos hj, if_pos hb]
theorem chg_turn {d : Int} {b : Bool} (h : M.at_ d < M.length) {j : Nat} (hj : j < (M.m (M.at_ d)).2.length) (hb : (M.m (M.at_ d)).2.getD j false ≠ b) : chgX b M.xt d (114 + (j : Int) * 8) = (0, (M.put (M.at_ d) j b).xt) := by
  rw [RM.xt_put rfl h hj]
  unfold chgX
  rw [RM.xt_some h, idx_place]
  simp only [Int.toNat_natCast]
  rw [if_pos hj, if_neg hb]
theorem chg_not {d a : Int} {b : Bool} (h : M.at_ d < M.length) (hn : ∀ j : Nat, j < (M.m (M.at_ d)).2.length → 114 + (j : Int) * 8 ≠ a) : chgX b M.xt d a = (1, M.xt) := by
  unfold chgX
  rw [RM.xt_some h]
  cases hx : idxE a with
  | none => rfl
  | some i =>
    obtain ⟨h0, h1⟩ := idx_not hx
    simp only
    rw [if_neg (fun hi => hn i.toNat hi (by omega))]
set_option maxHeartbeats 1000000
set_option maxRecDepth 100000
theorem xr_set (h : XR w q M v tb tj) (hok : M.Ok) (d a : Int) (b : Bool) : Calls Tryd.prog 50 #[.pointer (some ⟨q, 0, none⟩), .agg #[.int .i64 d, .int .i64 a], .bool b] w fun e w' => ∃ M', e = .returned (.int .i64 (chgX b M.xt d a).1) ∧ XR w' q M' v tb tj ∧ M'.xt = (chgX b M.xt d a).2 ∧ RM.Like M M' ∧ But (InX M q v tb) w w' := by
  obtain ⟨ao, cap, hv⟩ := h.form
  have HV := Lib.hid hv
  have hk1 := (Kept.refl w).alloc (Obj.cells #[.int .i64 d, .int .i64 a] 33)
  have hb1 := heap_alloc_new w (Obj.cells #[.int .i64 d, .int .i64 a] 33)
  have p0 := cell_of_row _ _ 0 _ _ _ hb1
  have p1 := cell_of_row _ _ 1 _ _ _ hb1
  have h1 := h.kept hk1
  have c0 := h1.c0
  rw [hv] at c0
  have H := Lib.hid h1
  have HA := Lib.hid (xr_at h1 hok.len d)
  have HOK := Lib.hid hok
  have HK1 := Lib.hid (But.kept (S := InX M q v tb) hk1)
  clear h hv hok hk1 hb1 h1
  have HPL := Lib.hid (fun (W : World) (i : Nat) (hi : i ≤ 600) => (ref_Place (i : Int) (by omega) (by omega) W).mono (R' := fun e w' => e = .returned (.int .i64 (114 + (i : Int) * 8)) ∧ w' = W) fun e w' ⟨h1, h2⟩ => ⟨h1, h2.symm⟩)
  by_cases hlt : M.at_ d < M.length
  · obtain ⟨g, cap', hv', _, c1⟩ := H.out.at_ hlt
    rw [HV.out] at hv'
    injection hv' with ha _ hcap
    subst ha
    clear hcap
    have hbit := fun i (hi : i < (M.m (M.at_ d)).2.length) => H.out.bit hlt hi
    have hn := HOK.out.bits (M.at_ d)
    have HF := Lib.hid (fun j hj hb => chg_same (M := M) (d := d) (b := b) hlt (j := j) hj hb)
    have HT := Lib.hid (fun j hj hb => chg_turn (M := M) (d := d) (b := b) hlt (j := j) hj hb)
    have HN := Lib.hid (fun hn => chg_not (M := M) (d := d) (a := a) (b := b) hlt hn)
    have HLK := Lib.hid (fun j => RM.like_put hlt j b)
    have HIN : Hid (InX M q v tb (tb (M.at_ d))) := Lib.hid (.inr (.inr ⟨_, hlt, rfl⟩))
    rw [RM.atV_some rfl hlt] at HA
    generalize M.at_ d = k at *
    have HKL := Lib.hid hlt
    have HL : Hid ((boolsV (M.m k).2 ++ tj k).length = (M.m k).2.length + (tj k).length) := Lib.hid (by simp [boolsV])
    have HBB := Lib.hid hbit
    obtain ⟨n, hnl⟩ : ∃ n, n = (M.m k).2.length := ⟨_, rfl⟩
    rw [← hnl] at c1 hn
    have HNL := Lib.hid hnl
    clear hbit hnl hlt
    go_enter Tryd.func50, Tryd.ntmps50
    go_wp2_with fail
    refine Calls.mono HA.out ?_
    rintro e w1 ⟨rfl, rfl⟩
    obtain ⟨B, hB⟩ : ∃ B, B = w.heap.size := ⟨_, rfl⟩
    rw [← hB] at p0 p1 ⊢
    clear HA hB
    generalize hw1 : w.alloc (Obj.cells #[.int .i64 d, .int .i64 a] 33) = w1 at *
    clear hw1
    go_wp2
    go_loopw [8] (fun i wr => ∃ j : Nat, j ≤ n ∧ i = .int .i64 j ∧ Hid (∀ i : Nat, i < j → 114 + (i : Int) * 8 ≠ a) ∧ Hid (Kept w1 wr)) (fun i _ => n - (intOf i).toNat)
    case atStart => exact ⟨0, Nat.zero_le _, rfl, Lib.hid (fun i hi => by omega), Lib.hid (Kept.refl _)⟩
    case round =>
      obtain ⟨j, hj, rfl, HNE, HKR⟩ := hrel
      have c0r := HKR.out.cell' c0
      have c1r := HKR.out.cell' c1
      have p1r := HKR.out.cell' p1
      by_cases hjn : j < n
      · go_upto_region 7 with fail
        go_quiet (first | (go_at_call 51; refine Calls.quiet_of_same (HPL.out _ j (by omega))))
        by_cases ha : 114 + (j : Int) * 8 = a
        · have hjm : j < (M.m k).2.length := by rw [← HNL.out]; exact hjn
          have c2 := HKR.out.cell' (HBB.out j hjm)
          have hcs : ∀ x y : Bool, (x == y) = true ∨ (x == y) = false := by decide
          obtain ⟨sj, hsj⟩ : ∃ sj, sj = (M.m k).2.getD j false := ⟨_, rfl⟩
          rw [← hsj] at c2
          have HSJ := Lib.hid hsj
          clear hsj
          rcases hcs sj b with hb | hb
          · have HE := Lib.hid (HF.out j hjm (by rw [← HSJ.out]; simpa using hb))
            rw [ha] at HE
            subst ha
            have HEND : Hid (XR (wr.drewN 1) q M v tb tj ∧ But (InX M q v tb) w (wr.drewN 1)) := Lib.hid ⟨H.out.kept (HKR.out.drewN _), HK1.out.trans (But.kept (HKR.out.drewN _))⟩
            go_wp2
            go_ret
            exact ⟨M, by rw [HE.out]; rfl, H.out.kept (HKR.out.drewN _), by rw [HE.out], RM.Like.refl M, HK1.out.trans (But.kept (HKR.out.drewN _))⟩
          · have HE := Lib.hid (HT.out j hjm (by rw [← HSJ.out]; simpa using hb))
            rw [ha] at HE
            subst ha
            go_wp2_with (refine stop_at (o := ⟨none, .store _ _ _, _, _, _, _⟩) ?_)
            refine Stop.mk ?_
            refine wpList_set_cell rfl _ _ rfl size_boolX (tb k) j rfl (.bool b) rfl rfl rfl _ _ ((HKR.out.drewN _).block (H.out.tak k HKL.out)) (by rw [HL.out]; omega) ?_
            intro w7 hw7
            have HX7 := Lib.hid ((H.out.kept (HKR.out.drewN _)).put HKL.out hjm b hw7)
            have HU7 := Lib.hid ((HK1.out.trans (But.kept (HKR.out.drewN _))).trans (But.wrote (S := InX M q v tb) hw7 HIN.out))
            clear hw7
            go_wp2
            go_ret
            exact ⟨_, by rw [HE.out]; rfl, HX7.out, by rw [HE.out], HLK.out j, HU7.out⟩
        · have hab : (114 + (j : Int) * 8 == a) = false := by simpa using ha
          have HNE2 : Hid (∀ i : Nat, i < j + 1 → 114 + (i : Int) * 8 ≠ a) := Lib.hid fun i hi => by
            by_cases e : i = j
            · rw [e]; exact ha
            · exact HNE.out i (by omega)
          go_wp2
          go_roundw
          case rel => exact ⟨j + 1, hjn, by go_num, HNE2, Lib.hid (HKR.out.drewN _)⟩
          case measure => simp [intOf]; omega
      · have hjj : j = n := by omega
        have HE := Lib.hid (HN.out (fun i hi => HNE.out i (by have := HNL.out; omega)))
        clear HNE
        go_wp2
        go_ret
        exact ⟨M, by rw [HE.out]; rfl, H.out.kept HKR.out, by rw [HE.out], RM.Like.refl M, HK1.out.trans (But.kept HKR.out)⟩
  · have HE := Lib.hid (chg_none (a := a) (b := b) hlt)
    rw [RM.atV_none hlt] at HA
    clear hlt
    go_enter Tryd.func50, Tryd.ntmps50
    go_wp2_with fail
    refine Calls.mono HA.out ?_
    rintro e w1 ⟨rfl, rfl⟩
    clear HA
    go_wp2
    go_ret
    exact ⟨M, by rw [HE.out]; rfl, H.out, by rw [HE.out], RM.Like.refl M, HK1.out⟩
theorem xr_TakeAt (h : XR w q M v tb tj) (hok : M.Ok) (d a : Int) : Calls Tryd.prog 36 #[.pointer (some ⟨q, 0, none⟩), .agg #[.int .i64 d, .int .i64 a]] w fun e w' => ∃ M', e = .returned (.int .i64 (chgX true M.xt d a).1) ∧ XR w' q M' v tb tj ∧ M'.xt = (chgX true M.xt d a).2 ∧ RM.Like M M' ∧ But (InX M q v tb) w w' := by
  have hk := (Kept.refl w).alloc (Obj.cells #[.int .i64 d, .int .i64 a] 33)
  have HK := Lib.hid (But.kept (S := InX M q v tb) hk)
  have HS := Lib.hid (xr_set (h.kept hk) hok d a true)
  clear h hok hk
  go_enter Tryd.func36, Tryd.ntmps36
  go_wp2_with fail
  refine Calls.mono HS.out ?_
  rintro e w1 ⟨M', rfl, h1, h2, h3, h4⟩
  have H1 := Lib.hid (And.intro h1 (And.intro h2 (And.intro h3 (HK.out.trans h4))))
  clear h1 h2 h3 h4 HS
  go_wp2
  go_ret
  exact ⟨M', rfl, H1.out⟩
theorem xr_Free (h : XR w q M v tb tj) (hok : M.Ok) (d a : Int) : Calls Tryd.prog 37 #[.pointer (some ⟨q, 0, none⟩), .agg #[.int .i64 d, .int .i64 a]] w fun e w' => ∃ M', e = .returned (.int .i64 (chgX false M.xt d a).1) ∧ XR w' q M' v tb tj ∧ M'.xt = (chgX false M.xt d a).2 ∧ RM.Like M M' ∧ But (InX M q v tb) w w' := by
  have hk := (Kept.refl w).alloc (Obj.cells #[.int .i64 d, .int .i64 a] 33)
  have HK := Lib.hid (But.kept (S := InX M q v tb) hk)
  have HS := Lib.hid (xr_set (h.kept hk) hok d a false)
  clear h hok hk
  go_enter Tryd.func37, Tryd.ntmps37
  go_wp2_with fail
  refine Calls.mono HS.out ?_
  rintro e w1 ⟨M', rfl, h1, h2, h3, h4⟩
  have H1 := Lib.hid (And.intro h1 (And.intro h2 (And.intro h3 (HK.out.trans h4))))
  clear h1 h2 h3 h4 HS
  go_wp2
  go_ret
  exact ⟨M', rfl, H1.out⟩
end
end Go.Proofs.YtglplhmclfekfaaDoor
/- ref06: Take. -/
namespace Go.Proofs.YtglplhmclfekfaaDoor
open Go.RowKit
set_option linter.unusedVariables false
set_option linter.unusedSimpArgs false

section
variable {w w' W W' : World} {q : Nat} {M : RM} {v : Value} {tb : Nat → Nat} {tj : Nat → List Value}
theorem XR.wrote_new (h : XR W q M v tb tj) {B : Nat} {cs : List Value} {t : TypeId} (hw : Wrote W W' B cs t) (hB : ¬ InX M q v tb B) : XR W' q M v tb tj := h.same fun b hb => hw.oth _ (fun e => hB (e ▸ hb))
set_option maxHeartbeats 1000000
set_option maxRecDepth 100000
theorem xr_Take (h : XR w q M v tb tj) (hok : M.Ok) (d : Int) : Calls Tryd.prog 39 #[.pointer (some ⟨q, 0, none⟩), .int .i64 d] w fun e w' => ∃ x M', e = .returned x ∧ TakeR M.xt d x M'.xt ∧ XR w' q M' v tb tj ∧ RM.Like M M' ∧ But (InX M q v tb) w w' := by
  have HNI := Lib.hid (show ¬ InX M q v tb w.heap.size from fun hi => by have := h.lt hi; omega)
  obtain ⟨ao, cap, hv⟩ := h.form
  have HV := Lib.hid hv
  have H := Lib.hid h
  have HA := Lib.hid (fun (W : World) (hk : Kept w W) => xr_at (h.kept hk) hok.len d)
  have HOK := Lib.hid hok
  clear h hv hok
  by_cases hlt : M.at_ d < M.length
  · have hn := HOK.out.bits (M.at_ d)
    have HE := Lib.hid (RM.xt_some hlt)
    have HSE := Lib.hid (fun i (hi : i < (M.m (M.at_ d)).2.length) b => RM.xt_put (M := M) (d := d) rfl hlt hi b)
    have HLK := Lib.hid (fun j => RM.like_put hlt j true)
    have HIN : Hid (InX M q v tb (tb (M.at_ d))) := Lib.hid (.inr (.inr ⟨_, hlt, rfl⟩))
    simp only [RM.atV_some rfl hlt] at HA
    generalize M.at_ d = k at *
    have HKL := Lib.hid hlt
    clear hlt
    go_enter Tryd.func39, Tryd.ntmps39
    go_wp2_with (refine stop_at (o := ⟨some 4, _, _, _, _, _⟩) ?_)
    refine Stop.mk ?_
    refine wpList_alloc_abs rfl 33 rfl [Value.int .i64 0, .int .i64 0] zero_ext ?_
    intro w1 hz1 hl1 hs1 hk1
    have h1 := H.out.kept hk1
    have c0 := h1.c0
    rw [HV.out] at c0
    obtain ⟨g, cap', hv', _, c1⟩ := h1.at_ HKL.out
    rw [HV.out] at hv'
    injection hv' with ha _ hcap
    subst ha
    clear hcap
    have hbit := fun i (hi : i < (M.m k).2.length) => h1.bit HKL.out hi
    obtain ⟨s, hs⟩ : ∃ s, s = fun i => (M.m k).2.getD i false := ⟨_, rfl⟩
    have hbit' : ∀ i, i < (M.m k).2.length → w1.cell? ⟨tb k, i, none⟩ = some (.bool (s i)) := fun i hi => by rw [hbit i hi, hs]
    have HB := Lib.hid hbit'
    rw [← hs] at HE
    simp only [← hs] at HSE
    have HL : Hid ((boolsV (M.m k).2 ++ tj k).length = (M.m k).2.length + (tj k).length) := Lib.hid (by simp [boolsV])
    obtain ⟨n, hnl⟩ : ∃ n, n = (M.m k).2.length := ⟨_, rfl⟩
    rw [← hnl] at c1 hn HE
    simp only [← hnl] at HSE
    have HNL := Lib.hid hnl
    have HX1 := Lib.hid h1
    have HK1 := Lib.hid (But.kept (S := InX M q v tb) hk1)
    have HZ1 := hz1
    have HA1 := Lib.hid (HA.out w1 hk1)
    obtain ⟨B, hB⟩ : ∃ B, B = w.heap.size := ⟨_, rfl⟩
    rw [← hB] at HZ1 HNI ⊢
    have hBw : w.heap.size ≤ B := by omega
    clear hbit hbit' hs hnl h1 hz1 hk1 hs1 hl1 HA hB
    go_wp2_with fail
    refine Calls.mono HA1.out ?_
    rintro e w2 ⟨rfl, rfl⟩
    clear HA1
    go_wp2
    go_loopw [7] (fun i wr => ∃ j : Nat, j ≤ n ∧ i = .int .i64 j ∧ Hid (∀ i : Nat, i < j → s i = true) ∧ w1 = wr) (fun i _ => n - (intOf i).toNat)
    case atStart => exact ⟨0, Nat.zero_le _, rfl, Lib.hid (fun i hi => by omega), rfl⟩
    case round =>
      obtain ⟨j, hj, rfl, HAL, rfl⟩ := hrel
      by_cases hjn : j < n
      · have hjm : j < (M.m k).2.length := by rw [← HNL.out]; exact hjn
        have c2 := HB.out j hjm
        obtain ⟨sj, hsj⟩ : ∃ sj, sj = s j := ⟨_, rfl⟩
        rw [← hsj] at c2
        cases sj with
        | true =>
          have HAL2 : Hid (∀ i : Nat, i < j + 1 → s i = true) := Lib.hid fun i hi => by
            by_cases e : i = j
            · rw [e]; exact hsj.symm
            · exact HAL.out i (by omega)
          clear hsj
          go_wp2
          go_roundw
          case rel => exact ⟨j + 1, hjn, by go_num, HAL2, trivial⟩
          case measure => simp [intOf]; omega
        | false =>
          have HSJ := Lib.hid hsj.symm
          clear hsj
          go_wp2_with (refine stop_at (o := ⟨none, .store _ _ _, _, _, _, _⟩) ?_)
          refine Stop.mk ?_
          refine wpList_set_cell rfl _ _ rfl size_boolX (tb k) j rfl (.bool true) rfl rfl rfl _ _ (HX1.out.tak k HKL.out) (by rw [HL.out]; omega) ?_
          intro w5 hw5
          have HX5 := Lib.hid (HX1.out.put HKL.out hjm true hw5)
          have HU5 := Lib.hid (HK1.out.trans (But.wrote (S := InX M q v tb) hw5 HIN.out))
          have HZ5 := Lib.hid ((hw5.oth B (fun e => HNI.out (e ▸ HIN.out))).trans HZ1.out)
          have HR : Hid (TakeR M.xt d (extV d (114 + (j : Int) * 8) 0) (M.put k j true).xt) := Lib.hid (.inr ⟨n, s, HE.out, .inr ⟨j, hjn, HSJ.out, HAL.out, rfl, HSE.out j hjn true⟩⟩)
          have HNI5 : Hid (¬ InX (M.put k j true) q v tb B) := Lib.hid fun hi => HNI.out ((InX_like (HLK.out j) B).1 hi)
          clear hw5 HSJ c2
          go_wp2_with (first
            | (go_at_call 51; refine Calls.mono (ref_Place (j : Int) (by omega) (by omega) _) ?_; rintro e w' ⟨rfl, rfl⟩)
            | (refine wpList_store_agg (o := ⟨none, .store _ _ _, _, _, _, _⟩) rfl _ _ rfl ty_ext B 0 rfl [Value.int .i64 d, .int .i64 (114 + (j : Int) * 8)] rfl rfl (by simp [Value.oneCell']) [Value.int .i64 0, .int .i64 0] 33 HZ5.out (by simp) ?_; intro w6 hw6))
          refine bodyPost_ret (results_ext rfl _ _ B d (114 + (j : Int) * 8) rfl (hw6.all rfl).cells) rfl ?_
          exact ⟨_, _, rfl, HR.out, HX5.out.wrote_new hw6 HNI5.out, HLK.out j, HU5.out.wrote_new hw6 hBw⟩
      · have hjj : j = n := by omega
        subst hjj
        have HR : Hid (TakeR M.xt d (extV 0 0 4) M.xt) := Lib.hid (.inr ⟨j, s, HE.out, .inl ⟨HAL.out, rfl, rfl⟩⟩)
        clear HAL
        go_wp2_with (refine wpList_store_agg (o := ⟨none, .store _ _ _, _, _, _, _⟩) rfl _ _ rfl ty_ext B 0 rfl [Value.int .i64 0, .int .i64 0] rfl rfl (by simp [Value.oneCell']) [Value.int .i64 0, .int .i64 0] 33 HZ1.out (by simp) ?_; intro w6 hw6)
        refine bodyPost_ret (results_ext rfl _ _ B 0 0 rfl (hw6.all rfl).cells) rfl ?_
        exact ⟨_, M, rfl, HR.out, HX1.out.wrote_new hw6 HNI.out, RM.Like.refl M, HK1.out.wrote_new hw6 hBw⟩
  · have HR : Hid (TakeR M.xt d (extV 0 0 8) M.xt) := Lib.hid (.inl ⟨RM.xt_none hlt, rfl, rfl⟩)
    simp only [RM.atV_none hlt] at HA
    clear hlt
    go_enter Tryd.func39, Tryd.ntmps39
    go_wp2_with (refine stop_at (o := ⟨some 4, _, _, _, _, _⟩) ?_)
    refine Stop.mk ?_
    refine wpList_alloc_abs rfl 33 rfl [Value.int .i64 0, .int .i64 0] zero_ext ?_
    intro w1 hz1 hl1 hs1 hk1
    have HX1 := Lib.hid (H.out.kept hk1)
    have HK1 := Lib.hid (But.kept (S := InX M q v tb) hk1)
    have HA1 := Lib.hid (HA.out w1 hk1)
    obtain ⟨B, hB⟩ : ∃ B, B = w.heap.size := ⟨_, rfl⟩
    have HZ1 := hz1
    rw [← hB] at HZ1 HNI ⊢
    have hBw : w.heap.size ≤ B := by omega
    clear hk1 hs1 hl1 hz1 HA hB
    go_wp2_with fail
    refine Calls.mono HA1.out ?_
    rintro e w2 ⟨rfl, rfl⟩
    clear HA1
    go_wp2_with (refine wpList_store_agg (o := ⟨none, .store _ _ _, _, _, _, _⟩) rfl _ _ rfl ty_ext B 0 rfl [Value.int .i64 0, .int .i64 0] rfl rfl (by simp [Value.oneCell']) [Value.int .i64 0, .int .i64 0] 33 HZ1.out (by simp) ?_; intro w6 hw6)
    refine bodyPost_ret (results_ext rfl _ _ B 0 0 rfl (hw6.all rfl).cells) rfl ?_
    exact ⟨_, M, rfl, HR.out, HX1.out.wrote_new hw6 HNI.out, RM.Like.refl M, HK1.out.wrote_new hw6 hBw⟩
end
/-- it is one answer -/
theorem TakeR.det {E E1 E2 : XT} {d : Int} {x y : Value} (h : TakeR E d x E1) (k : TakeR E d y E2) : x = y ∧ E1 = E2 := by
  rcases k with ⟨hd, rfl, rfl⟩ | ⟨n, s, hd, ⟨ha, rfl, rfl⟩ | ⟨i, hi, hs, hl, rfl, rfl⟩⟩
  · exact h.nobody hd
  · exact h.full hd ha
  · exact h.first hd hi hs hl
end Go.Proofs.YtglplhmclfekfaaDoor
/- ref06: one member more, in memory. -/
namespace Go.Proofs.YtglplhmclfekfaaDoor
open Go.RowKit
set_option linter.unusedVariables false
set_option linter.unusedSimpArgs false

theorem own_type {W : World} {base e sz n : Nat} {v : Value} {xs : List Value} (h : W.ownsRow base e sz v n xs) {g : Nat} (hg : v.ownBlock = some g) : ∃ cur, W.heap[g]? = some (.cells cur e (0, 0)) := by
  rcases h.2 with ⟨rfl, _⟩ | ⟨g', cap, cur, rfl, _, hh, _⟩
  · simp [Value.ownBlock] at hg
  · simp only [Value.ownBlock, Option.some.injEq] at hg
    subst hg
    exact ⟨cur, hh⟩
section
variable {W W5 W6 W7 : World} {q : Nat} {M : RM} {v v' : Value} {tb : Nat → Nat} {tj : Nat → List Value} {B : Nat} {d : Int} {l : List Bool} {jl : List Value}
theorem memV_app : memV (M ++ [(d, l)]) (fun k => if k = M.length then B else tb k) (fun k => if k = M.length then jl else tj k) = memV M tb tj ++ [.int .i64 d, .slice (some ⟨B, 0, none⟩) l.length (l.length + jl.length)] := by
  unfold memV
  rw [List.length_append, show [(d, l)].length = 1 from rfl, List.range_succ, List.flatMap_append]
  congr 1
  · exact flat2_congr fun k hk => by unfold memb; rw [RM.m_app, if_pos hk]; simp only [if_neg (show ¬ k = M.length by omega)]
  · simp [memb, RM.m_app]
theorem XR.app (h : XR W q M v tb tj) (HK : Kept W W5) (hB : W.heap.size ≤ B) (hb : W5.heap[B]? = some (.cells (boolsV l ++ jl).toArray 4 (0, 0)))
    (ho : W6.ownsRow 0 71 2 v' (M.length + 1) (memV M tb tj ++ [.int .i64 d, .slice (some ⟨B, 0, none⟩) l.length (l.length + jl.length)])) (hg : Grw W5 W6 v v') (hw : Wrote W6 W7 q [v'] 68) :
    XR W7 q (M ++ [(d, l)]) v' (fun k => if k = M.length then B else tb k) (fun k => if k = M.length then jl else tj k) ∧ But (InX M q v tb) W W7 ∧ ∀ b, InX (M ++ [(d, l)]) q v' (fun k => if k = M.length then B else tb k) b → InX M q v tb b ∨ W.heap.size ≤ b := by
  have hq : q < W.heap.size := h.lt (.inl rfl)
  have hvq : v.ownBlock ≠ some q := fun e => by
    obtain ⟨cur, hc⟩ := own_type h.row e
    rw [h.top] at hc
    injection hc with hc
    injection hc with _ h2
    exact absurd h2 (by decide)
  have hvt : ∀ k, k < M.length → v.ownBlock ≠ some (tb k) := fun k hk e => by
    obtain ⟨cur, hc⟩ := own_type h.row e
    rw [h.tak k hk] at hc
    injection hc with hc
    injection hc with _ h2
    exact absurd h2 (by decide)
  have hvB : v.ownBlock ≠ some B := fun e => by have := own_lt h.row e; omega
  have hqt : ∀ k, k < M.length → tb k ≠ q := fun k hk e => by
    have h1 := h.tak k hk
    rw [e, h.top] at h1
    injection h1 with h1
    injection h1 with _ h2
    exact absurd h2 (by decide)
  have hBs : B < W5.heap.size := (Array.getElem?_eq_some_iff.1 hb).1
  have hlen : (M ++ [(d, l)]).length = M.length + 1 := by simp
  have hv'q : v'.ownBlock ≠ some q := by
    rcases hg with ⟨h1, _⟩ | ⟨g, h1, h2, _⟩
    · rw [h1]; exact hvq
    · rw [h1]; intro e; injection e with e; have := HK.size; omega
  refine ⟨⟨hw.blk, ?_, fun k hk => ?_, fun j k hj hk e => ?_⟩, ?_, fun b hb' => ?_⟩
  · rw [hlen, memV_app]
    exact own_same ho fun g hg' => hw.oth _ (fun e => hv'q (e ▸ hg'))
  · rw [hlen] at hk
    show W7.heap[if k = M.length then B else tb k]? = some (.cells (boolsV (RM.m (M ++ [(d, l)]) k).2 ++ (if k = M.length then jl else tj k)).toArray 4 (0, 0))
    by_cases e : k = M.length
    · rw [if_pos e, if_pos e, RM.m_app, if_neg (by omega), if_pos e, hw.oth _ (by omega), hg.blk hBs hvB]; exact hb
    · have hk' : k < M.length := by omega
      have hlt : tb k < W.heap.size := h.lt (.inr (.inr ⟨k, hk', rfl⟩))
      have hs5 := HK.size
      rw [if_neg e, if_neg e, RM.m_app, if_pos hk', hw.oth _ (hqt k hk'), hg.blk (by omega) (hvt k hk')]; exact HK.block (h.tak k hk')
  · rw [hlen] at hj hk
    have hlt : ∀ k, k < M.length → tb k < W.heap.size := fun k hk => h.lt (.inr (.inr ⟨k, hk, rfl⟩))
    replace e : (if j = M.length then B else tb j) = (if k = M.length then B else tb k) := e
    split at e <;> split at e
    · omega
    · have := hlt k (by omega); omega
    · have := hlt j (by omega); omega
    · exact h.inj j k (by omega) (by omega) e
  · have h1 : But (InX M q v tb) W W5 := But.kept HK
    have h2 : But (InX M q v tb) W5 W6 := by
      rcases hg with ⟨_, h⟩ | ⟨_, _, _, _, h⟩
      · exact h.mono fun i hi => .inr (.inl hi)
      · exact But.kept h
    exact (h1.trans h2).trans (But.wrote hw (.inl rfl))
  · rcases hb' with rfl | hb' | ⟨k, hk, rfl⟩
    · exact .inl (.inl rfl)
    · rcases hg with ⟨h1, _⟩ | ⟨g, h1, h2, _⟩
      · rw [h1] at hb'; exact .inl (.inr (.inl hb'))
      · rw [h1] at hb'; injection hb' with hb'; have := HK.size; exact .inr (by omega)
    · rw [hlen] at hk
      show InX M q v tb (if k = M.length then B else tb k) ∨ W.heap.size ≤ (if k = M.length then B else tb k)
      split
      · exact .inr hB
      · exact .inl (.inr (.inr ⟨k, by omega, rfl⟩))
end
end Go.Proofs.YtglplhmclfekfaaDoor
