/- ExtentWhole: the held extents in memory, beside the map. -/
import Derived.Test.YtglplhmclfekfaaDoorEwa
import Derived.Test.YtglplhmclfekfaaDoorApp
namespace Go.Proofs.YtglplhmclfekfaaDoor
open Go.RowKit Go.ChangeMaps Go.MapKept
set_option linter.unusedVariables false
set_option linter.unusedSimpArgs false

theorem ty_exts : ElemT Tryd.prog 29 33 2 16 := by
  refine ⟨Tryd.underlying29, ?_, by decide⟩
  have h1 : (Tryd.prog.info? 33).map (fun i => (i.zero, i.size, i.bytes)) = some (some (.agg #[.int .i64 0, .int .i64 0]), 2, 16) := by kernel_rfl
  cases hi : Tryd.prog.info? 33 with
  | none => simp [hi] at h1
  | some i =>
    simp [hi] at h1
    exact ⟨i, _, rfl, h1.1, h1.2.1, h1.2.2, rfl⟩
def lenV (v : Value) : Nat := match v with | .slice _ n _ => n | _ => 0
def RH (v : Value) (H : List (Nat × Nat)) : Nat → Prop := fun k => H ≠ [] ∧ v.ownBlock = some k
section
variable {w0 W W' : World} {q : Nat} {E : XT} {v : Value} {H : List (Nat × Nat)} {base : Nat}
theorem Held.owns (h : Held W base v H) (hH : H ≠ []) : ∃ g cap cur, v = .slice (some ⟨g, 0, none⟩) H.length cap ∧ base ≤ g ∧ W.heap[g]? = some (.cells cur 33 (0, 0)) ∧ H.length ≤ cap ∧ cap ≤ maxLen ∧ cur.size = cap * 2 ∧ cur.toList.take (H.length * 2) = exs H := by
  rcases h with ⟨h, _⟩ | ⟨_, h⟩
  · exact absurd h hH
  · rcases h.2 with ⟨_, h0⟩ | h
    · exact absurd (List.eq_nil_of_length_eq_zero h0) hH
    · exact h
theorem Held.nil (h : Held W base v []) : ∃ ao cap, v = .slice ao 0 cap := by
  rcases h with ⟨_, h⟩ | ⟨h, _⟩
  · exact h
  · exact absurd rfl h
theorem Held.same (h : Held W base v H) (hr : SameR (RH v H) W W') : Held W' base v H := by
  rcases h with h | ⟨hH, h⟩
  · exact .inl h
  · refine .inr ⟨hH, h.1, ?_⟩
    rcases h.2 with h2 | ⟨g, cap, cur, rfl, hg, hh, r⟩
    · exact .inl h2
    · exact .inr ⟨g, cap, cur, rfl, hg, (hr g ⟨hH, rfl⟩).trans hh, r⟩
theorem Held.kept (h : Held W base v H) (hk : Kept W W') : Held W' base v H := by
  rcases h with h | ⟨hH, h⟩
  · exact .inl h
  · exact .inr ⟨hH, ownsRow_kept h hk⟩
theorem Held.app (h : Held W base v H) (hv : H = [] → v = .slice none 0 0) : App W base 33 2 v H.length (exs H) := by
  rcases h with ⟨rfl, _⟩ | ⟨_, h⟩
  · rw [hv rfl]; exact .inr ⟨rfl, none, rfl, fun _ => rfl, fun b _ j u hu => by simp [exs] at hu⟩
  · exact .inl h
theorem Held.cells (h : Held W base v H) {g n c : Nat} (hv : v = .slice (some ⟨g, 0, none⟩) n c) : Cells W g 0 (exs H) := by
  by_cases hH : H = []
  · subst hH; intro j hj; simp [exs] at hj
  · obtain ⟨g', cap, cur, hv', _, hh, _, _, _, ht⟩ := h.owns hH
    rw [hv] at hv'; injection hv' with hv' _ _; injection hv' with hv'; injection hv' with hv'; subst hv'
    intro j hj
    have h1 := cell_of_row W g j cur _ _ hh
    have hj2 : j < H.length * 2 := by rw [exs_length] at hj; exact hj
    rw [Nat.zero_add, h1, ← List.getElem?_eq_getElem hj, ← ht, List.getElem?_take_of_lt hj2]
    simp
/-- the map's own blocks are no rows of extents -/
theorem XO.tight (h : XO w0 (fun _ => False) W q E) {B : Nat} {cur : Array Value} {fr : Nat × Nat} (hb : W.heap[B]? = some (.cells cur 33 fr)) : XO w0 (fun k => k = B) W q E := by
  obtain ⟨S, ⟨g, blk, X⟩, h2, h3, h4⟩ := h
  have sub : ∀ k, (k = q ∨ k = g ∨ ∃ d, E d ≠ none ∧ k = blk d) → S k := by
    rintro k (rfl | rfl | ⟨d, hd, rfl⟩)
    · exact X.sp
    · exact X.sg
    · exact X.own d hd
  refine ⟨fun k => k = q ∨ k = g ∨ ∃ d, E d ≠ none ∧ k = blk d, ⟨g, blk, X.top, X.gm, X.row, fun d hd => .inr (.inr ⟨d, hd, rfl⟩), X.inj, .inl rfl, .inr (.inl rfl), fun k hk => X.slt k (sub k hk)⟩, h2, fun k hk => h3 k (sub k hk), ?_⟩
  rintro k rfl
  refine ⟨(Array.getElem?_eq_some_iff.1 hb).1, ?_⟩
  rintro (rfl | rfl | ⟨d, hd, rfl⟩)
  · have h1 := X.top
    rw [hb] at h1
    have h2 : (33 : Nat) = 51 := by
      injection h1 with h1; injection h1 with _ h1 _
    exact absurd h2 (by decide)
  · obtain ⟨_, _, _, hg1, _⟩ := X.gm
    rw [hb] at hg1; cases hg1
  · cases hE : E d with
    | none => exact hd hE
    | some x =>
      obtain ⟨n, s⟩ := x
      obtain ⟨_, _, ws, _, hb2, _⟩ := X.row d n s hE
      rw [hb] at hb2
      have h2 : (33 : Nat) = 76 := by
        injection hb2 with h1; injection h1 with _ h1 _
      exact absurd h2 (by decide)
theorem XO.held {R : Nat → Prop} (h : XO w0 R W q E) (hH : Held W base v H) : XO w0 (RH v H) W q E := by
  have h0 := h.less (R' := fun _ => False) (fun _ h => h.elim)
  by_cases he : H = []
  · exact h0.less fun k hk => absurd he hk.1
  · obtain ⟨g, cap, cur, rfl, _, hh, _⟩ := hH.owns he
    refine (h0.tight hh).less fun k hk => ?_
    have := hk.2
    simp only [Value.ownBlock] at this
    injection this with this
    exact this.symm
/-- what is appended to the held slice -/
theorem XO.grown (h : XO w0 (RH v H) W q E) (hH : Held W base v H) (hb : w0.heap.size ≤ base) {row : Option Nat} (hrow : row = v.ownBlock) (hg : W.grownBy W' row) (h0 : H = [] → W.grownBy W' none) : XO w0 (fun _ => False) W' q E := by
  obtain ⟨S, h1, h2, h3, h4⟩ := h
  by_cases he : H = []
  · have hk : Kept W W' := (Kept.refl W).grown (h0 he) (fun k e => by cases e)
    exact ⟨S, h1.kept hk, h2.trans hk, h3, fun k hk => hk.elim⟩
  · obtain ⟨g, cap, cur, rfl, hbg, hh, _⟩ := hH.owns he
    subst hrow
    obtain ⟨gg, blk, X⟩ := h1
    have hbut : But (fun k => k = g) W W' := ⟨hg.os, hg.tape, hg.output, hg.size, fun i hi hn => hg.block i hi (by simp only [Value.ownBlock]; intro e; injection e with e; exact hn e)⟩
    have hgS : ¬ S g := (h4 g ⟨he, rfl⟩).2
    exact ⟨S, ⟨gg, blk, X.but hbut fun k hk e => hgS (e ▸ hk)⟩, But.to_kept h2 hbut (fun i hi => by rw [hi]; omega), h3, fun k hk => hk.elim⟩
end
theorem Held.at {W : World} {base g m c : Nat} {H : List (Nat × Nat)} (h : Held W base (.slice (some ⟨g, 0, none⟩) m c) H) (k : Nat) (hk : k < H.length) : W.cell? ⟨g, k * 2, none⟩ = some (.int .i64 (H[k].1 : Int)) ∧ W.cell? ⟨g, k * 2 + 1, none⟩ = some (.int .i64 (114 + (H[k].2 : Int) * 8)) := by
  have hc := h.cells rfl
  obtain ⟨e1, e2⟩ := exs_at H k hk
  have hl := exs_length H
  obtain ⟨h1, e1⟩ := List.getElem?_eq_some_iff.1 e1
  obtain ⟨h2, e2⟩ := List.getElem?_eq_some_iff.1 e2
  have c1 := hc (k * 2) h1
  have c2 := hc (k * 2 + 1) h2
  rw [Nat.zero_add] at c1 c2
  rw [e1] at c1; rw [e2] at c2
  exact ⟨c1, c2⟩
theorem free_step (n : Nat → Nat) (H : List (Nat × Nat)) (hn : H.Nodup) (hm : ∀ x ∈ H, x.1 < 2 ∧ x.2 < n x.1) (k : Nat) (hk : k < H.length) : chgX false (eN n (memF H)) (H[k].1 : Int) (114 + (H[k].2 : Int) * 8) = (0, eN n (memF (H.eraseIdx k))) := by
  have hx := hm _ (List.getElem_mem hk)
  rw [chg_at false (eN_at n _ _ hx.1) hx.2, if_neg (by rw [Bool.not_eq_false]; exact memF_true.2 (List.getElem_mem hk)), eN_set n _ _ hx.1, memF_del H hn k hk]
theorem used_after (n : Nat → Nat) (H : List (Nat × Nat)) (hn : H.Nodup) (hm : ∀ x ∈ H, x.1 < 2 ∧ x.2 < n x.1) (k : Nat) (hk : k < H.length) : usedX (eN n (memF (H.eraseIdx k))) (H[k].1 : Int) + 1 = usedX (eN n (memF H)) (H[k].1 : Int) := by
  have hx := hm _ (List.getElem_mem hk)
  have ht : memF H H[k].1 H[k].2 = true := memF_true.2 (List.getElem_mem hk)
  rw [used_at (eN_at n _ _ hx.1), used_at (eN_at n _ _ hx.1), ← memF_del H hn k hk]
  have hc := cnt_set (n H[k].1) H[k].2 (memF H H[k].1) false hx.2
  rw [ht] at hc
  unfold updS
  rw [if_pos rfl]
  simpa using hc
theorem used_other (n : Nat → Nat) (H : List (Nat × Nat)) (hn : H.Nodup) (hm : ∀ x ∈ H, x.1 < 2 ∧ x.2 < n x.1) (k : Nat) (hk : k < H.length) : usedX (eN n (memF (H.eraseIdx k))) (1 - (H[k].1 : Int)) = usedX (eN n (memF H)) (1 - (H[k].1 : Int)) := by
  have hx := hm _ (List.getElem_mem hk)
  have e : (1 : Int) - (H[k].1 : Int) = ((1 - H[k].1 : Nat) : Int) := by omega
  rw [e, used_at (eN_at n _ _ (by omega)), used_at (eN_at n _ _ (by omega)), ← memF_del H hn k hk]
  unfold updS
  rw [if_neg (by omega)]
theorem used_le (n : Nat → Nat) (s : Nat → Nat → Bool) (hn : ∀ e, n e ≤ 50) (d : Int) : usedX (eN n s) d ≤ 50 := by
  unfold usedX eN
  by_cases h0 : d = 0
  · rw [if_pos h0]; exact Nat.le_trans (cnt_le _ _) (hn 0)
  · rw [if_neg h0]
    by_cases h1 : d = 1
    · rw [if_pos h1]; exact Nat.le_trans (cnt_le _ _) (hn 1)
    · rw [if_neg h1]; exact Nat.zero_le _
theorem App.form {w : World} {base e size n : Nat} {v : Value} {xs : List Value} (h : App w base e size v n xs) : ∃ ao cap, v = .slice ao n cap := by
  rcases h with h | ⟨_, ao, rfl, _⟩
  · rcases h.2 with ⟨rfl, rfl⟩ | ⟨g, cap, cur, rfl, _⟩
    · exact ⟨_, _, rfl⟩
    · exact ⟨_, _, rfl⟩
  · exact ⟨_, _, rfl⟩
theorem Held.spliced {w7 w8 : World} {base b6 : Nat} (hb : base ≤ b6) {H : List (Nat × Nat)} {k : Nat} (hk : k < H.length) {v7 v8 : Value} {X7 : Prop}
    (hA8 : App w8 b6 33 2 v8 (0 + k + (H.length - (k + 1))) ([] ++ exs (H.take k) ++ exs (H.drop (k + 1))))
    (h7 : (0 < k ∨ X7) → w7.ownsRow b6 33 2 v7 (0 + k) ([] ++ exs (H.take k)))
    (h8 : (0 < H.length - (k + 1) ∨ w7.ownsRow b6 33 2 v7 (0 + k) ([] ++ exs (H.take k))) → w8.ownsRow b6 33 2 v8 (0 + k + (H.length - (k + 1))) ([] ++ exs (H.take k) ++ exs (H.drop (k + 1)))) :
    Held w8 base v8 (H.eraseIdx k) := by
  have hl : (H.eraseIdx k).length = H.length - 1 := by rw [List.length_eraseIdx, if_pos hk]
  have hn : 0 + k + (H.length - (k + 1)) = (H.eraseIdx k).length := by omega
  have hx : [] ++ exs (H.take k) ++ exs (H.drop (k + 1)) = exs (H.eraseIdx k) := by rw [List.nil_append, ← exs_append, List.eraseIdx_eq_take_drop_succ]
  rw [hn, hx] at hA8 h8
  by_cases he : H.eraseIdx k = []
  · obtain ⟨ao, cap, hv⟩ := App.form hA8
    rw [he] at hv
    exact .inl ⟨he, ao, cap, hv⟩
  · refine .inr ⟨he, ownsRow_base (h8 ?_) hb⟩
    have : 0 < (H.eraseIdx k).length := List.length_pos_iff.2 he
    by_cases hk0 : 0 < k
    · exact .inr (h7 (.inl hk0))
    · exact .inl (by omega)
theorem exs_prefix {W : World} {g : Nat} {H : List (Nat × Nat)} (h : Cells W g 0 (exs H)) (k : Nat) (hk : k ≤ H.length) : Cells W g 0 (exs (H.take k)) := by
  have e : exs H = exs (H.take k) ++ exs (H.drop k) := by rw [← exs_append, List.take_append_drop]
  intro j hj
  have h1 := h j (by rw [e, List.length_append]; omega)
  rw [h1]
  congr 1
  simp only [e]
  rw [List.getElem_append_left hj]
theorem exs_suffix {W : World} {g : Nat} {H : List (Nat × Nat)} (h : Cells W g 0 (exs H)) (k : Nat) (hk : k ≤ H.length) : Cells W g (k * 2) (exs (H.drop k)) := by
  have e : exs H = exs (H.take k) ++ exs (H.drop k) := by rw [← exs_append, List.take_append_drop]
  have hl : (exs (H.take k)).length = k * 2 := by rw [exs_length, List.length_take]; omega
  intro j hj
  have h1 := h (k * 2 + j) (by rw [e, List.length_append, hl]; omega)
  rw [Nat.zero_add] at h1
  rw [h1]
  congr 1
  simp only [e]
  rw [List.getElem_append_right (by omega)]
  simp only [hl, Nat.add_sub_cancel_left]
theorem suffix_src {W : World} {g cap : Nat} {H : List (Nat × Nat)} (h : Cells W g 0 (exs H)) {k : Nat} (hk : k < H.length) (hc : H.length ≤ cap) :
    Src W 2 (.slice (if cap = k + 1 then some ⟨g, 0, none⟩ else some ⟨g, (k + 1) * 2, none⟩) (H.length - (k + 1)) (cap - (k + 1))) (H.length - (k + 1)) (exs (H.drop (k + 1))) := by
  have hl : (exs (H.drop (k + 1))).length = (H.length - (k + 1)) * 2 := by rw [exs_length, List.length_drop]
  by_cases e : cap = k + 1
  · rw [if_pos e]
    have hd : H.drop (k + 1) = [] := List.drop_eq_nil_of_le (by omega)
    exact Src.of_cells (by rw [hd]; intro j hj; simp [exs] at hj) hl (by omega)
  · rw [if_neg e]
    exact Src.of_cells (exs_suffix h (k + 1) (by omega)) hl (by omega)
end Go.Proofs.YtglplhmclfekfaaDoor
