/- ExtentWhole: what is held, and what the map says. -/
import Derived.Test.YtglplhmclfekfaaDoorEda
namespace Go.Proofs.YtglplhmclfekfaaDoor
open Go.RowKit Go.ChangeMaps Go.MapKept
set_option linter.unusedVariables false
set_option linter.unusedSimpArgs false

/-- the held extents' cells: of each its member, its first sector -/
def exs (H : List (Nat × Nat)) : List Value := H.flatMap fun x => [Value.int .i64 (x.1 : Int), Value.int .i64 (114 + (x.2 : Int) * 8)]
theorem exs_length (H : List (Nat × Nat)) : (exs H).length = H.length * 2 := by
  induction H with
  | nil => rfl
  | cons x H ih => simp only [exs, List.flatMap_cons, List.length_append, List.length_cons, List.length_nil] at ih ⊢; omega
theorem exs_append (H K : List (Nat × Nat)) : exs (H ++ K) = exs H ++ exs K := by simp [exs]
theorem exs_at (H : List (Nat × Nat)) (k : Nat) (hk : k < H.length) : (exs H)[k * 2]? = some (.int .i64 (H[k].1 : Int)) ∧ (exs H)[k * 2 + 1]? = some (.int .i64 (114 + (H[k].2 : Int) * 8)) := by
  have e : H = H.take k ++ (H[k] :: H.drop (k + 1)) := by rw [List.getElem_cons_drop, List.take_append_drop]
  have e2 : exs H = exs (H.take k) ++ exs (H[k] :: H.drop (k + 1)) := by rw [← exs_append, ← e]
  have hl : (exs (H.take k)).length = k * 2 := by rw [exs_length, List.length_take]; omega
  constructor
  · rw [e2, List.getElem?_append_right (by omega), hl, Nat.sub_self]; rfl
  · rw [e2, List.getElem?_append_right (by omega), hl, Nat.add_sub_cancel_left]; rfl
theorem exs_one (H : List (Nat × Nat)) : ∀ u ∈ exs H, u.oneCell' = true := by
  intro u hu
  simp only [exs, List.mem_flatMap, List.mem_cons, List.not_mem_nil, or_false] at hu
  obtain ⟨x, _, rfl | rfl⟩ := hu <;> rfl

/-- two members, 0 and 1, of n 0 and n 1 extents -/
def eN (n : Nat → Nat) (s : Nat → Nat → Bool) : XT := fun x => if x = 0 then some (n 0, s 0) else if x = 1 then some (n 1, s 1) else none
theorem eN_at (n : Nat → Nat) (s : Nat → Nat → Bool) (d : Nat) (hd : d < 2) : eN n s (d : Int) = some (n d, s d) := by
  have : d = 0 ∨ d = 1 := by omega
  rcases this with rfl | rfl <;> rfl
def updS (s : Nat → Nat → Bool) (d : Nat) (t : Nat → Bool) : Nat → Nat → Bool := fun e => if e = d then t else s e
theorem eN_set (n : Nat → Nat) (s : Nat → Nat → Bool) (d : Nat) (hd : d < 2) (t : Nat → Bool) : (eN n s).set (d : Int) (n d) t = eN n (updS s d t) := by
  have : d = 0 ∨ d = 1 := by omega
  funext x
  rcases this with rfl | rfl
  · unfold XT.set eN updS
    by_cases h : x = 0
    · subst h; rfl
    · rw [if_neg (by simpa using h), if_neg h, if_neg h]; rfl
  · unfold XT.set eN updS
    by_cases h : x = 1
    · subst h; rfl
    · rw [if_neg (by simpa using h)]
      by_cases h0 : x = 0
      · rw [if_pos h0, if_pos h0]; rfl
      · rw [if_neg h0, if_neg h0, if_neg h, if_neg h]
def memF (H : List (Nat × Nat)) : Nat → Nat → Bool := fun d j => decide ((d, j) ∈ H)
theorem memF_true {H : List (Nat × Nat)} {d j : Nat} : memF H d j = true ↔ (d, j) ∈ H := by simp [memF]
theorem memF_false {H : List (Nat × Nat)} {d j : Nat} : memF H d j = false ↔ (d, j) ∉ H := by simp [memF]
theorem memF_add (H : List (Nat × Nat)) (d i : Nat) : updS (memF H) d (setS (memF H d) i true) = memF (H ++ [(d, i)]) := by
  funext e j
  unfold updS setS memF
  by_cases he : e = d
  · subst he
    rw [if_pos rfl]
    by_cases hj : j = i
    · subst hj; simp
    · rw [if_neg hj]; simp [hj]
  · rw [if_neg he]; simp [he]
theorem memF_del (H : List (Nat × Nat)) (hn : H.Nodup) (k : Nat) (hk : k < H.length) : updS (memF H) H[k].1 (setS (memF H H[k].1) H[k].2 false) = memF (H.eraseIdx k) := by
  have hm : ∀ x, x ∈ H.eraseIdx k ↔ x ∈ H ∧ x ≠ H[k] := by
    intro x
    constructor
    · intro h
      refine ⟨List.mem_of_mem_eraseIdx h, ?_⟩
      rw [List.mem_eraseIdx_iff_getElem] at h
      obtain ⟨i, hi, hne, rfl⟩ := h
      intro e
      exact hne ((List.getElem_inj hn).1 e)
    · rintro ⟨h, hne⟩
      obtain ⟨i, hi, rfl⟩ := List.getElem_of_mem h
      rw [List.mem_eraseIdx_iff_getElem]
      exact ⟨i, hi, fun e => hne (by subst e; rfl), rfl⟩
  funext e j
  unfold updS setS memF
  generalize hp : H[k] = p at *
  obtain ⟨a, b⟩ := p
  dsimp only
  by_cases he : e = a
  · subst he
    rw [if_pos rfl]
    by_cases hj : j = b
    · subst hj; rw [if_pos rfl]
      symm; rw [decide_eq_false_iff_not, hm]; simp
    · rw [if_neg hj]
      rw [decide_eq_decide, hm]
      simp [hj]
  · rw [if_neg he, decide_eq_decide, hm]
    simp [he]
/-- what is held when of member d the first i are taken, and of those ahead of it all -/
def pre (n : Nat → Nat) (d i : Nat) : List (Nat × Nat) := ((List.range d).flatMap fun e => (List.range (n e)).map fun j => (e, j)) ++ (List.range i).map fun j => (d, j)
theorem pre_zero (n : Nat → Nat) : pre n 0 0 = [] := rfl
theorem pre_next (n : Nat → Nat) (d i : Nat) : pre n d (i + 1) = pre n d i ++ [(d, i)] := by
  unfold pre; rw [List.range_succ, List.map_append, ← List.append_assoc]; rfl
theorem pre_full (n : Nat → Nat) (d : Nat) : pre n d (n d) = pre n (d + 1) 0 := by
  unfold pre; rw [List.range_succ (n := d), List.flatMap_append]; simp
theorem mem_pre (n : Nat → Nat) (d i e j : Nat) : (e, j) ∈ pre n d i ↔ (e < d ∧ j < n e) ∨ (e = d ∧ j < i) := by
  unfold pre
  simp only [List.mem_append, List.mem_flatMap, List.mem_range, List.mem_map, Prod.mk.injEq]
  constructor
  · rintro (⟨a, ha, b, hb, rfl, rfl⟩ | ⟨b, hb, rfl, rfl⟩)
    · exact .inl ⟨ha, hb⟩
    · exact .inr ⟨rfl, hb⟩
  · rintro (⟨h1, h2⟩ | ⟨rfl, h2⟩)
    · exact .inl ⟨e, h1, j, h2, rfl, rfl⟩
    · exact .inr ⟨j, h2, rfl, rfl⟩
theorem pre_nodup (n : Nat → Nat) (d i : Nat) : (pre n d i).Nodup := by
  induction d generalizing i with
  | zero =>
    induction i with
    | zero => exact List.nodup_nil
    | succ i ih =>
      rw [pre_next, List.nodup_append]
      refine ⟨ih, by simp, fun a ha b hb => ?_⟩
      simp at hb; subst hb
      rintro rfl
      rw [mem_pre] at ha; omega
  | succ d ihd =>
    induction i with
    | zero => rw [← pre_full]; exact ihd _
    | succ i ih =>
      rw [pre_next, List.nodup_append]
      refine ⟨ih, by simp, fun a ha b hb => ?_⟩
      simp at hb; subst hb
      rintro rfl
      rw [mem_pre] at ha; omega
theorem pre_length (n : Nat → Nat) (d i : Nat) (hn : ∀ e, n e ≤ 50) : (pre n d i).length ≤ 50 * d + i := by
  induction d generalizing i with
  | zero => simp [pre]
  | succ d ihd =>
    have h := ihd (n d)
    have h2 := hn d
    have e : (pre n (d + 1) i).length = (pre n (d + 1) 0).length + i := by simp [pre]
    rw [e, ← pre_full]; omega
theorem cnt_congr (n : Nat) (s t : Nat → Bool) (h : ∀ j, j < n → s j = t j) : cntS n s = cntS n t := by
  unfold cntS; rw [List.filter_congr fun j hj => h j (List.mem_range.1 hj)]
theorem cnt_none (n : Nat) (s : Nat → Bool) (h : ∀ j, j < n → s j = false) : cntS n s = 0 := by
  rw [cnt_congr n s (fun _ => false) h, cnt_zero]
/-- Held: the law's slice, in a block of its own, or empty. -/
def Held (W : World) (base : Nat) (v : Value) (H : List (Nat × Nat)) : Prop := (H = [] ∧ ∃ ao cap, v = .slice ao 0 cap) ∨ (H ≠ [] ∧ W.ownsRow base 33 2 v H.length (exs H))
end Go.Proofs.YtglplhmclfekfaaDoor
