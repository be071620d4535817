/- ExtentApart: members of any sizes; plain laws. -/
import Derived.Test.YtglplhmclfekfaaDoorEwb
namespace Go.Proofs.YtglplhmclfekfaaDoor
open Go.RowKit Go.ChangeMaps Go.MapKept
set_option linter.unusedVariables false
set_option linter.unusedSimpArgs false

/-- the members 0, 1, .., of so many extents as L says -/
def eM (L : List Nat) (s : Nat → Nat → Bool) : XT := fun x => if 0 ≤ x ∧ x < (L.length : Int) then some (L.getD x.toNat 0, s x.toNat) else none
theorem eM_at (L : List Nat) (s : Nat → Nat → Bool) (d : Nat) (hd : d < L.length) : eM L s (d : Int) = some (L.getD d 0, s d) := by
  unfold eM; rw [if_pos (by omega), Int.toNat_natCast]
theorem eM_out (L : List Nat) (s : Nat → Nat → Bool) (d : Nat) (hd : L.length ≤ d) : eM L s (d : Int) = none := by
  unfold eM; rw [if_neg (by omega)]
theorem eM_set (L : List Nat) (s : Nat → Nat → Bool) (d : Nat) (hd : d < L.length) (t : Nat → Bool) : (eM L s).set (d : Int) (L.getD d 0) t = eM L (updS s d t) := by
  funext x
  unfold XT.set eM updS
  by_cases h : x = (d : Int)
  · subst h
    rw [if_pos rfl, if_pos (by omega), Int.toNat_natCast, if_pos rfl]
  · rw [if_neg h]
    by_cases h0 : 0 ≤ x ∧ x < (L.length : Int)
    · rw [if_pos h0, if_pos h0, if_neg (by omega)]
    · rw [if_neg h0, if_neg h0]
theorem eM_push (L : List Nat) (n : Nat) : (eM L (memF [])).set (L.length : Int) n (fun _ => false) = eM (L ++ [n]) (memF []) := by
  funext x
  unfold XT.set eM
  rw [List.length_append, List.length_singleton]
  by_cases h : x = (L.length : Int)
  · subst h
    rw [if_pos rfl, if_pos (by omega), Int.toNat_natCast, List.getD_eq_getElem?_getD, List.getElem?_append_right (Nat.le_refl _), Nat.sub_self]
    rfl
  · rw [if_neg h]
    by_cases h0 : 0 ≤ x ∧ x < (L.length : Int)
    · rw [if_pos h0, if_pos (by omega), List.getD_eq_getElem?_getD, List.getD_eq_getElem?_getD, List.getElem?_append_left (by omega)]
    · rw [if_neg h0, if_neg (by omega)]
theorem eM_nil : XT.none_ = eM [] (memF []) := by
  funext x; unfold XT.none_ eM; rw [if_neg]; rintro ⟨h1, h2⟩; simp at h2; omega
/-- what is held is of the members -/
def Mem (L : List Nat) (H : List (Nat × Nat)) : Prop := ∀ x ∈ H, x.1 < L.length ∧ x.2 < L.getD x.1 0
section
variable {L : List Nat} {H : List (Nat × Nat)}
theorem free_at (hn : H.Nodup) (hm : Mem L H) {k : Nat} (hk : k < H.length) : chgX false (eM L (memF H)) (H[k].1 : Int) (114 + (H[k].2 : Int) * 8) = (0, eM L (memF (H.eraseIdx k))) := by
  have hx := hm _ (List.getElem_mem hk)
  rw [chg_at false (eM_at L _ _ hx.1) hx.2, if_neg (by rw [Bool.not_eq_false]; exact memF_true.2 (List.getElem_mem hk)), eM_set L _ _ hx.1, memF_del H hn k hk]
theorem erase_not (hn : H.Nodup) {k : Nat} (hk : k < H.length) : H[k] ∉ H.eraseIdx k := by
  intro h
  rw [List.mem_eraseIdx_iff_getElem] at h
  obtain ⟨i, hi, hne, e⟩ := h
  exact hne ((List.getElem_inj hn).1 e)
theorem free_again (hn : H.Nodup) (hm : Mem L H) {k : Nat} (hk : k < H.length) : chgX false (eM L (memF (H.eraseIdx k))) (H[k].1 : Int) (114 + (H[k].2 : Int) * 8) = (9, eM L (memF (H.eraseIdx k))) := by
  have hx := hm _ (List.getElem_mem hk)
  rw [chg_at false (eM_at L _ _ hx.1) hx.2, if_pos (show memF (H.eraseIdx k) H[k].1 H[k].2 = false from memF_false.2 (erase_not hn hk))]
theorem Mem.erase (hm : Mem L H) (k : Nat) : Mem L (H.eraseIdx k) := fun x hx => hm x (List.mem_of_mem_eraseIdx hx)
theorem nodup_erase (hn : H.Nodup) (k : Nat) : (H.eraseIdx k).Nodup := hn.sublist (List.eraseIdx_sublist _ _)
/-- Take: what it tells, and what is held then -/
theorem take_at {d : Nat} (hd : d < L.length) {v : Value} {E' : XT} (h : TakeR (eM L (memF H)) (d : Int) v E') :
    (roomX (eM L (memF H)) (d : Int) = 0 ∧ v = extV 0 0 4 ∧ E' = eM L (memF H)) ∨
    (0 < roomX (eM L (memF H)) (d : Int) ∧ ∃ i : Nat, i < L.getD d 0 ∧ (d, i) ∉ H ∧ v = extV d (114 + (i : Int) * 8) 0 ∧ E' = eM L (memF (H ++ [(d, i)]))) := by
  have hr : roomX (eM L (memF H)) (d : Int) = L.getD d 0 - cntS (L.getD d 0) (memF H d) := by unfold roomX; rw [eM_at L _ d hd]
  rcases h with ⟨h, _⟩ | ⟨n, s, h, h'⟩
  · rw [eM_at L _ d hd] at h; cases h
  · rw [eM_at L _ d hd] at h; injection h with h; injection h with h1 h2; subst h1; subst h2
    rcases h' with ⟨hall, hv, hE⟩ | ⟨i, hi, hs, _, hv, hE⟩
    · left
      refine ⟨?_, hv, hE⟩
      rw [hr, cnt_all _ _ hall]; omega
    · right
      refine ⟨?_, i, hi, memF_false.1 hs, hv, ?_⟩
      · have hc := cnt_set (L.getD d 0) i (memF H d) true hi
        rw [hs] at hc
        have := cnt_le (L.getD d 0) (setS (memF H d) i true)
        simp only [Bool.false_eq_true, if_false, if_true] at hc
        rw [hr]; omega
      · rw [hE, eM_set L _ d hd, memF_add]
theorem Mem.add (hm : Mem L H) {d i : Nat} (hd : d < L.length) (hi : i < L.getD d 0) : Mem L (H ++ [(d, i)]) := by
  intro x hx
  rcases List.mem_append.1 hx with h | h
  · exact hm x h
  · simp at h; subst h; exact ⟨hd, hi⟩
theorem nodup_add (hn : H.Nodup) {x : Nat × Nat} (hx : x ∉ H) : (H ++ [x]).Nodup := by
  rw [List.nodup_append]
  refine ⟨hn, by simp, fun a ha b hb => ?_⟩
  simp at hb; subst hb
  rintro rfl; exact hx ha
theorem has_new {d i : Nat} (hd : d < L.length) (hi : i < L.getD d 0) : hasX (eM L (memF (H ++ [(d, i)]))) (d : Int) (114 + (i : Int) * 8) = 0 := by
  rw [has_at (eM_at L _ d hd) hi, if_pos (memF_true.2 (by simp))]
theorem taken_new {d i : Nat} (hd : d < L.length) (hi : i < L.getD d 0) : chgX true (eM L (memF (H ++ [(d, i)]))) (d : Int) (114 + (i : Int) * 8) = (9, eM L (memF (H ++ [(d, i)]))) := by
  rw [chg_at true (eM_at L _ d hd) hi, if_pos (memF_true.2 (by simp))]
theorem used_room {d : Nat} (hd : d < L.length) : usedX (eM L (memF H)) (d : Int) + roomX (eM L (memF H)) (d : Int) = L.getD d 0 := by
  unfold roomX usedX; rw [eM_at L _ d hd]
  have := cnt_le (L.getD d 0) (memF H d)
  dsimp only; omega
/-- how many are held of the first k members -/
def heldTo (H : List (Nat × Nat)) (k : Nat) : Nat := (H.filter fun x => decide (x.1 < k)).length
theorem cnt_held (hn : H.Nodup) (hm : Mem L H) {d : Nat} (hd : d < L.length) : cntS (L.getD d 0) (memF H d) = (H.filter fun x => decide (x.1 = d)).length := by
  have hp : ((List.range (L.getD d 0)).filter (memF H d)).Perm ((H.filter fun x => decide (x.1 = d)).map (·.2)) := by
    rw [List.perm_ext_iff_of_nodup]
    · intro j
      simp only [List.mem_filter, List.mem_range, memF_true, List.mem_map, decide_eq_true_eq]
      constructor
      · rintro ⟨_, h⟩; exact ⟨(d, j), ⟨h, rfl⟩, rfl⟩
      · rintro ⟨⟨a, b⟩, ⟨h, rfl⟩, rfl⟩; exact ⟨(hm _ h).2, h⟩
    · exact List.nodup_range.filter _
    · unfold List.Nodup
      rw [List.pairwise_map]
      refine (hn.filter (fun x => decide (x.1 = d))).imp_of_mem fun {x y} hx hy hne e => hne ?_
      simp only [List.mem_filter, decide_eq_true_eq] at hx hy
      exact Prod.ext (hx.2.trans hy.2.symm) e
  have := hp.length_eq
  rw [List.length_map] at this
  exact this
theorem heldTo_zero : heldTo H 0 = 0 := by simp [heldTo]
theorem heldTo_next (hn : H.Nodup) (hm : Mem L H) {k : Nat} (hk : k < L.length) : heldTo H (k + 1) = heldTo H k + usedX (eM L (memF H)) (k : Int) := by
  rw [used_at (eM_at L _ k hk), cnt_held hn hm hk]
  unfold heldTo
  clear hn hm
  induction H with
  | nil => rfl
  | cons x H ih =>
    simp only [List.filter_cons]
    by_cases h1 : x.1 < k
    · rw [if_pos (by simpa using (by omega : x.1 < k + 1)), if_pos (by simpa using h1), if_neg (by simpa using (by omega : ¬ x.1 = k))]
      simp only [List.length_cons]; omega
    · by_cases h2 : x.1 = k
      · rw [if_pos (by simpa using (by omega : x.1 < k + 1)), if_neg (by simpa using h1), if_pos (by simpa using h2)]
        simp only [List.length_cons]; omega
      · rw [if_neg (by simpa using (by omega : ¬ x.1 < k + 1)), if_neg (by simpa using h1), if_neg (by simpa using h2)]
        exact ih
theorem heldTo_all (hm : Mem L H) : heldTo H L.length = H.length := by
  unfold heldTo
  rw [List.filter_eq_self.2 fun x hx => by simpa using (hm x hx).1]
theorem used_le50 (hL : ∀ n ∈ L, n ≤ 500) {d : Nat} (hd : d < L.length) : usedX (eM L (memF H)) (d : Int) ≤ 500 := by
  rw [used_at (eM_at L _ d hd)]
  refine Nat.le_trans (cnt_le _ _) ?_
  rw [List.getD_eq_getElem?_getD, List.getElem?_eq_getElem hd]
  exact hL _ (List.getElem_mem hd)
end
end Go.Proofs.YtglplhmclfekfaaDoor
