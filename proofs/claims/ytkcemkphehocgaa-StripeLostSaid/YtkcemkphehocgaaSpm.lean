/- StripeLost, in plain Lean. -/
import Derived.Test.YtkcemkphehocgaaSpt
namespace Go.Proofs.Ytkcemkphehocgaa
open Go.RowKit
set_option linter.unusedVariables false
set_option linter.unusedSimpArgs false

/-- the stripe's data: the sectors of these numbers -/
def lost_D (n : Nat) (la : List Int) (tt : Nat) : List (List Int) := (List.range (n - 1)).map fun j => secN (la.getD (tt * (n - 1) + j) 0)
theorem lost_D_len (n : Nat) (la : List Int) (tt : Nat) : (lost_D n la tt).length = n - 1 := by simp [lost_D]
theorem lost_D_sec (n : Nat) (la : List Int) (tt : Nat) : ∀ s ∈ lost_D n la tt, IsSec s := fun s hs => by
  obtain ⟨j, _, rfl⟩ := List.mem_map.1 hs
  exact secN_sec _
theorem lost_D_at {n j : Nat} (la : List Int) (tt : Nat) (hj : j < n - 1) : (lost_D n la tt).getD j [] = secN (la.getD (tt * (n - 1) + j) 0) := by
  rw [← getElem_getD (by rw [lost_D_len]; exact hj)]
  simp [lost_D]
theorem lost_D_set {n : Nat} {la : List Int} {t j : Nat} (hj : j < n - 1) (hl : t * (n - 1) + j < la.length) (x : Int) (tt : Nat) : lost_D n (la.set (t * (n - 1) + j) x) tt = if tt = t then (lost_D n la t).set j (secN x) else lost_D n la tt := by
  have key : ∀ i, i < n - 1 → tt * (n - 1) + i = t * (n - 1) + j → tt = t ∧ i = j := fun i hi e => by
    have h1 : (tt * (n - 1) + i) / (n - 1) = tt := by rw [Nat.mul_comm, Nat.mul_add_div (by omega), Nat.div_eq_of_lt hi]; rfl
    have h2 : (t * (n - 1) + j) / (n - 1) = t := by rw [Nat.mul_comm, Nat.mul_add_div (by omega), Nat.div_eq_of_lt hj]; rfl
    rw [e, h2] at h1
    subst h1
    exact ⟨rfl, by omega⟩
  have hg : ∀ i, (la.set (t * (n - 1) + j) x).getD i 0 = if i = t * (n - 1) + j then x else la.getD i 0 := fun i => by
    rw [List.getD_eq_getElem?_getD, List.getD_eq_getElem?_getD]
    by_cases e : i = t * (n - 1) + j
    · subst e; rw [if_pos rfl, List.getElem?_set_self hl]; rfl
    · rw [if_neg e, List.getElem?_set_ne (Ne.symm e)]
  by_cases e : tt = t
  · subst e
    rw [if_pos rfl]
    apply List.ext_getElem
    · simp [lost_D]
    · intro i h1 h2
      rw [lost_D_len] at h1
      simp only [lost_D, List.getElem_map, List.getElem_range, List.getElem_set]
      rw [hg]
      by_cases e2 : i = j
      · subst e2; simp
      · rw [if_neg (fun h => e2 (key i h1 h).2), if_neg (Ne.symm e2)]
  · rw [if_neg e]
    unfold lost_D
    refine List.map_congr_left fun i hi => ?_
    rw [List.mem_range] at hi
    rw [hg, if_neg (fun h => e (key i hi h).1)]
theorem nodup_inj {α : Type} {l : List α} (h : l.Nodup) {i j : Nat} (hi : i < l.length) (hj : j < l.length) (e : l[i] = l[j]) : i = j := by
  rcases Nat.lt_trichotomy i j with hlt | rfl | hlt
  · exact absurd e (List.pairwise_iff_getElem.1 h i j hi hj hlt)
  · rfl
  · exact absurd e.symm (List.pairwise_iff_getElem.1 h j i hj hi hlt)
theorem order_perm : ∀ n : Nat, n < 13 → 2 ≤ n → ∀ t : Nat, t < 8 → (order13 n t).isPerm (List.range n) = true := by decide +kernel
theorem map_cont {n t : Nat} (h : 2 ≤ n) {S : List (List Int)} (hS : S.length + 1 = n) : (order13 n t).map (cont n t S) = S ++ [xorL S] := by
  apply List.ext_getElem
  · rw [List.length_map, order13_len h]; simp; omega
  · intro i h1 h2
    rw [List.length_map, order13_len h] at h1
    rw [List.getElem_map]
    by_cases e : i < n - 1
    · have h3 := order13_at t e
      rw [(List.getElem?_eq_some_iff.1 h3).2, cont_slot S e, List.getElem_append_left (by omega), ← getElem_getD]
    · have h3 : (order13 n t)[i]? = some (holdN n t) := by
        unfold order13
        rw [List.getElem?_append_right (by simp; omega)]
        have : i - ((List.range (n - 1)).map (slotK n t)).length = 0 := by simp; omega
        rw [this]; rfl
      rw [(List.getElem?_eq_some_iff.1 h3).2, cont_hold, List.getElem_append_right (by omega)]
      simp
/-- all of a stripe is nothing -/
theorem xorL_all {n t : Nat} (h : 2 ≤ n) (h12 : n ≤ 12) (ht : t < 8) {S : List (List Int)} (hS : S.length + 1 = n) (hsec : ∀ s ∈ S, IsSec s) : xorL ((List.range n).map (cont n t S)) = zeroB := by
  have hp : (order13 n t).Perm (List.range n) := List.isPerm_iff.1 (order_perm n (by omega) h t ht)
  rw [← xorL_perm (hp.map (cont n t S)), map_cont h hS, xorL_snoc, xorS_self (xorL_sec hsec).1]
theorem cont_sec {n t : Nat} {S : List (List Int)} (hS : S.length + 1 = n) (hsec : ∀ s ∈ S, IsSec s) {c : Nat} (hc : c < n) : IsSec (cont n t S c) := by
  unfold cont
  split
  · exact xorL_sec hsec
  · rename_i e
    have hh := holdN_lt (w := n) (by omega) t
    have hl : (if holdN n t < c then c - 1 else c) < S.length := by split <;> omega
    rw [← getElem_getD hl]
    exact hsec _ (List.getElem_mem hl)
theorem cont_set {n t j : Nat} {S : List (List Int)} (h : 2 ≤ n) (hj : j < n - 1) (hS : S.length + 1 = n) (x : List Int) {c : Nat} (hc : c < n) : cont n t (S.set j x) c = if c = slotK n t j then x else if c = holdN n t then xorL (S.set j x) else cont n t S c := by
  by_cases e : c = slotK n t j
  · rw [if_pos e, e, cont_slot _ hj, ← getElem_getD (by simp; omega)]; simp
  · rw [if_neg e]
    by_cases e2 : c = holdN n t
    · rw [if_pos e2, e2, cont_hold]
    · rw [if_neg e2]
      unfold cont
      rw [if_neg e2, if_neg e2]
      have hne : (if holdN n t < c then c - 1 else c) ≠ j := fun h2 => by
        apply e
        unfold slotK
        split at h2 <;> split <;> omega
      rw [List.getD_eq_getElem?_getD, List.getD_eq_getElem?_getD, List.getElem?_set_ne (Ne.symm hne)]
theorem xorL_swap {S : List (List Int)} (h : ∀ s ∈ S, IsSec s) {j : Nat} (hj : j < S.length) {x : List Int} (hx : IsSec x) : xorL (S.set j x) = xorS (xorL (S.eraseIdx j)) x ∧ xorL (S.set j x) = xorS (xorS (S.getD j []) (xorL S)) x := by
  have he : ∀ s ∈ S.eraseIdx j, IsSec s := fun s hs => h s (List.mem_of_mem_eraseIdx hs)
  have h1 : S = S.take j ++ (S[j] :: S.drop (j + 1)) := by rw [List.getElem_cons_drop, List.take_append_drop]
  have hp : S.Perm (S.eraseIdx j ++ [S[j]]) := by
    rw [List.eraseIdx_eq_take_drop_succ]
    generalize S[j] = y at h1 ⊢
    rw [List.append_assoc]
    conv => lhs; rw [h1]
    exact List.Perm.append_left _ (List.perm_append_comm (l₁ := [y]))
  have hq : (S.set j x).Perm (S.eraseIdx j ++ [x]) := by
    rw [List.eraseIdx_eq_take_drop_succ, List.set_eq_take_append_cons_drop, if_pos hj, List.append_assoc]
    exact List.Perm.append_left _ (List.perm_append_comm (l₁ := [x]))
  have e1 : xorL (S.set j x) = xorS (xorL (S.eraseIdx j)) x := by rw [xorL_perm hq, xorL_snoc]
  refine ⟨e1, ?_⟩
  rw [e1, xorL_perm hp, xorL_snoc, ← getElem_getD hj]
  congr 1
  have hy := h S[j] (List.getElem_mem hj)
  rw [xorS_comm (xorL _) S[j], ← xorS_assoc, xorS_self hy.1, xorS_comm, xorS_zero (xorL_sec he)]
section
variable {T : BankT} {n f m t : Nat}
theorem Dying.plc (h : Dying T n f m t) (h12 : n ≤ 12) {tt c : Nat} (ht : tt < 8) (hc : c < n) : T.read (c : Int) ((c : Int) + (tt : Int)) = if c = f ∧ m ≤ t then (zeroB, 7) else (T.N c (c + tt), 0) := by
  rw [show (c : Int) + (tt : Int) = ((c + tt : Nat) : Int) by omega]
  exact h.read hc (by omega)
/-- what is read at places that live -/
theorem Dying.joins (h : Dying T n f m t) (h12 : n ≤ 12) {D : Nat → List (List Int)} (hh : Holds T n f m t 8 D) {tt : Nat} (ht : tt < 8) (l : List Nat) (hl : ∀ c ∈ l, c < n ∧ ¬ (c = f ∧ m ≤ t)) (out : List Int) :
    T.joinL (l.map fun c : Nat => ((c : Int), (c : Int) + (tt : Int))) out false = ((l.map (cont n tt (D tt))).foldl xorS out, 0) := by
  rw [joinL_ok (val := fun p => cont n tt (D tt) p.1.toNat) _ _ (fun p hp => by
    obtain ⟨c, hc, rfl⟩ := List.mem_map.1 hp
    obtain ⟨h1, h2⟩ := hl c hc
    show T.read (c : Int) ((c : Int) + (tt : Int)) = _
    rw [h.plc h12 ht h1, if_neg h2, hh tt ht c h1 h2]
    rfl)]
  rw [List.map_map]
  rfl
theorem Dying.readL (h : Dying T n f m t) (h2 : 2 ≤ n) (h12 : n ≤ 12) {D : Nat → List (List Int)} (hh : Holds T n f m t 8 D) (hD : ∀ tt, (D tt).length + 1 = n ∧ ∀ s ∈ D tt, IsSec s) {tt j : Nat} (ht : tt < 8) (hj : j < n - 1) :
    T.readL (rowL n) tt (slotK n tt j) = ((D tt).getD j [], 0) := by
  have hk := slotK_lt (t := tt) hj
  obtain ⟨d1, d2⟩ := hD tt
  unfold BankT.readL
  rw [rowL_plc tt hk, h.plc h12 ht hk]
  by_cases e : slotK n tt j = f ∧ m ≤ t
  · rw [if_pos e, if_pos (show lostB 7 = true from rfl), mates_row h2 tt hj]
    rw [h.joins h12 hh ht _ (fun c hc => ?_)]
    · have hm : ((order13 n tt).eraseIdx j).map (cont n tt (D tt)) = (D tt).eraseIdx j ++ [xorL (D tt)] := by
        rw [List.eraseIdx_eq_take_drop_succ, List.map_append, List.map_take, List.map_drop, ← List.eraseIdx_eq_take_drop_succ, map_cont h2 d1, List.eraseIdx_append_of_lt_length (by omega)]
      rw [hm]
      show (xorL _, _) = _
      rw [xorL_lacks d2 (by omega)]
    · refine ⟨order13_lt h2 tt c (List.mem_of_mem_eraseIdx hc), fun e2 => ?_⟩
      obtain ⟨i, hi, hne, e3⟩ := List.mem_eraseIdx_iff_getElem.1 hc
      have h3 := order13_at tt hj
      have h4 : (order13 n tt)[i] = (order13 n tt)[j]'(by rw [order13_len h2]; omega) := by
        rw [(List.getElem?_eq_some_iff.1 h3).2, e3, e2.1, e.1]
      exact hne (nodup_inj (order13_nodup tt) hi _ h4)
  · rw [if_neg e, if_neg (show ¬ lostB 0 = true by decide), hh tt ht _ hk e, cont_slot _ hj]
theorem rest_row {n : Nat} (t k : Nat) : ∀ m, m ≤ n → restTo (rowL n) t k m = ((List.range m).filter fun c => decide (c ≠ k)).map fun c : Nat => ((c : Int), (c : Int) + (t : Int))
  | 0, _ => rfl
  | m + 1, hm => by
    rw [restTo, rest_row t k m (by omega), List.range_succ, List.filter_append, List.map_append, rowL_plc t (by omega)]
    by_cases e : m = k
    · simp [e]
    · simp [e]
/-- what the dead one had is rebuilt -/
theorem Dying.rebuilt (h : Dying T n f m t) (h2 : 2 ≤ n) (h12 : n ≤ 12) {D : Nat → List (List Int)} (hh : Holds T n f m t 8 D) (hD : ∀ tt, (D tt).length + 1 = n ∧ ∀ s ∈ D tt, IsSec s) {tt : Nat} (ht : tt < 8) (hf : f < n) :
    T.joinL (restL (rowL n) tt f) zeroB false = (xorL (((List.range n).filter fun c => decide (c ≠ f)).map (cont n tt (D tt))), 0) ∧ IsSec (xorL (((List.range n).filter fun c => decide (c ≠ f)).map (cont n tt (D tt)))) ∧
    xorL (((List.range n).filter fun c => decide (c ≠ f)).map (cont n tt (D tt)) ++ [xorL (((List.range n).filter fun c => decide (c ≠ f)).map (cont n tt (D tt)))]) = zeroB := by
  obtain ⟨d1, d2⟩ := hD tt
  have hs : IsSec (xorL (((List.range n).filter fun c => decide (c ≠ f)).map (cont n tt (D tt)))) := xorL_sec (fun s hs => by
    obtain ⟨c, hc, rfl⟩ := List.mem_map.1 hs
    exact cont_sec d1 d2 (List.mem_range.1 (List.mem_filter.1 hc).1))
  refine ⟨?_, hs, by rw [xorL_snoc, xorS_self hs.1]⟩
  unfold restL
  rw [rowL_len, rest_row tt f n (Nat.le_refl _), h.joins h12 hh ht _ (fun c hc => by
    obtain ⟨h3, h4⟩ := List.mem_filter.1 hc
    exact ⟨List.mem_range.1 h3, fun e => by simp [e.1] at h4⟩)]
  rfl
theorem data_row {n : Nat} (h : 2 ≤ n) (t : Nat) {j : Nat} (hj : j < n - 1) : dataS (rowL n) t ((slotK n t j : Nat) : Int) = (((List.range (n - 1)).map (slotK n t)).eraseIdx j).map fun c : Nat => ((c : Int), (c : Int) + (t : Int)) := by
  have h1 := dataS_skip (L := rowL n) t (j := j) (by rw [rowL_len]; exact hj)
  rw [rowL_len] at h1
  rw [h1, dataS_none (by rw [rowL_len]; omega), rowL_len]
  rw [List.eraseIdx_eq_take_drop_succ, List.eraseIdx_eq_take_drop_succ, List.map_append, ← List.map_take, ← List.map_drop, ← List.map_take, ← List.map_drop, List.map_map, List.map_map]
  have key : ∀ l : List Nat, (∀ i ∈ l, i < n - 1) → l.map (fun j => plcAt (rowL n) t (slotK n t j)) = l.map ((fun c : Nat => (((c : Int), (c : Int) + (t : Int)) : Int × Int)) ∘ slotK n t) := fun l hl => List.map_congr_left fun i hi => rowL_plc t (slotK_lt (hl i hi))
  rw [key _ (fun i hi => List.mem_range.1 (List.mem_of_mem_take hi)), key _ (fun i hi => List.mem_range.1 (List.mem_of_mem_drop hi))]
/-- the parity, if another sector stands in a slot -/
theorem Dying.plugL (h : Dying T n f m t) (h2 : 2 ≤ n) (h12 : n ≤ 12) {D : Nat → List (List Int)} (hh : Holds T n f m t 8 D) (hD : ∀ tt, (D tt).length + 1 = n ∧ ∀ s ∈ D tt, IsSec s) {tt j : Nat} (ht : tt < 8) (hj : j < n - 1) {x : List Int} (hx : IsSec x) :
    T.plugL (rowL n) tt (slotK n tt j) x = (xorL ((D tt).set j x), 0) := by
  have hk := slotK_lt (t := tt) hj
  have hhd := holdN_lt (w := n) (by omega) tt
  obtain ⟨d1, d2⟩ := hD tt
  obtain ⟨s1, s2⟩ := xorL_swap d2 (j := j) (by omega) hx
  unfold BankT.plugL
  rw [rowL_len, rowL_plc tt hk, rowL_plc tt hhd, h.plc h12 ht hk, h.plc h12 ht hhd]
  have hjoin : slotK n tt j = f ∧ m ≤ t ∨ holdN n tt = f ∧ m ≤ t → T.joinL (dataS (rowL n) tt ((slotK n tt j : Nat) : Int)) x false = (xorL ((D tt).set j x), 0) := fun hor => by
    rw [data_row h2 tt hj, h.joins h12 hh ht _ (fun c hc => ?_)]
    · have hm : (((List.range (n - 1)).map (slotK n tt)).eraseIdx j).map (cont n tt (D tt)) = (D tt).eraseIdx j := by
        have h3 : ((List.range (n - 1)).map (slotK n tt)).map (cont n tt (D tt)) = D tt := by
          apply List.ext_getElem
          · simp; omega
          · intro i h4 h5
            have h6 : i < n - 1 := by simpa using h4
            simp only [List.getElem_map, List.getElem_range]
            rw [cont_slot _ h6, ← getElem_getD h5]
        rw [List.eraseIdx_eq_take_drop_succ, List.map_append, List.map_take, List.map_drop, ← List.eraseIdx_eq_take_drop_succ, h3]
      rw [hm, s1]
      have h7 : ∀ (A : List (List Int)) (o : List Int), (∀ s ∈ A, IsSec s) → IsSec o → A.foldl xorS o = xorS (xorL A) o := by
        intro A
        induction A with
        | nil => intro o _ ho; show o = xorS zeroB o; rw [xorS_comm, xorS_zero ho]
        | cons a A ih =>
          intro o hA ho
          have ha := hA a (by simp)
          rw [List.foldl_cons, ih _ (fun s hs => hA s (by simp [hs])) (xorS_sec ho ha)]
          show _ = xorS (List.foldl xorS (xorS zeroB a) A) o
          rw [xorS_comm zeroB a, xorS_zero ha, ih a (fun s hs => hA s (by simp [hs])) ha]
          rw [xorS_comm o a, ← xorS_assoc]
      rw [h7 _ x (fun s hs => d2 s (List.mem_of_mem_eraseIdx hs)) hx]
    · obtain ⟨i, hi, hne, e3⟩ := List.mem_eraseIdx_iff_getElem.1 hc
      have hi' : i < n - 1 := by simpa using hi
      simp only [List.getElem_map, List.getElem_range] at e3
      refine ⟨by rw [← e3]; exact slotK_lt hi', fun e2 => ?_⟩
      rcases hor with hor | hor
      · exact hne (slotK_inj (e3.trans (e2.1.trans hor.1.symm)))
      · exact slotK_ne n tt i (e3.trans (e2.1.trans hor.1.symm))
  by_cases e1 : slotK n tt j = f ∧ m ≤ t
  · rw [if_pos e1, if_neg (by rintro ⟨_, h⟩; cases h)]
    have e2 : ¬ (holdN n tt = f ∧ m ≤ t) := fun e2 => slotK_ne n tt j (e1.1.trans e2.1.symm)
    rw [if_neg e2, if_neg (by rintro ⟨h, _⟩; exact h rfl), if_neg (by rintro ⟨h, _⟩; cases h)]
    exact hjoin (.inl e1)
  · rw [if_neg e1, if_neg (by rintro ⟨h, _⟩; exact h rfl)]
    by_cases e2 : holdN n tt = f ∧ m ≤ t
    · rw [if_pos e2, if_neg (by rintro ⟨_, h⟩; cases h), if_neg (by rintro ⟨_, h⟩; cases h)]
      exact hjoin (.inr e2)
    · rw [if_neg e2, if_neg (by rintro ⟨h, _⟩; exact h rfl), if_pos ⟨rfl, rfl⟩, hh tt ht _ hk e1, hh tt ht _ hhd e2, cont_slot _ hj, cont_hold, ← s2]
/-- a slot is plugged -/
theorem Dying.plug (h : Dying T n f m t) (h2 : 2 ≤ n) (h12 : n ≤ 12) {la : List Int} (hl : la.length = 8 * (n - 1)) (hh : Holds T n f m t 8 (lost_D n la)) {tt j : Nat} (ht : tt < 8) (hj : j < n - 1) (x : Int) :
    ∃ p, IsSec p ∧ T.plugL (rowL n) tt (slotK n tt j) (secN x) = (p, 0) ∧ ∃ T1 c1, T.write (slotK n tt j : Int) ((slotK n tt j : Int) + (tt : Int)) (secN x) = (T1, c1) ∧ T1.Inv ∧ T1.clock ≤ t + 1 ∧ T1.writes = (t : Int) + 1 ∧ T1.l.length = n ∧
      ∃ T2 c2, T1.write (holdN n tt : Int) ((holdN n tt : Int) + (tt : Int)) p = (T2, c2) ∧ Dying T2 n f m (t + 2) ∧ Holds T2 n f m (t + 2) 8 (lost_D n (la.set (tt * (n - 1) + j) x)) := by
  have hk := slotK_lt (t := tt) hj
  have hhd := holdN_lt (w := n) (by omega) tt
  have hx := secN_sec x
  have hD : ∀ tt, (lost_D n la tt).length + 1 = n ∧ ∀ s ∈ lost_D n la tt, IsSec s := fun tt => ⟨by rw [lost_D_len]; omega, lost_D_sec n la tt⟩
  have hset : ∀ s ∈ (lost_D n la tt).set j (secN x), IsSec s := fun s hs => by
    rcases List.mem_or_eq_of_mem_set hs with h' | h'
    · exact (hD tt).2 s h'
    · rw [h']; exact hx
  obtain ⟨T1, e1, h1, r1⟩ := h.write hk (a := slotK n tt j + tt) (by omega) hx
  obtain ⟨T2, e2, h3, r2⟩ := h1.write hhd (a := holdN n tt + tt) (by omega) (xorL_sec hset)
  have hix : tt * (n - 1) + j < la.length := by
    rw [hl]
    have : tt * (n - 1) ≤ 7 * (n - 1) := Nat.mul_le_mul_right _ (by omega)
    omega
  refine ⟨_, xorL_sec hset, h.plugL h2 h12 hh hD ht hj hx, T1, _, by rw [show (slotK n tt j : Int) + (tt : Int) = ((slotK n tt j + tt : Nat) : Int) by omega]; exact e1, h1.live.inv, by have := h1.clk; omega, by have := h1.wri; omega, h1.live.len, T2, _, by rw [show (holdN n tt : Int) + (tt : Int) = ((holdN n tt + tt : Nat) : Int) by omega]; exact e2, h3, fun t2 ht2 c hc hal => ?_⟩
  rw [r2 c hc hal _ (by omega), r1 c hc (fun e => hal ⟨e.1, by omega⟩) _ (by omega), lost_D_set hj hix]
  by_cases et : t2 = tt
  · rw [if_pos et, cont_set h2 hj (hD tt).1 _ hc]
    subst et
    by_cases ek : c = slotK n t2 j
    · rw [if_neg (fun e => slotK_ne n t2 j (ek.symm.trans e.1)), if_pos ⟨ek, by rw [ek]⟩, if_pos ek]
    · rw [if_neg ek]
      by_cases eh : c = holdN n t2
      · rw [if_pos ⟨eh, by rw [eh]⟩, if_pos eh]
      · rw [if_neg (fun e => eh e.1), if_neg (fun e => ek e.1), if_neg eh]
        exact hh t2 ht2 c hc (fun e => hal ⟨e.1, by omega⟩)
  · rw [if_neg et, if_neg (fun e => et (by omega)), if_neg (fun e => et (by omega))]
    exact hh t2 ht2 c hc (fun e => hal ⟨e.1, by omega⟩)
end
theorem Dying.start_at {n f m : Nat} (hn : n ≤ 31) (hf : f < n) (hm : m ≤ 1000) : ∃ T1, (addZ 20 n).up f { (addZ 20 n).d f with fail := max (m : Int) 0 } = T1 ∧ T1.Use ∧ (0 < m → Dying T1 n f m 0) ∧ (m = 0 → ∃ T2, T1.failC (f : Int) = (T2, 0) ∧ Dying T2 n f m 0) := by
  have h := addZ_still (z := 20) (k := n) (by decide) hn
  obtain ⟨z1, z2, z3, z4⟩ := addZ_rest 20 n
  have hl : f < (addZ 20 n).l.length := by rw [h.len]; exact hf
  have hd : ∀ c, ((addZ 20 n).up f { (addZ 20 n).d f with fail := max (m : Int) 0 }).d c = if c = f then { (addZ 20 n).d f with fail := max (m : Int) 0 } else (addZ 20 n).d c := fun c => BankT.d_up _ hl c
  have hmax : max (m : Int) 0 = m := by omega
  rw [hmax] at hd ⊢
  have hok := h.inv.ok.d hl
  have hc : (addZ 20 n).Calmer ((addZ 20 n).up f { (addZ 20 n).d f with fail := (m : Int) }) := BankT.Calmer.up hl rfl (fun _ => .inl rfl)
  have hok2 : ({ (addZ 20 n).d f with fail := (m : Int) } : Med).Ok := ⟨hok.flu, hok.new, hok.len, hok.sin, by show 0 ≤ (m : Int) ∧ (m : Int) < _; omega⟩
  have hlive : Live ((addZ 20 n).up f { (addZ 20 n).d f with fail := (m : Int) }) n 20 := ⟨⟨hc.inv h.inv (h.inv.ok.up f hok2) h.inv.wr h.inv.ar h.inv.msk, hc.len.trans h.len, fun d hd' => (hc.lens d).trans (h.sz d hd')⟩, h.up, h.arm⟩
  have hdead : ∀ c, c < n → (((addZ 20 n).up f { (addZ 20 n).d f with fail := (m : Int) }).d c).dead = false := fun c hc => by
    rw [hd]
    split
    · exact h.dead f hf
    · exact h.dead c hc
  have hfail : ∀ c, c < n → (((addZ 20 n).up f { (addZ 20 n).d f with fail := (m : Int) }).d c).fail = if c = f then (m : Int) else 0 := fun c hc => by
    rw [hd]
    by_cases e : c = f
    · rw [if_pos e, if_pos e]
    · rw [if_neg e, if_neg e]; exact h.fail c hc
  have hw : ((addZ 20 n).up f { (addZ 20 n).d f with fail := (m : Int) }).writes = 0 := z4
  have hcl : ((addZ 20 n).up f { (addZ 20 n).d f with fail := (m : Int) }).clock = 0 := z3
  generalize (addZ 20 n).up f { (addZ 20 n).d f with fail := (m : Int) } = T1 at *
  refine ⟨T1, rfl, hlive.use (by omega) (by omega) (by omega), fun h0 => ⟨hlive, fun c hc => ?_, fun c hc => ?_, by rw [hw]; rfl, by rw [hcl]; decide⟩, fun h0 => ?_⟩
  · rw [hdead c hc]
    have : ¬ m ≤ 0 := by omega
    simp [this]
  · rw [hfail c hc]; rfl
  · obtain ⟨T2, e2, l2, c2, w2, d2, f2, o2⟩ := live_fail hlive hf
    refine ⟨T2, e2, l2, fun c hc => ?_, fun c hc => ?_, by rw [w2, hw]; rfl, by rw [c2, hcl]; decide⟩
    · by_cases e : c = f
      · rw [e, d2, h0]; simp
      · rw [o2 c e, hdead c hc]; simp [e]
    · by_cases e : c = f
      · rw [e, f2, hfail f hf, h0]; try rfl
      · rw [o2 c e, hfail c hc, if_neg e, if_neg e]
theorem Holds.start (T : BankT) (n f m t : Nat) (D : Nat → List (List Int)) : Holds T n f m t 0 D := fun _ h => by omega
end Go.Proofs.Ytkcemkphehocgaa
