/- Stripes over a row of disks of which one dies: plain Lean. -/
import Derived.Test.YtglplhmclfekfaaGreatStj
import Derived.Test.YtglplhmclfekfaaGreatStq
namespace Go.Proofs.YtglplhmclfekfaaGreat
open Go.RowKit
set_option linter.unusedVariables false
set_option linter.unusedSimpArgs false

/-- the disk f dies at the m-th write; so many were counted -/
structure Dying (T : BankT) (n f m t : Nat) : Prop where
  live : Live T n 20
  dead : ∀ c, c < n → (T.d c).dead = decide (c = f ∧ m ≤ t)
  fail : ∀ c, c < n → (T.d c).fail = if c = f then ((m - t : Nat) : Int) else 0
  wri : T.writes = t
  clk : T.clock ≤ t
section
variable {T : BankT} {n f m t : Nat}
theorem Dying.tick (h : Dying T n f m t) {c : Nat} (hc : c < n) : (T.d c).tick.dead = decide (c = f ∧ m ≤ t + 1) ∧ (T.d c).tick.fail = if c = f then ((m - (t + 1) : Nat) : Int) else 0 := by
  have hd := h.dead c hc
  have hf := h.fail c hc
  constructor
  · rw [Med.tick_dead, hd, hf]
    by_cases e : c = f
    · rw [if_pos e]
      by_cases h1 : m ≤ t
      · simp [e, h1, Nat.le_succ_of_le h1]
      · by_cases h2 : m ≤ t + 1
        · have : m - t = 1 := by omega
          simp [e, h2, this]
        · have : ¬ m - t = 1 := by omega
          simp [e, h1, h2]; omega
    · simp [e]
  · rw [Med.tick_fail _ (by rw [hf]; split <;> omega), hf]
    by_cases e : c = f
    · simp only [e, if_true]
      by_cases h1 : 0 < ((m - t : Nat) : Int)
      · rw [if_pos h1]; omega
      · rw [if_neg h1]; omega
    · simp [e]
theorem Dying.write (h : Dying T n f m t) {d a : Nat} (hd : d < n) (ha : a < 20) {s : List Int} (hs : IsSec s) :
    ∃ T', T.write (d : Int) (a : Int) s = (T', if d = f ∧ m ≤ t + 1 then 7 else 0) ∧ Dying T' n f m (t + 1) ∧ ∀ c, c < n → ¬ (c = f ∧ m ≤ t + 1) → ∀ k, k < 20 → T'.N c k = if c = d ∧ k = a then s else T.N c k := by
  obtain ⟨T', e, l, c1, w1, r⟩ := h.live.write hd ha hs
  refine ⟨T', ?_, ⟨l, fun c hc => ?_, fun c hc => ?_, ?_, ?_⟩, fun c hc hal k hk => ?_⟩
  · rw [e, (h.tick hd).1]; simp
  · rw [(r c hc).1, (h.tick hc).1]
  · rw [(r c hc).2.1, (h.tick hc).2]
  · rw [w1, h.wri]; omega
  · have := h.clk; omega
  · exact ((r c hc).2.2 (by rw [(h.tick hc).1]; simpa using hal) k hk).2.1
theorem Dying.read (h : Dying T n f m t) {d a : Nat} (hd : d < n) (ha : a < 20) : T.read (d : Int) (a : Int) = if d = f ∧ m ≤ t then (zeroB, 7) else (T.N d a, 0) := by
  rw [h.live.read hd ha, h.dead d hd]; simp
theorem Dying.use (h : Dying T n f m t) (hn : n ≠ 0) (ht : t ≤ 100000) : T.Use := h.live.use hn (by have := h.clk; omega) (by have := h.wri; omega)
theorem Dying.full {tt : Nat} (htt : n + tt ≤ 20) : ∀ (l : List (Nat × List Int)) {T : BankT} {t : Nat} (h : Dying T n f m t) (hl : ∀ x ∈ l, x.1 < n ∧ IsSec x.2) (hn : (l.map (·.1)).Nodup) {gone : Nat} (hg : gone + (if f ∈ l.map (·.1) then 1 else 0) ≤ 1),
    ∃ T', T.fullL (l.map fun x => (((x.1 : Int), (x.1 : Int) + (tt : Int)), x.2)) gone = (T', 0) ∧ Dying T' n f m (t + l.length) ∧ ∀ c, c < n → ¬ (c = f ∧ m ≤ t + l.length) → ∀ k, k < 20 → T'.N c k = if k = c + tt then (l.lookup c).getD (T.N c k) else T.N c k
  | [], T, t, h, _, _, gone, hg => ⟨T, by simp only [List.map_nil]; unfold BankT.fullL; rw [if_neg (by have := hg; omega)], h, fun c hc hal k hk => by simp⟩
  | ((d, s) :: l), T, t, h, hl, hn, gone, hg => by
    obtain ⟨hd, hs⟩ := hl (d, s) (by simp)
    have hd' : d < n := hd
    have hs' : IsSec s := hs
    obtain ⟨T1, e1, h1, r1⟩ := h.write hd' (a := d + tt) (by omega) hs'
    have hda : ((d : Int) + (tt : Int)) = ((d + tt : Nat) : Int) := by omega
    have hn1 : d ∉ l.map (·.1) := (List.nodup_cons.1 hn).1
    have hn2 : (l.map (·.1)).Nodup := (List.nodup_cons.1 hn).2
    have key : ∀ gone', gone' + (if f ∈ l.map (·.1) then 1 else 0) ≤ 1 → T.fullL ((((d, s) :: l).map fun x => (((x.1 : Int), (x.1 : Int) + (tt : Int)), x.2))) gone = T1.fullL (l.map fun x => (((x.1 : Int), (x.1 : Int) + (tt : Int)), x.2)) gone' → ∃ T', T.fullL ((((d, s) :: l).map fun x => (((x.1 : Int), (x.1 : Int) + (tt : Int)), x.2))) gone = (T', 0) ∧ Dying T' n f m (t + (l.length + 1)) ∧ ∀ c, c < n → ¬ (c = f ∧ m ≤ t + (l.length + 1)) → ∀ k, k < 20 → T'.N c k = if k = c + tt then ((((d, s) :: l).lookup c).getD (T.N c k)) else T.N c k := by
      intro gone' hg' he
      obtain ⟨T2, e2, h2, r2⟩ := Dying.full htt l h1 (fun x hx => hl x (by simp [hx])) hn2 hg'
      refine ⟨T2, by rw [he, e2], by rw [show t + (l.length + 1) = t + 1 + l.length by omega]; exact h2, fun c hc hal k hk => ?_⟩
      rw [r2 c hc (by rw [show t + 1 + l.length = t + (l.length + 1) by omega]; exact hal) k hk, r1 c hc (fun hh => hal ⟨hh.1, by omega⟩) k hk]
      by_cases ek : k = c + tt
      · rw [if_pos ek, if_pos ek]
        by_cases ec : c = d
        · have hlk : l.lookup c = none := by
            rw [List.lookup_eq_none_iff]
            intro x hx
            rw [bne_iff_ne]
            intro e'
            exact hn1 (by rw [← ec, e']; exact List.mem_map_of_mem hx)
          have hlc : ((d, s) :: l).lookup c = some s := by rw [ec]; simp [List.lookup]
          rw [if_pos ⟨ec, by rw [ek, ec]⟩, hlk, hlc]; rfl
        · have hlc : ((d, s) :: l).lookup c = l.lookup c := by
            rw [List.lookup_cons, beq_eq_false_iff_ne.2 ec]
          rw [if_neg (fun hh => ec hh.1), hlc]
      · rw [if_neg ek, if_neg ek, if_neg (fun hh => ek (by rw [hh.2, hh.1]))]
    have hfull : T.fullL ((((d, s) :: l).map fun x => (((x.1 : Int), (x.1 : Int) + (tt : Int)), x.2))) gone = if lostB (if d = f ∧ m ≤ t + 1 then (7 : Int) else 0) then T1.fullL (l.map fun x => (((x.1 : Int), (x.1 : Int) + (tt : Int)), x.2)) (gone + 1) else if (if d = f ∧ m ≤ t + 1 then (7 : Int) else 0) ≠ 0 then (T1, (if d = f ∧ m ≤ t + 1 then (7 : Int) else 0)) else T1.fullL (l.map fun x => (((x.1 : Int), (x.1 : Int) + (tt : Int)), x.2)) gone := by
      rw [List.map_cons, BankT.fullL]
      simp only [hda, e1]
    by_cases hdf : d = f ∧ m ≤ t + 1
    · rw [if_pos hdf] at hfull
      have hff : f ∉ l.map (·.1) := by rw [← hdf.1]; exact hn1
      refine key (gone + 1) ?_ ?_
      · rw [if_neg hff]
        have : f ∈ ((d, s) :: l).map (·.1) := by simp [hdf.1]
        rw [if_pos this] at hg
        omega
      · rw [hfull]; rfl
    · rw [if_neg hdf] at hfull
      refine key gone ?_ ?_
      · by_cases hff : f ∈ l.map (·.1)
        · have : f ∈ ((d, s) :: l).map (·.1) := by rw [List.map_cons]; exact List.mem_cons_of_mem _ hff
          rw [if_pos hff]; rw [if_pos this] at hg; exact hg
        · rw [if_neg hff]; split at hg <;> omega
      · rw [hfull]; rfl
end
/-- what a stripe's sector is on a disk -/
def cont (n tt : Nat) (S : List (List Int)) (c : Nat) : List Int := if c = holdN n tt then xorL S else S.getD (if holdN n tt < c then c - 1 else c) []
theorem rowL_plc {n k : Nat} (t : Nat) (hk : k < n) : plcAt (rowL n) t k = ((k : Int), (k : Int) + (t : Int)) := by
  unfold plcAt
  have : (rowL n).getD k (0, 0) = ((k : Int), (k : Int)) := by
    rw [List.getD_eq_getElem?_getD, rowL, List.getElem?_map, List.getElem?_range hk]; rfl
  rw [this]
/-- the disks of a stripe, its parity's last -/
def order13 (n t : Nat) : List Nat := (List.range (n - 1)).map (slotK n t) ++ [holdN n t]
theorem order13_len {n : Nat} (h : 2 ≤ n) (t : Nat) : (order13 n t).length = n := by simp [order13]; omega
theorem order13_lt {n : Nat} (h : 2 ≤ n) (t : Nat) : ∀ c ∈ order13 n t, c < n := by
  intro c hc
  simp only [order13, List.mem_append, List.mem_map, List.mem_range, List.mem_singleton] at hc
  rcases hc with ⟨j, hj, rfl⟩ | rfl
  · exact slotK_lt hj
  · exact holdN_lt (by omega) t
theorem slotK_inj {n t i j : Nat} (h : slotK n t i = slotK n t j) : i = j := by unfold slotK at h; split at h <;> split at h <;> omega
theorem order13_nodup {n : Nat} (t : Nat) : (order13 n t).Nodup := by
  unfold order13
  rw [List.nodup_append]
  refine ⟨?_, by simp, ?_⟩
  · exact List.Pairwise.map _ (fun a b hab hh => hab (slotK_inj hh)) List.nodup_range
  · intro a ha b hb e
    simp only [List.mem_map, List.mem_range] at ha
    obtain ⟨j, hj, rfl⟩ := ha
    rw [List.mem_singleton] at hb
    exact slotK_ne n t j (e.trans hb)
theorem places_row {n : Nat} (h : 2 ≤ n) (t : Nat) : dataS (rowL n) t (-1) ++ [plcAt (rowL n) t (holdN (rowL n).length t)] = (order13 n t).map fun c : Nat => ((c : Int), (c : Int) + (t : Int)) := by
  rw [dataS_none (by rw [rowL_len]; omega), rowL_len, rowL_plc t (holdN_lt (by omega) t)]
  unfold order13
  rw [List.map_append, List.map_map]
  congr 1
  refine List.map_congr_left fun j hj => ?_
  rw [List.mem_range] at hj
  exact rowL_plc t (slotK_lt hj)
theorem lookup_zip : ∀ (A : List Nat) (B : List (List Int)) (i : Nat) (hA : A.Nodup) (hl : A.length = B.length) (hi : i < A.length), (A.zip B).lookup A[i] = some (B[i]'(hl ▸ hi))
  | a :: A, b :: B, 0, _, _, _ => by simp
  | a :: A, b :: B, i + 1, hA, hl, hi => by
    have hi' : i < A.length := by simpa using hi
    have := lookup_zip A B i (List.nodup_cons.1 hA).2 (by simpa using hl) hi'
    have hne : A[i] ≠ a := fun e => (List.nodup_cons.1 hA).1 (e ▸ List.getElem_mem hi')
    simp only [List.zip_cons_cons, List.getElem_cons_succ, List.lookup_cons]
    rw [beq_eq_false_iff_ne.2 hne]
    exact this
theorem map_fst_zip' : ∀ (A : List Nat) (B : List (List Int)), A.length = B.length → (A.zip B).map (·.1) = A
  | [], _, _ => rfl
  | a :: A, b :: B, h => by simp only [List.zip_cons_cons, List.map_cons]; rw [map_fst_zip' A B (by simpa using h)]
theorem zip_map_fst (t : Nat) : ∀ (A : List Nat) (B : List (List Int)), (A.map fun c : Nat => (((c : Int), (c : Int) + (t : Int)) : Int × Int)).zip B = (A.zip B).map fun x => (((x.1 : Int), (x.1 : Int) + (t : Int)), x.2)
  | [], _ => rfl
  | a :: A, [] => rfl
  | a :: A, b :: B => by simp only [List.map_cons, List.zip_cons_cons]; rw [zip_map_fst t A B]
theorem lookup_cont {n tt : Nat} (h : 2 ≤ n) {S : List (List Int)} (hS : S.length + 1 = n) {c : Nat} (hc : c < n) : ((order13 n tt).zip (S ++ [xorL S])).lookup c = some (cont n tt S c) := by
  have hlen : (order13 n tt).length = (S ++ [xorL S]).length := by rw [order13_len h]; simp; omega
  have hol := order13_len h tt
  by_cases e : c = holdN n tt
  · have hi : n - 1 < (order13 n tt).length := by omega
    have h1 := lookup_zip (order13 n tt) (S ++ [xorL S]) (n - 1) (order13_nodup tt) hlen hi
    have h2' : (order13 n tt)[n - 1]? = some (holdN n tt) := by
      unfold order13
      rw [List.getElem?_append_right (by simp)]
      simp
    have h2 : (order13 n tt)[n - 1] = holdN n tt := (List.getElem?_eq_some_iff.1 h2').2
    have h3 : (S ++ [xorL S])[n - 1]'(hlen ▸ hi) = xorL S := by
      rw [List.getElem_append_right (by omega)]
      simp
    rw [h2, h3] at h1
    rw [e, h1]
    unfold cont
    rw [if_pos rfl]
  · obtain ⟨j, hj, hk⟩ : ∃ j, j < n - 1 ∧ slotK n tt j = c := by
      refine ⟨if holdN n tt < c then c - 1 else c, ?_, ?_⟩
      · have := holdN_lt (w := n) (by omega) tt
        split <;> omega
      · unfold slotK; split <;> split <;> omega
    have hi : j < (order13 n tt).length := by omega
    have h1 := lookup_zip (order13 n tt) (S ++ [xorL S]) j (order13_nodup tt) hlen hi
    have h2' : (order13 n tt)[j]? = some c := by
      unfold order13
      rw [List.getElem?_append_left (by simpa using hj), List.getElem?_map, List.getElem?_range hj]
      simpa using hk
    have h2 : (order13 n tt)[j] = c := (List.getElem?_eq_some_iff.1 h2').2
    have h3 : (S ++ [xorL S])[j]'(hlen ▸ hi) = S[j]'(by omega) := List.getElem_append_left (by omega)
    rw [h2, h3] at h1
    rw [h1]
    unfold cont
    rw [if_neg e]
    have : (if holdN n tt < c then c - 1 else c) = j := by
      rw [← hk]; unfold slotK; split <;> split <;> omega
    rw [this, List.getD_eq_getElem?_getD, List.getElem?_eq_getElem (by omega)]; rfl
theorem cont_slot {n tt j : Nat} (S : List (List Int)) (hj : j < n - 1) : cont n tt S (slotK n tt j) = S.getD j [] := by
  unfold cont
  rw [if_neg (slotK_ne n tt j)]
  congr 1
  unfold slotK; split <;> split <;> omega
theorem cont_hold {n tt : Nat} (S : List (List Int)) : cont n tt S (holdN n tt) = xorL S := by unfold cont; rw [if_pos rfl]
theorem Dying.row {T : BankT} {n f m t tt : Nat} (h : Dying T n f m t) (h2 : 2 ≤ n) (h12 : n ≤ 12) (htt : tt < 8) {S : List (List Int)} (hS : S.length + 1 = n) (hsec : ∀ s ∈ S, IsSec s) :
    ∃ T', T.fullL ((dataS (rowL n) tt (-1) ++ [plcAt (rowL n) tt (holdN (rowL n).length tt)]).zip (S ++ [xorL S])) 0 = (T', 0) ∧ Dying T' n f m (t + n) ∧ ∀ c, c < n → ¬ (c = f ∧ m ≤ t + n) → ∀ k, k < 20 → T'.N c k = if k = c + tt then cont n tt S c else T.N c k := by
  have hol := order13_len h2 tt
  have hll : (order13 n tt).length = (S ++ [xorL S]).length := by rw [hol]; simp; omega
  have hz : ((order13 n tt).zip (S ++ [xorL S])).length = n := by rw [List.length_zip, ← hll, Nat.min_self, hol]
  have hmf := map_fst_zip' (order13 n tt) (S ++ [xorL S]) hll
  obtain ⟨T', e, h', r⟩ := Dying.full (tt := tt) (by omega) ((order13 n tt).zip (S ++ [xorL S])) h (fun x hx => by
    refine ⟨order13_lt h2 tt x.1 (List.of_mem_zip hx).1, ?_⟩
    have hx2 := (List.of_mem_zip hx).2
    rw [List.mem_append, List.mem_singleton] at hx2
    rcases hx2 with hx2 | hx2
    · exact hsec _ hx2
    · rw [hx2]; exact xorL_sec hsec) (by rw [hmf]; exact order13_nodup tt) (gone := 0) (by split <;> omega)
  rw [hz] at h' r
  refine ⟨T', by rw [places_row h2, zip_map_fst]; exact e, h', fun c hc hal k hk => ?_⟩
  rw [r c hc hal k hk, lookup_cont h2 hS hc]
  rfl
/-- the stripes below s hold D -/
def Holds (T : BankT) (n f m t s : Nat) (D : Nat → List (List Int)) : Prop := ∀ tt, tt < s → ∀ c, c < n → ¬ (c = f ∧ m ≤ t) → T.N c (c + tt) = cont n tt (D tt) c
theorem Holds.row {T T' : BankT} {n f m t s : Nat} {D : Nat → List (List Int)} (h : Holds T n f m t s D) (hn : n ≤ 12) (hs : s < 8) (r : ∀ c, c < n → ¬ (c = f ∧ m ≤ t + n) → ∀ k, k < 20 → T'.N c k = if k = c + s then cont n s (D s) c else T.N c k) : Holds T' n f m (t + n) (s + 1) D := by
  intro tt htt c hc hal
  rw [r c hc hal (c + tt) (by omega)]
  by_cases e : tt = s
  · subst e; rw [if_pos rfl]
  · rw [if_neg (by omega)]
    exact h tt (by omega) c hc (fun hh => hal ⟨hh.1, by omega⟩)
theorem xorS_right (a b c : List Int) : xorS (xorS a b) c = xorS (xorS a c) b := by rw [xorS_assoc, xorS_comm b c, ← xorS_assoc]
theorem xorL_perm {A B : List (List Int)} (h : A.Perm B) : xorL A = xorL B := by
  unfold xorL
  exact h.foldl_eq' (fun x _ y _ z => xorS_right z x y) _
theorem getElem_getD {α : Type} {l : List α} {i : Nat} (h : i < l.length) (d : α) : l[i] = l.getD i d := by rw [List.getD_eq_getElem?_getD, List.getElem?_eq_getElem h]; rfl
/-- the sector that lacks is the exclusive or of all others -/
theorem xorL_lacks {S : List (List Int)} (h : ∀ s ∈ S, IsSec s) {j : Nat} (hj : j < S.length) : xorL (S.eraseIdx j ++ [xorL S]) = S.getD j [] := by
  have hm := h S[j] (List.getElem_mem hj)
  have hp : S.Perm (S.eraseIdx j ++ [S[j]]) := by
    have h1 : S = S.take j ++ (S[j] :: S.drop (j + 1)) := by rw [List.getElem_cons_drop, List.take_append_drop]
    rw [List.eraseIdx_eq_take_drop_succ]
    generalize S[j] = x at h1 ⊢
    rw [List.append_assoc]
    conv => lhs; rw [h1]
    exact List.Perm.append_left _ (List.perm_append_comm (l₁ := [x]))
  have he : ∀ s ∈ S.eraseIdx j, IsSec s := fun s hs => h s (List.mem_of_mem_eraseIdx hs)
  have hA := xorL_sec he
  rw [xorL_snoc, xorL_perm hp, xorL_snoc, ← getElem_getD hj]
  rw [← xorS_assoc, xorS_self hA.1, xorS_comm, xorS_zero hm]
theorem joinL_ok {T : BankT} {val : Int × Int → List Int} : ∀ (l : List (Int × Int)) (out : List Int), (∀ p ∈ l, T.read p.1 p.2 = (val p, 0)) → T.joinL l out false = ((l.map val).foldl xorS out, 0)
  | [], out, _ => by unfold BankT.joinL; simp
  | p :: l, out, h => by
    unfold BankT.joinL
    rw [h p (by simp)]
    simp only [show lostB 0 = false from rfl, Bool.false_eq_true, if_false, ne_eq, not_true_eq_false]
    rw [joinL_ok l _ (fun q hq => h q (by simp [hq]))]
    simp
theorem joinL_lost {T : BankT} : ∀ (l : List (Int × Int)) (out : List Int) (fl : Bool), (∀ p ∈ l, (T.read p.1 p.2).2 = 0 ∨ lostB (T.read p.1 p.2).2 = true) → (fl = true ∨ ∃ p ∈ l, lostB (T.read p.1 p.2).2 = true) → T.joinL l out fl = (zeroB, 5)
  | [], out, fl, _, h => by
    rcases h with h | ⟨p, hp, _⟩
    · unfold BankT.joinL; rw [h]; rfl
    · cases hp
  | p :: l, out, fl, h, hx => by
    unfold BankT.joinL
    by_cases e : lostB (T.read p.1 p.2).2 = true
    · rw [if_pos e]; exact joinL_lost l _ _ (fun q hq => h q (by simp [hq])) (.inl rfl)
    · have h0 := (h p (by simp)).resolve_right e
      rw [if_neg e, if_neg (by simpa using h0)]
      refine joinL_lost l _ _ (fun q hq => h q (by simp [hq])) ?_
      rcases hx with hx | ⟨q, hq, hq2⟩
      · exact .inl hx
      · rcases List.mem_cons.1 hq with rfl | hq
        · exact absurd hq2 e
        · exact .inr ⟨q, hq, hq2⟩
theorem live_fail {T : BankT} {n z : Nat} (h : Live T n z) {d : Nat} (hd : d < n) : ∃ T', T.failC (d : Int) = (T', 0) ∧ Live T' n z ∧ T'.clock = T.clock ∧ T'.writes = T.writes ∧ (T'.d d).dead = true ∧ (T'.d d).fail = (T.d d).fail ∧ ∀ c, c ≠ d → T'.d c = T.d c := by
  have hl : d < T.l.length := by rw [h.len]; exact hd
  have hD : ∀ c, (T.fell d).d c = if c = d then (T.d d).kill.settleTo false (T.d d).sin.length else T.d c := fun c => BankT.d_up _ hl c
  refine ⟨T.fell d, ?_, ⟨⟨h.inv.fell hl, (BankT.up_len _ _ _).trans h.len, fun c hc => ?_⟩, h.up, h.arm⟩, rfl, rfl, ?_, ?_, fun c hc => ?_⟩
  · unfold BankT.failC; rw [if_neg (by rw [h.len]; omega), Int.toNat_natCast]
  · rw [hD]
    split
    · rw [Med.settleTo_len]; exact h.sz d hd
    · exact h.sz c hc
  · rw [hD, if_pos rfl, Med.settleTo_dead]; rfl
  · rw [hD, if_pos rfl, Med.settleTo_fail]; rfl
  · rw [hD, if_neg hc]
end Go.Proofs.YtglplhmclfekfaaGreat
