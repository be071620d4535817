/- StripeTwo, in plain Lean. -/
import Derived.Test.YtkcemkphehocgaaSpl
namespace Go.Proofs.Ytkcemkphehocgaa
open Go.RowKit
set_option linter.unusedVariables false
set_option linter.unusedSimpArgs false

/-- two disks are dead, none fails any more -/
structure Two (T : BankT) (n x y : Nat) : Prop where
  live : Live T n 20
  dead : ∀ c, c < n → (T.d c).dead = decide (c = x ∨ c = y)
  fail : ∀ c, c < n → (T.d c).fail = 0
section
variable {T : BankT} {n x y : Nat}
theorem Two.read (h : Two T n x y) {d a : Nat} (hd : d < n) (ha : a < 20) : T.read (d : Int) (a : Int) = if d = x ∨ d = y then (zeroB, 7) else (T.N d a, 0) := by
  rw [h.live.read hd ha, h.dead d hd]; simp
theorem Two.write (h : Two T n x y) {d a : Nat} (hd : d < n) (ha : a < 20) {s : List Int} (hs : IsSec s) : ∃ T', T.write (d : Int) (a : Int) s = (T', if d = x ∨ d = y then 7 else 0) ∧ Two T' n x y := by
  have tk : ∀ c, c < n → (T.d c).tick = T.d c := fun c hc => by unfold Med.tick; rw [h.fail c hc]; rfl
  obtain ⟨T', e, l, _, _, r⟩ := h.live.write hd ha hs
  refine ⟨T', by rw [e, tk d hd, h.dead d hd]; simp, l, fun c hc => ?_, fun c hc => ?_⟩
  · rw [(r c hc).1, tk c hc]; exact h.dead c hc
  · rw [(r c hc).2.1, tk c hc]; exact h.fail c hc
theorem Two.full {tt : Nat} (htt : n + tt ≤ 20) : ∀ (l : List (Nat × List Int)) {T : BankT} (h : Two T n x y) (hl : ∀ z ∈ l, z.1 < n ∧ IsSec z.2) (gone : Nat),
    (T.fullL (l.map fun z => (((z.1 : Int), (z.1 : Int) + (tt : Int)), z.2)) gone).2 = if 1 < gone + (l.filter fun z => decide (z.1 = x ∨ z.1 = y)).length then 5 else 0
  | [], T, h, _, gone => by simp [BankT.fullL]
  | ((d, s) :: l), T, h, hl, gone => by
    obtain ⟨hd, hs⟩ := hl (d, s) (by simp)
    have hd' : d < n := hd
    obtain ⟨T1, e1, h1⟩ := h.write hd' (a := d + tt) (by omega) (show IsSec s from hs)
    have hda : ((d : Int) + (tt : Int)) = ((d + tt : Nat) : Int) := by omega
    rw [List.map_cons, BankT.fullL]
    simp only [hda, e1]
    by_cases e : d = x ∨ d = y
    · rw [if_pos e, if_pos (show lostB 7 = true from rfl), Two.full htt l h1 (fun z hz => hl z (by simp [hz]))]
      rw [List.filter_cons_of_pos (by simpa using e), List.length_cons]
      congr 1
      simp only [eq_iff_iff]; omega
    · rw [if_neg e, if_neg (show ¬ lostB 0 = true by decide), if_neg (by decide), Two.full htt l h1 (fun z hz => hl z (by simp [hz]))]
      rw [List.filter_cons_of_neg (by simpa using e)]
theorem two_mem {α : Type} {l : List α} {a b : α} (ha : a ∈ l) (hb : b ∈ l) (h : a ≠ b) : 1 < l.length := by
  rcases l with _ | ⟨c, _ | ⟨d, l⟩⟩
  · cases ha
  · simp only [List.mem_singleton] at ha hb; exact absurd (ha.trans hb.symm) h
  · simp
theorem mem_order13 {n : Nat} (t : Nat) {c : Nat} (hc : c < n) : c ∈ order13 n t := by
  unfold order13
  rw [List.mem_append, List.mem_map, List.mem_singleton]
  by_cases e : c = holdN n t
  · exact .inr e
  · refine .inl ⟨if holdN n t < c then c - 1 else c, ?_, ?_⟩
    · rw [List.mem_range]
      have := holdN_lt (w := n) (by omega) t
      split <;> omega
    · unfold slotK; split <;> split <;> omega
theorem mates_row {n : Nat} (h : 2 ≤ n) (t : Nat) {j : Nat} (hj : j < n - 1) : matesL (rowL n) t (slotK n t j) = ((order13 n t).eraseIdx j).map fun c : Nat => ((c : Int), (c : Int) + (t : Int)) := by
  unfold matesL
  have h1 := dataS_skip (L := rowL n) t (j := j) (by rw [rowL_len]; exact hj)
  rw [rowL_len] at h1
  rw [h1]
  have h2 := places_row h t
  have hl : (dataS (rowL n) t (-1)).length = n - 1 := by rw [dataS_len (by rw [rowL_len]; omega), rowL_len]
  have h3 : (dataS (rowL n) t (-1) ++ [plcAt (rowL n) t (holdN (rowL n).length t)]).eraseIdx j = (dataS (rowL n) t (-1)).eraseIdx j ++ [plcAt (rowL n) t (holdN (rowL n).length t)] := List.eraseIdx_append_of_lt_length (by rw [hl]; exact hj) _
  rw [← h3, h2]
  rw [List.eraseIdx_eq_take_drop_succ, List.eraseIdx_eq_take_drop_succ, List.map_append, List.map_take, List.map_drop]
theorem order13_at {n : Nat} (t : Nat) {j : Nat} (hj : j < n - 1) : (order13 n t)[j]? = some (slotK n t j) := by
  unfold order13
  rw [List.getElem?_append_left (by simpa using hj), List.getElem?_map, List.getElem?_range hj]; rfl
theorem mem_erase13 {n : Nat} (h : 2 ≤ n) (t : Nat) {j c : Nat} (hj : j < n - 1) (hc : c < n) (hne : c ≠ slotK n t j) : c ∈ (order13 n t).eraseIdx j := by
  obtain ⟨i, hi, e⟩ := List.getElem_of_mem (mem_order13 t hc)
  rw [List.mem_eraseIdx_iff_getElem]
  refine ⟨i, hi, fun e2 => ?_, e⟩
  subst e2
  have := order13_at t hj
  rw [List.getElem?_eq_getElem hi] at this
  injection this with this
  exact hne (e.symm.trans this)
theorem Two.plc (h : Two T n x y) (h12 : n ≤ 12) {t c : Nat} (ht : t < 8) (hc : c < n) : T.read (c : Int) ((c : Int) + (t : Int)) = if c = x ∨ c = y then (zeroB, 7) else (T.N c (c + t), 0) := by
  rw [show (c : Int) + (t : Int) = ((c + t : Nat) : Int) by omega]
  exact h.read hc (by omega)
theorem Two.codes (h : Two T n x y) (h12 : n ≤ 12) {t c : Nat} (ht : t < 8) (hc : c < n) : (T.read (c : Int) ((c : Int) + (t : Int))).2 = 0 ∨ lostB (T.read (c : Int) ((c : Int) + (t : Int))).2 = true := by
  rw [h.plc h12 ht hc]
  split
  · exact .inr rfl
  · exact .inl rfl
theorem Two.readL (h : Two T n x y) (h2 : 2 ≤ n) (h12 : n ≤ 12) (hx : x < n) (hy : y < n) (hxy : x ≠ y) {t j : Nat} (ht : t < 8) (hj : j < n - 1) :
    T.readL (rowL n) t (slotK n t j) = if slotK n t j = x ∨ slotK n t j = y then (zeroB, 5) else (T.N (slotK n t j) (slotK n t j + t), 0) := by
  have hk := slotK_lt (t := t) hj
  unfold BankT.readL
  rw [rowL_plc t hk, h.plc h12 ht hk]
  by_cases e : slotK n t j = x ∨ slotK n t j = y
  · rw [if_pos e, if_pos e, if_pos (show lostB 7 = true from rfl), mates_row h2 t hj]
    refine joinL_lost _ _ _ (fun p hp => ?_) (.inr ?_)
    · obtain ⟨c, hc, rfl⟩ := List.mem_map.1 hp
      exact h.codes h12 ht (order13_lt h2 t c (List.mem_of_mem_eraseIdx hc))
    · obtain ⟨c, hc, hne, hd⟩ : ∃ c, c < n ∧ c ≠ slotK n t j ∧ (c = x ∨ c = y) := by
        rcases e with e | e
        · exact ⟨y, hy, by omega, .inr rfl⟩
        · exact ⟨x, hx, by omega, .inl rfl⟩
      refine ⟨_, List.mem_map_of_mem (mem_erase13 h2 t hj hc hne), ?_⟩
      show lostB (T.read (c : Int) ((c : Int) + (t : Int))).2 = true
      rw [h.plc h12 ht hc, if_pos hd]; rfl
  · rw [if_neg e, if_neg e, if_neg (show ¬ lostB 0 = true by decide)]
theorem restTo_mem {n : Nat} (t k : Nat) : ∀ m, m ≤ n → (∀ p ∈ restTo (rowL n) t k m, ∃ c, c < m ∧ p = ((c : Int), (c : Int) + (t : Int))) ∧ ∀ c, c < m → c ≠ k → ((c : Int), (c : Int) + (t : Int)) ∈ restTo (rowL n) t k m
  | 0, _ => ⟨fun p hp => by simp [restTo] at hp, fun c hc => by omega⟩
  | m + 1, hm => by
    obtain ⟨i1, i2⟩ := restTo_mem (n := n) t k m (by omega)
    by_cases e : m ≠ k
    · rw [restTo, if_pos e, rowL_plc t (by omega)]
      refine ⟨fun p hp => ?_, fun c hc hne => ?_⟩
      · rw [List.mem_append, List.mem_singleton] at hp
        rcases hp with hp | rfl
        · obtain ⟨c, hc, e2⟩ := i1 p hp; exact ⟨c, by omega, e2⟩
        · exact ⟨m, by omega, rfl⟩
      · rw [List.mem_append, List.mem_singleton]
        by_cases e2 : c = m
        · exact .inr (by rw [e2])
        · exact .inl (i2 c (by omega) hne)
    · rw [restTo, if_neg e]
      refine ⟨fun p hp => by obtain ⟨c, hc, e2⟩ := i1 p hp; exact ⟨c, by omega, e2⟩, fun c hc hne => i2 c (by omega) hne⟩
theorem Two.rebuilt (h : Two T n x y) (h12 : n ≤ 12) (hx : x < n) (hy : y < n) (hxy : x ≠ y) {t : Nat} (ht : t < 8) : T.joinL (restL (rowL n) t x) zeroB false = (zeroB, 5) := by
  unfold restL
  rw [rowL_len]
  obtain ⟨i1, i2⟩ := restTo_mem (n := n) t x n (Nat.le_refl _)
  refine joinL_lost _ _ _ (fun p hp => ?_) (.inr ⟨_, i2 y hy (Ne.symm hxy), ?_⟩)
  · obtain ⟨c, hc, rfl⟩ := i1 p hp
    exact h.codes h12 ht hc
  · show lostB (T.read (y : Int) ((y : Int) + (t : Int))).2 = true
    rw [h.plc h12 ht hy, if_pos (.inr rfl)]; rfl
theorem Two.fullL (h : Two T n x y) (h2 : 2 ≤ n) (h12 : n ≤ 12) (hx : x < n) (hy : y < n) (hxy : x ≠ y) {t : Nat} (ht : t < 8) {S : List (List Int)} (hS : S.length + 1 = n) (hsec : ∀ s ∈ S, IsSec s) :
    (T.fullL ((dataS (rowL n) t (-1) ++ [plcAt (rowL n) t (holdN (rowL n).length t)]).zip (S ++ [xorL S])) 0).2 = 5 := by
  have hol := order13_len h2 t
  have hll : (order13 n t).length = (S ++ [xorL S]).length := by rw [hol]; simp; omega
  have hmf := map_fst_zip' (order13 n t) (S ++ [xorL S]) hll
  rw [places_row h2, zip_map_fst, Two.full (by omega) _ h (fun z hz => by
    refine ⟨order13_lt h2 t z.1 (List.of_mem_zip hz).1, ?_⟩
    have hz2 := (List.of_mem_zip hz).2
    rw [List.mem_append, List.mem_singleton] at hz2
    rcases hz2 with hz2 | hz2
    · exact hsec _ hz2
    · rw [hz2]; exact xorL_sec hsec)]
  have hm : ∀ c, c < n → ∃ s, (c, s) ∈ (order13 n t).zip (S ++ [xorL S]) := fun c hc => by
    have := mem_order13 t hc
    rw [← hmf] at this
    obtain ⟨z, hz, e⟩ := List.mem_map.1 this
    exact ⟨z.2, by rw [← e]; exact hz⟩
  obtain ⟨sx, mx⟩ := hm x hx
  obtain ⟨sy, my⟩ := hm y hy
  have h1 := two_mem (l := ((order13 n t).zip (S ++ [xorL S])).filter fun z => decide (z.1 = x ∨ z.1 = y)) (List.mem_filter.2 ⟨mx, by simp⟩) (List.mem_filter.2 ⟨my, by simp⟩) (fun e => hxy (congrArg Prod.fst e))
  rw [if_pos (by omega)]
end
/-- the numbers that are written -/
def two_D (n tt : Nat) : List (List Int) := (List.range (n - 1)).map fun j => secN ((tt * (n - 1) + j + 1 : Nat) : Int)
theorem two_D_len (n tt : Nat) : (two_D n tt).length = n - 1 := by simp [two_D]
theorem two_D_sec (n tt : Nat) : ∀ s ∈ two_D n tt, IsSec s := fun s hs => by
  obtain ⟨j, _, rfl⟩ := List.mem_map.1 hs
  exact secN_sec _
theorem Dying.start {n : Nat} (hn : n ≤ 31) : Dying (addZ 20 n) n n 0 0 := by
  have h := addZ_still (z := 20) (k := n) (by decide) hn
  refine ⟨h.live, fun c hc => ?_, fun c hc => ?_, ?_, ?_⟩
  · rw [h.dead c hc]; simp; omega
  · rw [h.fail c hc, if_neg (by omega)]
  · rw [(addZ_rest 20 n).2.2.2]; rfl
  · rw [(addZ_rest 20 n).2.2.1]; decide
theorem two_start {T : BankT} {n x y t : Nat} {D : Nat → List (List Int)} (h : Dying T n n 0 t) (hh : Holds T n n 0 t 8 D) (ht : t ≤ 100000) (h2 : 2 ≤ n) (h12 : n ≤ 12) (hx : x < n) (hy : y < n) (hxy : x ≠ y) :
    ∃ T1, T.failC (x : Int) = (T1, 0) ∧ T1.Use ∧ ∃ T2, T1.failC (y : Int) = (T2, 0) ∧ T2.Use ∧ T2.clock < 900000000 ∧ T2.writes < 900000000 ∧ Two T2 n x y ∧ ∀ tt, tt < 8 → ∀ c, c < n → c ≠ x → c ≠ y → T2.N c (c + tt) = cont n tt (D tt) c := by
  obtain ⟨T1, e1, l1, c1, w1, d1, f1, o1⟩ := live_fail h.live hx
  obtain ⟨T2, e2, l2, c2, w2, d2, f2, o2⟩ := live_fail l1 hy
  have hc := h.clk; have hw := h.wri
  refine ⟨T1, e1, l1.use (by omega) (by omega) (by omega), T2, e2, l2.use (by omega) (by omega) (by omega), by omega, by omega, ⟨l2, fun c hc => ?_, fun c hc => ?_⟩, fun tt htt c hc h1 h2' => ?_⟩
  · by_cases ey : c = y
    · rw [ey, d2]; simp
    · rw [o2 c ey]
      by_cases ex : c = x
      · rw [ex, d1]; simp
      · rw [o1 c ex, h.dead c hc]; simp [ex, ey]; omega
  · by_cases ey : c = y
    · rw [ey, f2, o1 y (Ne.symm hxy), h.fail y hy, if_neg (by omega)]
    · rw [o2 c ey]
      by_cases ex : c = x
      · rw [ex, f1, h.fail x hx, if_neg (by omega)]
      · rw [o1 c ex, h.fail c hc, if_neg (by omega)]
  · unfold BankT.N
    rw [o2 c h2', o1 c h1]
    exact hh tt htt c hc (fun e => by omega)
end Go.Proofs.Ytkcemkphehocgaa
