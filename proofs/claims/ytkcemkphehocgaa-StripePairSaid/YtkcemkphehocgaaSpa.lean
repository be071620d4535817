/- StripePair, in plain Lean. -/
import Derived.Test.YtkcemkphehocgaaStj
import Derived.Test.YtkcemkphehocgaaStq
namespace Go.Proofs.Ytkcemkphehocgaa
open Go.RowKit
set_option linter.unusedVariables false
set_option linter.unusedSimpArgs false

/-- behind so many stripes of two disks -/
structure PairI (T : BankT) (t : Nat) : Prop where
  still : Still T 2 20
  clk : T.clock ≤ 2 * t
  wri : T.writes = 2 * t
  same : ∀ c, c < t → T.N 0 c = T.N 1 (1 + c)
theorem PairI.start : PairI (addZ 20 2) 0 := ⟨addZ_still (by decide) (by decide), by rw [(addZ_rest 20 2).2.2.1]; decide, by rw [(addZ_rest 20 2).2.2.2]; rfl, fun c hc => by omega⟩
theorem PairI.use {T : BankT} {t : Nat} (h : PairI T t) (ht : t ≤ 8) : T.Use := bk_use h.still (by decide) h.clk (Int.le_of_eq h.wri) (by omega) (by omega)
theorem xorL_one {a : List Int} (ha : IsSec a) : xorL [a] = a := by
  show xorS zeroB a = a
  rw [xorS_comm, xorS_zero ha]
theorem two_places : ∀ t : Nat, t < 8 → dataS (rowL 2) t (-1) ++ [plcAt (rowL 2) t (holdN (rowL 2).length t)] = (if t % 2 = 0 then [((0 : Int), (t : Int)), (1, 1 + (t : Int))] else [((1 : Int), 1 + (t : Int)), (0, (t : Int))]) := by decide
theorem two_k : ∀ t : Nat, t < 8 → splitX (rowL 2).length (t : Int) = ((t : Int), ((t % 2 : Nat) : Int), 0) := by decide
theorem two_at : ∀ t : Nat, t < 8 → plcAt (rowL 2) t (t % 2) = (if t % 2 = 0 then ((0 : Int), (t : Int)) else (1, 1 + (t : Int))) ∧ plcAt (rowL 2) t (holdN (rowL 2).length t) = (if t % 2 = 0 then ((1 : Int), 1 + (t : Int)) else (0, (t : Int))) := by decide
theorem PairI.step {T : BankT} {t : Nat} (h : PairI T t) (ht : t < 8) (x : Int) :
    ∃ T', T.fullL ((dataS (rowL 2) t (-1) ++ [plcAt (rowL 2) t (holdN (rowL 2).length t)]).zip ([secN x] ++ [xorL [secN x]])) 0 = (T', 0) ∧ PairI T' (t + 1) ∧
      T'.read 0 (t : Int) = (secN x, 0) ∧ T'.read 1 (1 + (t : Int)) = (secN x, 0) ∧ T'.readL (rowL 2) t (t % 2) = (secN x, 0) := by
  have hx := secN_sec x
  have key : ∀ d1 a1 d2 a2 : Nat, d1 < 2 → a1 < 20 → d2 < 2 → a2 < 20 → (d1 = 0 ∧ a1 = t ∧ d2 = 1 ∧ a2 = 1 + t ∨ d1 = 1 ∧ a1 = 1 + t ∧ d2 = 0 ∧ a2 = t) →
      ∃ T', T.fullL [((((d1 : Int), (a1 : Int)) : Int × Int), secN x), (((d2 : Int), (a2 : Int)), secN x)] 0 = (T', 0) ∧ PairI T' (t + 1) ∧ T'.read 0 (t : Int) = (secN x, 0) ∧ T'.read 1 (1 + (t : Int)) = (secN x, 0) := by
    intro d1 a1 d2 a2 h1 h2 h3 h4 hor
    obtain ⟨T', e, s, c, w, r⟩ := full_still [((((d1 : Int), (a1 : Int)) : Int × Int), secN x), (((d2 : Int), (a2 : Int)), secN x)] h.still (by
      intro y hy
      simp only [List.mem_cons, List.not_mem_nil, or_false] at hy
      rcases hy with rfl | rfl
      · exact ⟨⟨d1, a1, rfl, h1, h2⟩, hx⟩
      · exact ⟨⟨d2, a2, rfl, h3, h4⟩, hx⟩) (gone := 0) (by decide)
    have hN : ∀ c k, T'.N c k = if c = d2 ∧ k = a2 then secN x else if c = d1 ∧ k = a1 then secN x else T.N c k := fun c k => by
      rw [r]
      simp only [wrN, Int.toNat_natCast]
    have n0 : T'.N 0 t = secN x := by
      rw [hN]
      rcases hor with ⟨rfl, rfl, rfl, rfl⟩ | ⟨rfl, rfl, rfl, rfl⟩ <;> simp
    have n1 : T'.N 1 (1 + t) = secN x := by
      rw [hN]
      rcases hor with ⟨rfl, rfl, rfl, rfl⟩ | ⟨rfl, rfl, rfl, rfl⟩ <;> simp
    have hclk := h.clk; have hwri := h.wri
    simp only [List.length_cons, List.length_nil] at c w
    refine ⟨T', e, ⟨s, by omega, by omega, fun k hk => ?_⟩, ?_, ?_⟩
    · by_cases hkt : k = t
      · rw [hkt, n0, n1]
      · have := h.same k (by omega)
        rw [hN, hN]
        rcases hor with ⟨rfl, rfl, rfl, rfl⟩ | ⟨rfl, rfl, rfl, rfl⟩
        · rw [if_neg (by omega), if_neg (by omega), if_neg (by omega), if_neg (by omega)]; exact this
        · rw [if_neg (by omega), if_neg (by omega), if_neg (by omega), if_neg (by omega)]; exact this
    · have := s.read (d := 0) (a := t) (by decide) (by omega)
      rw [n0] at this; exact this
    · have := s.read (d := 1) (a := 1 + t) (by decide) (by omega)
      rw [n1] at this
      rw [show (1 : Int) + (t : Int) = ((1 + t : Nat) : Int) by omega]; exact this
  rw [two_places t ht, xorL_one hx]
  obtain ⟨p1, p2⟩ := two_at t ht
  by_cases e : t % 2 = 0
  · rw [if_pos e]
    rw [if_pos e] at p1
    obtain ⟨T', e1, i1, r0, r1⟩ := key 0 t 1 (1 + t) (by decide) (by omega) (by decide) (by omega) (.inl ⟨rfl, rfl, rfl, rfl⟩)
    rw [show ((1 + t : Nat) : Int) = 1 + (t : Int) by omega] at e1
    refine ⟨T', e1, i1, r0, r1, ?_⟩
    unfold BankT.readL
    rw [p1]
    simp only [r0, show lostB 0 = false from rfl, Bool.false_eq_true, if_false]
  · rw [if_neg e]
    rw [if_neg e] at p1
    obtain ⟨T', e1, i1, r0, r1⟩ := key 1 (1 + t) 0 t (by decide) (by omega) (by decide) (by omega) (.inr ⟨rfl, rfl, rfl, rfl⟩)
    rw [show ((1 + t : Nat) : Int) = 1 + (t : Int) by omega] at e1
    refine ⟨T', e1, i1, r0, r1, ?_⟩
    unfold BankT.readL
    rw [p1]
    simp only [r1, show lostB 0 = false from rfl, Bool.false_eq_true, if_false]
theorem PairI.plug {T : BankT} (h : PairI T 8) {y : Nat} (hy : y < 8) {s : List Int} (hs : IsSec s) :
    (T.read (plcAt (rowL 2) y (y % 2)).1 (plcAt (rowL 2) y (y % 2)).2).2 = 0 ∧ (T.read (plcAt (rowL 2) y (holdN (rowL 2).length y)).1 (plcAt (rowL 2) y (holdN (rowL 2).length y)).2).2 = 0 ∧
    T.plugL (rowL 2) y (y % 2) s = (s, 0) := by
  obtain ⟨p1, p2⟩ := two_at y hy
  have r0 : T.read 0 (y : Int) = (T.N 0 y, 0) := h.still.read (d := 0) (a := y) (by decide) (by omega)
  have r1 : T.read 1 (1 + (y : Int)) = (T.N 0 y, 0) := by
    have := h.still.read (d := 1) (a := 1 + y) (by decide) (by omega)
    rw [← h.same y hy] at this
    rw [show (1 : Int) + (y : Int) = ((1 + y : Nat) : Int) by omega]; exact this
  have hsec : IsSec (T.N 0 y) := by
    have := BankT.read_sec h.still.inv 0 (y : Int)
    rw [r0] at this; exact this
  unfold BankT.plugL
  rw [p1, p2]
  have hx : xorS (xorS (T.N 0 y) (T.N 0 y)) s = s := by rw [xorS_self hsec.1, xorS_comm, xorS_zero hs]
  by_cases e : y % 2 = 0
  · simp only [if_pos e, r0, r1]
    simp [hx]
  · simp only [if_neg e, r0, r1]
    simp [hx]
end Go.Proofs.Ytkcemkphehocgaa
