/- Stz: several texts in one. -/
import Derived.Test.YtglplhmclfekfaaGreatEA
import Derived.Laws.BitsAllLaws
import Derived.Test.YtglplhmclfekfaaGreatFaA
import Derived.StillTailTactics
import Derived.Deep.QuietTactic
import Derived.BigQuiet
import Derived.Deep.DeepCutAuto
import Derived.Great.BuildSlice
import Derived.RangeFuncNested
import Derived.RangeFuncBound
import Derived.RangeFuncCalls
import Derived.RangeFuncLeaves
import Derived.RangeFuncBox
import Derived.Shelf.Abstract
import Derived.Shelf.RegionOpen
import Derived.WalkKit
import Derived.OwnWalkIn
import Derived.TacticsInMore
import Derived.LoopNIn
import Derived.LoopIn
import Derived.Maps.AppendAt
import Derived.Deep.DeepAppendWide
/- Stripes in plain Lean: which places a stripe has. -/
namespace Go.Proofs.YtglplhmclfekfaaGreat
open Go.RowKit
set_option linter.unusedVariables false
set_option linter.unusedSimpArgs false

/-- which extent has a stripe's parity -/
def holdN (w t : Nat) : Nat := w - 1 - t % w
theorem holdN_lt {w : Nat} (h : 0 < w) (t : Nat) : holdN w t < w := by unfold holdN; omega
/-- the sector of a stripe on an extent -/
def plcAt (L : List (Int × Int)) (t : Nat) (k : Nat) : Int × Int := ((L.getD k (0, 0)).1, (L.getD k (0, 0)).2 + (t : Int))
/-- a stripe's data on the first m extents, but that on the extent skip -/
def dataTo (L : List (Int × Int)) (t : Nat) (skip : Int) : Nat → List (Int × Int)
  | 0 => []
  | k + 1 => if k ≠ holdN L.length t ∧ (k : Int) ≠ skip then dataTo L t skip k ++ [plcAt L t k] else dataTo L t skip k
def dataS (L : List (Int × Int)) (t : Nat) (skip : Int) : List (Int × Int) := dataTo L t skip L.length
theorem dataTo_le (L : List (Int × Int)) (t : Nat) (skip : Int) : ∀ k, (dataTo L t skip k).length ≤ k
  | 0 => Nat.le_refl _
  | k + 1 => by
    have := dataTo_le L t skip k
    unfold dataTo
    split
    · simp; omega
    · omega
/-- on which extent a stripe's j-th slot is -/
def slotK (w t j : Nat) : Nat := if holdN w t ≤ j then j + 1 else j
theorem slotK_lt {w t j : Nat} (hj : j < w - 1) : slotK w t j < w := by unfold slotK; split <;> omega
theorem slotK_ne (w t j : Nat) : slotK w t j ≠ holdN w t := by unfold slotK; split <;> omega
theorem dataTo_none (L : List (Int × Int)) (t : Nat) : ∀ m, m ≤ L.length → dataTo L t (-1) m = (List.range (if holdN L.length t < m then m - 1 else m)).map fun j => plcAt L t (slotK L.length t j)
  | 0, _ => by simp [dataTo]
  | m + 1, hm => by
    have ih := dataTo_none L t m (by omega)
    unfold dataTo
    by_cases e : m = holdN L.length t
    · rw [if_neg (fun h => h.1 e), ih, if_neg (by omega), if_pos (by omega)]; rfl
    · rw [if_pos ⟨e, by omega⟩, ih]
      by_cases h : holdN L.length t < m
      · rw [if_pos h, if_pos (by omega), show m + 1 - 1 = (m - 1) + 1 by omega, List.range_succ, List.map_append]
        have : slotK L.length t (m - 1) = m := by unfold slotK; rw [if_pos (by omega)]; omega
        simp [this]
      · rw [if_neg h, if_neg (by omega), List.range_succ, List.map_append]
        have : slotK L.length t m = m := by unfold slotK; rw [if_neg (by omega)]
        simp [this]
theorem dataS_none {L : List (Int × Int)} (h : 0 < L.length) (t : Nat) : dataS L t (-1) = (List.range (L.length - 1)).map fun j => plcAt L t (slotK L.length t j) := by
  unfold dataS
  rw [dataTo_none L t L.length (Nat.le_refl _), if_pos (holdN_lt h t)]
theorem dataS_len {L : List (Int × Int)} (h : 0 < L.length) (t : Nat) : (dataS L t (-1)).length = L.length - 1 := by rw [dataS_none h]; simp
theorem dataS_at {L : List (Int × Int)} (h : 0 < L.length) (t : Nat) {j : Nat} (hj : j < L.length - 1) : (dataS L t (-1))[j]? = some (plcAt L t (slotK L.length t j)) := by
  rw [dataS_none h, List.getElem?_map, List.getElem?_range hj]; rfl
/-- the same without one of them -/
theorem dataTo_skip (L : List (Int × Int)) (t : Nat) {j : Nat} (hj : j < L.length - 1) : ∀ m, m ≤ L.length →
    dataTo L t (slotK L.length t j : Nat) m = if slotK L.length t j < m then (dataTo L t (-1) m).eraseIdx j else dataTo L t (-1) m
  | 0, _ => by simp [dataTo]
  | m + 1, hm => by
    have ih := dataTo_skip L t hj m (by omega)
    have hl : (dataTo L t (-1) m).length = if holdN L.length t < m then m - 1 else m := by rw [dataTo_none L t m (by omega)]; simp
    have hne := slotK_ne L.length t j
    have e1 : dataTo L t (slotK L.length t j : Nat) (m + 1) = if m ≠ holdN L.length t ∧ (m : Int) ≠ ((slotK L.length t j : Nat) : Int) then dataTo L t (slotK L.length t j : Nat) m ++ [plcAt L t m] else dataTo L t (slotK L.length t j : Nat) m := rfl
    have e2 : dataTo L t (-1) (m + 1) = if m ≠ holdN L.length t ∧ (m : Int) ≠ -1 then dataTo L t (-1) m ++ [plcAt L t m] else dataTo L t (-1) m := rfl
    have hsk : slotK L.length t j = if holdN L.length t ≤ j then j + 1 else j := rfl
    rw [e1, e2, ih]
    by_cases a : m = holdN L.length t
    · rw [if_neg (c := m ≠ holdN L.length t ∧ (m : Int) ≠ ((slotK L.length t j : Nat) : Int)) (fun h => h.1 a), if_neg (c := m ≠ holdN L.length t ∧ (m : Int) ≠ -1) (fun h => h.1 a)]
      by_cases b : slotK L.length t j < m
      · rw [if_pos b, if_pos (by omega)]
      · rw [if_neg b, if_neg (by omega)]
    · rw [if_pos (c := m ≠ holdN L.length t ∧ (m : Int) ≠ -1) ⟨a, by omega⟩]
      by_cases c : m = slotK L.length t j
      · rw [if_neg (c := m ≠ holdN L.length t ∧ (m : Int) ≠ ((slotK L.length t j : Nat) : Int)) (fun h => h.2 (by omega)), if_neg (by omega), if_pos (by omega)]
        have : j = (dataTo L t (-1) m).length := by
          rw [hl]
          split at hsk <;> split <;> omega
        rw [this, List.eraseIdx_append_of_length_le (Nat.le_refl _)]
        simp
      · rw [if_pos (c := m ≠ holdN L.length t ∧ (m : Int) ≠ ((slotK L.length t j : Nat) : Int)) ⟨a, by omega⟩]
        by_cases b : slotK L.length t j < m
        · rw [if_pos b, if_pos (by omega)]
          have : j < (dataTo L t (-1) m).length := by
            rw [hl]
            split at hsk <;> split <;> omega
          rw [List.eraseIdx_append_of_lt_length this]
        · rw [if_neg b, if_neg (by omega)]
theorem dataS_skip {L : List (Int × Int)} (t : Nat) {j : Nat} (hj : j < L.length - 1) : dataS L t (slotK L.length t j : Nat) = (dataS L t (-1)).eraseIdx j := by
  unfold dataS
  rw [dataTo_skip L t hj L.length (Nat.le_refl _), if_pos (slotK_lt hj)]
/-- a slice of extents, or of places -/
def evals (L : List (Int × Int)) : List Value := L.flatMap fun p => [Value.int .i64 p.1, Value.int .i64 p.2]
theorem evals_length (L : List (Int × Int)) : (evals L).length = L.length * 2 := by
  induction L with
  | nil => rfl
  | cons x H ih => simp only [evals, List.flatMap_cons, List.length_append, List.length_cons, List.length_nil] at ih ⊢; omega
theorem evals_append (H K : List (Int × Int)) : evals (H ++ K) = evals H ++ evals K := by simp [evals]
theorem evals_one (H : List (Int × Int)) : ∀ u ∈ evals H, u.oneCell' = true := by
  intro u hu
  simp only [evals, List.mem_flatMap, List.mem_cons, List.not_mem_nil, or_false] at hu
  obtain ⟨x, _, rfl | rfl⟩ := hu <;> rfl
theorem evals_at (H : List (Int × Int)) (k : Nat) (hk : k < H.length) : (evals H)[k * 2]? = some (.int .i64 (H.getD k (0, 0)).1) ∧ (evals H)[k * 2 + 1]? = some (.int .i64 (H.getD k (0, 0)).2) := by
  have e0 : H.getD k (0, 0) = H[k] := by rw [List.getD_eq_getElem?_getD, List.getElem?_eq_getElem hk]; rfl
  have e : H = H.take k ++ (H[k] :: H.drop (k + 1)) := by rw [List.getElem_cons_drop, List.take_append_drop]
  have e2 : evals H = evals (H.take k) ++ evals (H[k] :: H.drop (k + 1)) := by rw [← evals_append, ← e]
  have hl : (evals (H.take k)).length = k * 2 := by rw [evals_length, List.length_take]; omega
  rw [e0]
  constructor
  · rw [e2, List.getElem?_append_right (by omega), hl, Nat.sub_self]; rfl
  · rw [e2, List.getElem?_append_right (by omega), hl, Nat.add_sub_cancel_left]; rfl
/-- a slice that reads L -/
def ESl (w : World) (v : Value) (L : List (Int × Int)) : Prop := ∃ oa cap, v = .slice oa L.length cap ∧ ∀ k, k < L.length → ∃ b off, oa = some ⟨b, off, none⟩ ∧ b < w.heap.size ∧ w.cell? ⟨b, off + k * 2, none⟩ = some (.int .i64 (L.getD k (0, 0)).1) ∧ w.cell? ⟨b, off + k * 2 + 1, none⟩ = some (.int .i64 (L.getD k (0, 0)).2)
theorem ESl.kept {w w' : World} {v : Value} {L : List (Int × Int)} (h : ESl w v L) (hk : Kept w w') : ESl w' v L := by
  obtain ⟨oa, cap, e, h⟩ := h
  refine ⟨oa, cap, e, fun k hk' => ?_⟩
  obtain ⟨b, off, e1, e2, e3, e4⟩ := h k hk'
  exact ⟨b, off, e1, Nat.lt_of_lt_of_le e2 hk.size, hk.cell' e3, hk.cell' e4⟩
theorem ESl.of_cells {w : World} {b off cap : Nat} {L : List (Int × Int)} (hb : b < w.heap.size) (h : Cells w b off (evals L)) : ESl w (.slice (some ⟨b, off, none⟩) L.length cap) L := by
  refine ⟨_, cap, rfl, fun k hk => ⟨b, off, rfl, hb, ?_, ?_⟩⟩
  · obtain ⟨e1, _⟩ := evals_at L k hk
    obtain ⟨h1, e1⟩ := List.getElem?_eq_some_iff.1 e1
    rw [← e1]; exact h _ h1
  · obtain ⟨_, e1⟩ := evals_at L k hk
    obtain ⟨h1, e1⟩ := List.getElem?_eq_some_iff.1 e1
    rw [← e1, Nat.add_assoc]; exact h _ h1
end Go.Proofs.YtglplhmclfekfaaGreat
/- parity: the exclusive or of sectors, in plain Lean and in memory. -/
namespace Go.Proofs.YtglplhmclfekfaaGreat
open Go.RowKit
set_option linter.unusedVariables false
set_option linter.unusedSimpArgs false

def xorI (x y : Int) : Int := ((x.toNat ^^^ y.toNat : Nat) : Int)
def xorS (a b : List Int) : List Int := List.zipWith xorI a b
/-- the exclusive or of them all -/
def xorL (l : List (List Int)) : List Int := l.foldl xorS zeroB
/-- a sector is right: 64 bytes -/
def IsSec (s : List Int) : Prop := s.length = 64 ∧ ∀ x ∈ s, IsByte x
theorem xorI_byte {x y : Int} (hx : IsByte x) (hy : IsByte y) : IsByte (xorI x y) := by
  unfold IsByte at *
  have h := Nat.xor_lt_two_pow (x := x.toNat) (y := y.toNat) (n := 8) (by omega) (by omega)
  unfold xorI
  omega
theorem bits_xorI {x y : Int} (hx : IsByte x) (hy : IsByte y) : bits .xor .u8 x y = xorI x y := u8_xor x y hx.1 (by have := hx.2; omega) hy.1 (by have := hy.2; omega)
theorem xorI_comm (x y : Int) : xorI x y = xorI y x := by unfold xorI; rw [Nat.xor_comm]
theorem xorI_assoc (x y z : Int) : xorI (xorI x y) z = xorI x (xorI y z) := by unfold xorI; simp [Nat.xor_assoc]
theorem xorI_self (x : Int) : xorI x x = 0 := by unfold xorI; simp
theorem xorI_zero {x : Int} (hx : IsByte x) : xorI x 0 = x := by unfold xorI; have := hx.1; simp; omega
theorem xorS_len {a b : List Int} (ha : a.length = 64) (hb : b.length = 64) : (xorS a b).length = 64 := by simp [xorS, ha, hb]
theorem xorS_get {a b : List Int} {k : Nat} (ha : k < a.length) (hb : k < b.length) : (xorS a b)[k]? = some (xorI a[k] b[k]) := by
  unfold xorS
  rw [List.getElem?_eq_getElem (by simp; omega), List.getElem_zipWith]
theorem xorS_sec {a b : List Int} (ha : IsSec a) (hb : IsSec b) : IsSec (xorS a b) := by
  refine ⟨xorS_len ha.1 hb.1, fun x hx => ?_⟩
  obtain ⟨k, hk, rfl⟩ := List.getElem_of_mem hx
  have hk2 : k < a.length ∧ k < b.length := by simp [xorS] at hk; omega
  simp only [xorS, List.getElem_zipWith]
  exact xorI_byte (ha.2 _ (List.getElem_mem hk2.1)) (hb.2 _ (List.getElem_mem hk2.2))
theorem zeroB_sec1 : IsSec zeroB := ⟨zeroB_length, fun x hx => by simp [zeroB] at hx; subst hx; exact ⟨by decide, by decide⟩⟩
theorem zeroB_at (k : Nat) (h : k < zeroB.length) : zeroB[k] = 0 := by
  show (List.replicate 64 (0 : Int))[k]'_ = 0
  exact List.getElem_replicate _
theorem xorS_comm (a b : List Int) : xorS a b = xorS b a := by
  unfold xorS
  rw [List.zipWith_comm]
  congr 1
  funext x y; exact xorI_comm y x
theorem xorS_assoc : ∀ (a b c : List Int), xorS (xorS a b) c = xorS a (xorS b c)
  | [], _, _ => by simp [xorS]
  | _ :: _, [], _ => by simp [xorS]
  | _ :: _, _ :: _, [] => by simp [xorS]
  | x :: a, y :: b, z :: c => by
    have := xorS_assoc a b c
    unfold xorS at this ⊢
    simp only [List.zipWith_cons_cons, xorI_assoc, this]
theorem xorS_zero {a : List Int} (ha : IsSec a) : xorS a zeroB = a := by
  apply List.ext_getElem?
  intro k
  by_cases hk : k < a.length
  · rw [xorS_get hk (by rw [zeroB_length, ← ha.1]; exact hk), List.getElem?_eq_getElem hk]
    have : zeroB[k]'(by rw [zeroB_length, ← ha.1]; exact hk) = 0 := zeroB_at _ _
    rw [this, xorI_zero (ha.2 _ (List.getElem_mem hk))]
  · rw [List.getElem?_eq_none (by rw [xorS_len ha.1 zeroB_length, ← ha.1]; omega), List.getElem?_eq_none (by omega)]
theorem xorS_self {a : List Int} (ha : a.length = 64) : xorS a a = zeroB := by
  apply List.ext_getElem?
  intro k
  by_cases hk : k < a.length
  · rw [xorS_get hk hk, xorI_self, List.getElem?_eq_getElem (by rw [zeroB_length, ← ha]; exact hk)]
    rw [zeroB_at]
  · rw [List.getElem?_eq_none (by rw [xorS_len ha ha, ← ha]; omega), List.getElem?_eq_none (by rw [zeroB_length]; omega)]
theorem xorL_snoc (L : List (List Int)) (s : List Int) : xorL (L ++ [s]) = xorS (xorL L) s := by simp [xorL]
theorem xorL_sec {L : List (List Int)} (h : ∀ s ∈ L, IsSec s) : IsSec (xorL L) := by
  unfold xorL
  have key : ∀ (L : List (List Int)) (a : List Int), IsSec a → (∀ s ∈ L, IsSec s) → IsSec (L.foldl xorS a) := by
    intro L
    induction L with
    | nil => intro a ha _; exact ha
    | cons s L ih => intro a ha h; exact ih _ (xorS_sec ha (h s (by simp))) (fun t ht => h t (by simp [ht]))
  exact key L zeroB zeroB_sec1 h
theorem xorL_two {a b : List Int} (ha : IsSec a) (hb : IsSec b) : xorL [a, b] = xorS a b := by
  show xorS (xorS zeroB a) b = _
  rw [xorS_comm zeroB a, xorS_zero ha]
/-- the first k bytes of one sector folded into another -/
def foldTo (a b : List Int) (k : Nat) : List Int := xorS (a.take k) (b.take k) ++ a.drop k
theorem foldTo_zero (a b : List Int) : foldTo a b 0 = a := by simp [foldTo, xorS]
theorem foldTo_all {a b : List Int} (ha : a.length = 64) (hb : b.length = 64) : foldTo a b 64 = xorS a b := by
  unfold foldTo
  rw [List.take_of_length_le (by omega), List.take_of_length_le (by omega), List.drop_eq_nil_of_le (by omega), List.append_nil]
theorem foldTo_len {a b : List Int} (ha : a.length = 64) (hb : b.length = 64) (k : Nat) : (foldTo a b k).length = 64 := by
  unfold foldTo xorS
  simp [ha, hb]; omega
theorem foldTo_get {a b : List Int} (ha : a.length = 64) (hb : b.length = 64) {k : Nat} (hk : k < 64) : (foldTo a b k)[k]? = a[k]? := by
  unfold foldTo
  have hl : (xorS (a.take k) (b.take k)).length = k := by simp [xorS, ha, hb]; omega
  rw [List.getElem?_append_right (by omega), hl, Nat.sub_self, List.getElem?_drop, Nat.add_zero]
theorem foldTo_succ {a b : List Int} (ha : a.length = 64) (hb : b.length = 64) {k : Nat} (hk : k < 64) : (foldTo a b k).set k (xorI (a[k]'(by omega)) (b[k]'(by omega))) = foldTo a b (k + 1) := by
  unfold foldTo
  have hl : (xorS (a.take k) (b.take k)).length = k := by simp [xorS, ha, hb]; omega
  rw [List.set_append_right _ _ (by omega), hl, Nat.sub_self]
  have hd : a.drop k = a[k]'(by omega) :: a.drop (k + 1) := List.drop_eq_getElem_cons (by omega)
  rw [hd, List.set_cons_zero]
  have e : xorS (a.take (k + 1)) (b.take (k + 1)) = xorS (a.take k) (b.take k) ++ [xorI (a[k]'(by omega)) (b[k]'(by omega))] := by
    unfold xorS
    rw [List.take_succ_eq_append_getElem (by omega), List.take_succ_eq_append_getElem (by omega), List.zipWith_append (by simp [ha, hb])]
    rfl
  rw [e, List.append_assoc, List.singleton_append]
end Go.Proofs.YtglplhmclfekfaaGreat
/- stripe's pure functions: holder, Slots, place, split, right, Home, Parity. -/
namespace Go.Proofs.YtglplhmclfekfaaGreat
open Go.RowKit
set_option linter.unusedVariables false
set_option linter.unusedSimpArgs false

theorem results_plc1 {fn : Func} {p : Tmp} (h : fn.results = #[.cell p 47]) (tmps : Array Value) (w : World) (b : Nat) (x y : Int)
    (hp : tmps.getD p undef = .pointer (some ⟨b, 0, none⟩)) (hc : Cells w b 0 [.int .i64 x, .int .i64 y]) :
    (results fn tmps).run Tryz.prog w = .ok (.agg #[.int .i64 x, .int .i64 y]) w := by
  obtain ⟨⟨d, hd1, hd2⟩, hs⟩ := ty_plc
  have hp' : tmps[p]?.getD undef = .pointer (some ⟨b, 0, none⟩) := by simpa using hp
  have hr := run_loadVar_mid (P := Tryz.prog) w b 0 47 [.int .i64 x, .int .i64 y] d (rangeAt_of_cells hc) hd1 hd2 (by rw [hs]; rfl)
  simp [results, h, hp', asAddr, hr]
theorem results_plc2 {fn : Func} {p q : Tmp} (h : fn.results = #[.cell p 47, .tmp q]) (tmps : Array Value) (w : World) (b : Nat) (x y : Int)
    (hp : tmps.getD p undef = .pointer (some ⟨b, 0, none⟩)) (hc : Cells w b 0 [.int .i64 x, .int .i64 y]) :
    (results fn tmps).run Tryz.prog w = .ok (.tuple #[.agg #[.int .i64 x, .int .i64 y], tmps.getD q undef]) w := by
  obtain ⟨⟨d, hd1, hd2⟩, hs⟩ := ty_plc
  have hp' : tmps[p]?.getD undef = .pointer (some ⟨b, 0, none⟩) := by simpa using hp
  have hr := run_loadVar_mid (P := Tryz.prog) w b 0 47 [.int .i64 x, .int .i64 y] d (rangeAt_of_cells hc) hd1 hd2 (by rw [hs]; rfl)
  simp [results, h, hp', asAddr, hr]
theorem results_tmp3 {fn : Func} {p q r : Tmp} (h : fn.results = #[.tmp p, .tmp q, .tmp r]) (tmps : Array Value) (w : World) :
    (results fn tmps).run Tryz.prog w = .ok (.tuple #[tmps.getD p undef, tmps.getD q undef, tmps.getD r undef]) w := by
  simp [results, h]
/-- extents at places that are none too great -/
def Near (L : List (Int × Int)) : Prop := L.length ≤ 1000 ∧ ∀ k, k < L.length → -1000000 ≤ (L.getD k (0, 0)).2 ∧ (L.getD k (0, 0)).2 ≤ 1000000
def splitX (w : Nat) (slot : Int) : Int × Int × Int :=
  if w < 2 then (0, 0, 1) else if slot < 0 ∨ 8 * ((w : Int) - 1) ≤ slot then (0, 0, 3) else (((slot.toNat / (w - 1) : Nat) : Int), ((slotK w (slot.toNat / (w - 1)) (slot.toNat % (w - 1)) : Nat) : Int), 0)
def rightX (w : Nat) (t : Int) : Int := if w < 2 then 1 else if t < 0 ∨ 8 ≤ t then 3 else 0
section
variable {w : World}
set_option maxHeartbeats 1000000
set_option maxRecDepth 100000
theorem st_holder (n t : Nat) (h1 : 1 ≤ n) (h2 : n ≤ 1000) (h3 : t ≤ 1000) (w : World) :
    Calls Tryz.prog 54 #[.int .i64 (n : Int), .int .i64 (t : Int)] w fun e w' => e = .returned (.int .i64 (holdN n t : Int)) ∧ w = w' := by
  have hm : ((t : Int)).tmod (n : Int) = ((t % n : Nat) : Int) := by rw [Int.tmod_eq_emod_of_nonneg (by omega)]; rfl
  have hl : t % n < n := Nat.mod_lt _ (by omega)
  have hh : ((n : Int) - 1 - ((t % n : Nat) : Int)) = (holdN n t : Int) := by unfold holdN; omega
  have hn0 : ((n : Int) == 0) = false := by rw [beq_eq_false_iff_ne]; omega
  have hn1 : ((n : Int) == -1) = false := by rw [beq_eq_false_iff_ne]; omega
  go_enter Tryz.func54, Tryz.ntmps54
  go_wp2
  go_ret
  refine ⟨?_, rfl⟩
  show Ending.returned (Value.int .i64 ((n : Int) - 1 - (t : Int) % (n : Int))) = _
  rw [← hh, Int.natCast_emod]
theorem st_Slots (n : Int) (h1 : -100000 ≤ n) (h2 : n ≤ 100000) (w : World) :
    Calls Tryz.prog 23 #[.int .i64 n] w fun e w' => e = .returned (.int .i64 (if n < 2 then 0 else 8 * (n - 1))) ∧ w = w' := by
  by_cases h : n < 2
  · rw [if_pos h]
    go_enter Tryz.func23, Tryz.ntmps23
    go_wp2
    go_ret
    exact ⟨rfl, rfl⟩
  · rw [if_neg h]
    go_enter Tryz.func23, Tryz.ntmps23
    go_wp2
    go_ret
    exact ⟨rfl, rfl⟩
theorem st_place {v : Value} {L : List (Int × Int)} (h : ESl w v L) (hN : Near L) {k : Nat} (hk : k < L.length) (t : Nat) (ht : t ≤ 1000) :
    Calls Tryz.prog 53 #[v, .int .i64 (k : Int), .int .i64 (t : Int)] w fun e w' => e = .returned (.agg #[.int .i64 (plcAt L t k).1, .int .i64 (plcAt L t k).2]) ∧ Kept w w' := by
  obtain ⟨oa, cap, rfl, hat⟩ := h
  obtain ⟨b, off, rfl, hb, p0, p1⟩ := hat k hk
  obtain ⟨n1, n2⟩ := hN
  obtain ⟨b1, b2⟩ := n2 k hk
  unfold plcAt
  clear hat n2
  generalize (L.getD k (0, 0)).1 = x at *
  generalize (L.getD k (0, 0)).2 = y at *
  go_enter Tryz.func53, Tryz.ntmps53
  go_wp2_with (refine stop_at (o := ⟨some 6, _, _, _, _, _⟩) ?_)
  refine Stop.mk ?_
  refine wpList_alloc_abs rfl 47 rfl [.int .i64 0, .int .i64 0] zero_plc ?_
  intro w1 hz hs hn hk1
  have HR1 := hz; have HK1 := Lib.hid hk1
  have q0 := hk1.cell' p0; have q1 := hk1.cell' p1
  have HRW := Lib.hid (Nat.le_refl w.heap.size)
  generalize hR : w.heap.size = R at HR1 HRW hs hn hb ⊢
  have HRE := Lib.hid hR
  clear hz hs hn hk1 hR p0 p1
  go_wp2
  refine wp_still_tail 13 (by kernel_rfl) (by kernel_rfl) fun ws hks hhs => ?_
  have r0 := hks.cell' q0; have r1 := hks.cell' q1
  have HR2 := Lib.hid (hks.block HR1.out); have HK2 := Lib.hid (HK1.out.trans hks)
  clear hks hhs q0 q1 HR1 HK1
  simp only [List.take_succ_cons, List.take_zero, List.drop_succ_cons, List.drop_zero]
  iterate 13 still_step
  refine wpStill_nil ?_
  have hwr : IntKind.i64.wrap (y + (t : Int)) = y + (t : Int) := by rw [IntKind.wrap_i64]; omega
  simp only [hwr]
  refine wpList_store_agg rfl _ _ rfl ty_plc R 0 rfl [.int .i64 x, .int .i64 (y + (t : Int))] rfl rfl (one_plc _ _) _ _ HR2.out (by decide) ?_
  intro w3 hw
  replace hw := hw.all rfl
  have HK3 := Lib.hid (hw.kept HK2.out (by have := HRE.out; omega))
  have HW := Lib.hid hw
  clear hw
  go_wp2
  refine bodyPost_ret (results_plc1 rfl _ _ R x (y + (t : Int)) rfl HW.out.cells) rfl ?_
  exact ⟨rfl, HK3.out⟩
theorem st_right (oa : Option Addr) (n cap : Nat) (hn : n ≤ 1000) (t : Int) (w : World) :
    Calls Tryz.prog 52 #[.slice oa n cap, .int .i64 t] w fun e w' => e = .returned (.int .i64 (rightX n t)) ∧ w = w' := by
  unfold rightX
  by_cases h : n < 2
  · rw [if_pos h]
    go_enter Tryz.func52, Tryz.ntmps52
    go_wp2
    go_ret
    exact ⟨rfl, rfl⟩
  · rw [if_neg h]
    by_cases h2 : t < 0
    · rw [if_pos (.inl h2)]
      go_enter Tryz.func52, Tryz.ntmps52
      go_wp2
      go_ret
      exact ⟨rfl, rfl⟩
    · by_cases h3 : 8 ≤ t
      · rw [if_pos (.inr h3)]
        go_enter Tryz.func52, Tryz.ntmps52
        go_wp2
        go_ret
        exact ⟨rfl, rfl⟩
      · rw [if_neg (by omega)]
        go_enter Tryz.func52, Tryz.ntmps52
        go_wp2
        go_ret
        exact ⟨rfl, rfl⟩
theorem st_split (oa : Option Addr) (n cap : Nat) (hn : n ≤ 1000) (slot : Int) (w : World) :
    Calls Tryz.prog 55 #[.slice oa n cap, .int .i64 slot] w fun e w' => e = .returned (.tuple #[.int .i64 (splitX n slot).1, .int .i64 (splitX n slot).2.1, .int .i64 (splitX n slot).2.2]) ∧ Kept w w' := by
  have HS := Lib.hid fun W => st_Slots (n : Int) (by omega) (by omega) W
  unfold splitX
  by_cases h : n < 2
  · rw [if_pos h]
    clear HS
    go_enter Tryz.func55, Tryz.ntmps55
    go_wp2
    refine bodyPost_ret (results_tmp3 rfl _ _) rfl ?_
    exact ⟨rfl, Kept.refl _⟩
  · rw [if_neg h]
    by_cases h2 : slot < 0
    · rw [if_pos (.inl h2)]
      clear HS
      go_enter Tryz.func55, Tryz.ntmps55
      go_wp2
      refine bodyPost_ret (results_tmp3 rfl _ _) rfl ?_
      exact ⟨rfl, Kept.refl _⟩
    · have h1n : ¬ (n : Int) < 2 := by omega
      have HSL := Lib.hid fun W => (HS.out W)
      simp only [if_neg h1n] at HSL
      clear HS
      by_cases h3 : 8 * ((n : Int) - 1) ≤ slot
      · rw [if_pos (.inr h3)]
        go_enter Tryz.func55, Tryz.ntmps55
        go_wp2_with (go_at_call 23; refine (HSL.out _).mono ?_; rintro e w' ⟨rfl, rfl⟩)
        refine bodyPost_ret (results_tmp3 rfl _ _) rfl ?_
        exact ⟨rfl, Kept.refl _⟩
      · rw [if_neg (by omega)]
        obtain ⟨s, rfl⟩ : ∃ s : Nat, slot = (s : Int) := ⟨slot.toNat, by omega⟩
        rw [Int.toNat_natCast]
        obtain ⟨m, rfl⟩ : ∃ m : Nat, n = m + 1 := ⟨n - 1, by omega⟩
        have hm1 : 1 ≤ m := by omega
        have hsm : s < 8 * m := by omega
        have ht : s / m < 8 := by rw [Nat.div_lt_iff_lt_mul (by omega)]; omega
        have hk : s % m < m := Nat.mod_lt _ (by omega)
        have HH := Lib.hid fun W => st_holder (m + 1) (s / m) (by omega) hn (by omega) W
        rw [show m + 1 - 1 = m from rfl]
        have HT : Hid ((s : Int) / (m : Int) = ((s / m : Nat) : Int)) := Lib.hid (Int.natCast_ediv s m).symm
        have HM : Hid ((s : Int) % (m : Int) = ((s % m : Nat) : Int)) := Lib.hid (Int.natCast_emod s m).symm
        have HSK := Lib.hid (show slotK (m + 1) (s / m) (s % m) = if holdN (m + 1) (s / m) ≤ s % m then s % m + 1 else s % m from rfl)
        generalize s / m = t at *
        generalize s % m = k at *
        generalize holdN (m + 1) t = hd at *
        generalize slotK (m + 1) t k = sk at *
        clear h h2 h1n
        have hh2 := HH.out
        simp only [Int.natCast_add, Int.natCast_one] at hh2
        have HH2 := Lib.hid hh2
        clear HH hh2
        go_enter Tryz.func55, Tryz.ntmps55
        go_wp2_with (go_at_call 23; refine (HSL.out _).mono ?_; rintro e w' ⟨rfl, rfl⟩)
        go_quiet (fail)
        simp only [HT.out, HM.out, show wrap64 (t : Int) = (t : Int) from by unfold wrap64; omega]
        clear HT HM HSL
        go_wp2_with fail
        refine Calls.mono (HH2.out _) ?_
        rintro e w' ⟨rfl, rfl⟩
        by_cases hd' : hd ≤ k
        · have e1 := HSK.out
          rw [if_pos hd'] at e1
          subst e1
          go_wp2
          refine bodyPost_ret (results_tmp3 rfl _ _) rfl ?_
          exact ⟨rfl, (Kept.refl _).drewN _⟩
        · have e1 := HSK.out
          rw [if_neg hd'] at e1
          subst e1
          go_wp2
          refine bodyPost_ret (results_tmp3 rfl _ _) rfl ?_
          exact ⟨rfl, (Kept.refl _).drewN _⟩
def homeX (L : List (Int × Int)) (slot : Int) : (Int × Int) × Int :=
  if (splitX L.length slot).2.2 = 0 then (plcAt L (splitX L.length slot).1.toNat (splitX L.length slot).2.1.toNat, 0) else ((0, 0), (splitX L.length slot).2.2)
def parityX (L : List (Int × Int)) (t : Int) : (Int × Int) × Int :=
  if rightX L.length t = 0 then (plcAt L t.toNat (holdN L.length t.toNat), 0) else ((0, 0), rightX L.length t)
theorem splitX_ok {w : Nat} {slot : Int} (h : (splitX w slot).2.2 = 0) : ∃ s : Nat, slot = (s : Int) ∧ 2 ≤ w ∧ s < 8 * (w - 1) ∧ splitX w slot = (((s / (w - 1) : Nat) : Int), ((slotK w (s / (w - 1)) (s % (w - 1)) : Nat) : Int), 0) ∧ slotK w (s / (w - 1)) (s % (w - 1)) < w ∧ s / (w - 1) < 8 := by
  unfold splitX at h ⊢
  by_cases h1 : w < 2
  · rw [if_pos h1] at h; cases h
  · rw [if_neg h1] at h ⊢
    by_cases h2 : slot < 0 ∨ 8 * ((w : Int) - 1) ≤ slot
    · rw [if_pos h2] at h; cases h
    · rw [if_neg h2]
      obtain ⟨s, rfl⟩ : ∃ s : Nat, slot = (s : Int) := ⟨slot.toNat, by omega⟩
      have hk : s % (w - 1) < w - 1 := Nat.mod_lt _ (by omega)
      exact ⟨s, rfl, by omega, by omega, by rw [Int.toNat_natCast], slotK_lt hk, by rw [Nat.div_lt_iff_lt_mul (by omega)]; omega⟩
theorem rightX_ok {w : Nat} {t : Int} (h : rightX w t = 0) : ∃ s : Nat, t = (s : Int) ∧ 2 ≤ w ∧ s < 8 := by
  unfold rightX at h
  by_cases h1 : w < 2
  · rw [if_pos h1] at h; cases h
  · rw [if_neg h1] at h
    by_cases h2 : t < 0 ∨ 8 ≤ t
    · rw [if_pos h2] at h; cases h
    · exact ⟨t.toNat, by omega, by omega, by omega⟩
theorem st_Home {v : Value} {L : List (Int × Int)} (h : ESl w v L) (hN : Near L) (slot : Int) :
    Calls Tryz.prog 17 #[v, .int .i64 slot] w fun e w' => e = .returned (.tuple #[.agg #[.int .i64 (homeX L slot).1.1, .int .i64 (homeX L slot).1.2], .int .i64 (homeX L slot).2]) ∧ Kept w w' := by
  have HH := Lib.hid h; have HN := Lib.hid hN
  obtain ⟨oa, cap, rfl, _⟩ := h
  have hl := hN.1
  clear hN
  have hS := fun W => st_split oa L.length cap hl slot W
  by_cases hc : (splitX L.length slot).2.2 = 0
  · obtain ⟨s, rfl, h2, h3, h4, h5, h6⟩ := splitX_ok hc
    rw [show homeX L (s : Int) = (plcAt L (s / (L.length - 1)) (slotK L.length (s / (L.length - 1)) (s % (L.length - 1))), 0) by unfold homeX; rw [if_pos hc, h4]; rfl]
    rw [h4] at hS
    simp only [] at hS
    clear hc h4 h2 h3
    generalize s / (L.length - 1) = t at *
    generalize slotK L.length t (s % (L.length - 1)) = k at *
    have hpl := fun (W : World) (he : ESl W (.slice oa L.length cap) L) => st_place he HN.out h5 t (by omega)
    obtain ⟨x, y, hxy⟩ : ∃ x y, plcAt L t k = (x, y) := ⟨_, _, rfl⟩
    rw [hxy] at hpl ⊢
    have HPL := Lib.hid hpl
    clear hpl hxy
    have HS := Lib.hid hS
    clear hS
    go_enter Tryz.func17, Tryz.ntmps17
    go_wp2_with (refine stop_at (o := ⟨some 4, _, _, _, _, _⟩) ?_)
    refine Stop.mk ?_
    refine wpList_alloc_abs rfl 47 rfl [.int .i64 0, .int .i64 0] zero_plc ?_
    intro w1 hz hs hn1 hk
    have HR1 := hz; have HK1 := Lib.hid hk; have HE1 := Lib.hid (HH.out.kept hk)
    have HRE := Lib.hid (Nat.le_refl w.heap.size)
    generalize hR : w.heap.size = R at HR1 HRE hs hn1 ⊢
    have HRW := Lib.hid hR
    clear hz hs hn1 hk hR HH
    go_wp2_with fail
    refine Calls.mono (HS.out _) ?_
    rintro e w2 ⟨rfl, hk⟩
    have HR2 := Lib.hid (hk.block HR1.out); have HK2 := Lib.hid (HK1.out.trans hk); have HE2 := Lib.hid (HE1.out.kept hk)
    clear hk HR1 HK1 HE1 HS
    go_wp2_with fail
    refine Calls.mono (HPL.out _ HE2.out) ?_
    rintro e w3 ⟨rfl, hk⟩
    have HR3 := Lib.hid (hk.block HR2.out); have HK3 := Lib.hid (HK2.out.trans hk)
    clear hk HR2 HK2 HE2
    go_wp2_with (refine stop_at (o := ⟨none, .store _ _ _, _, _, _, _⟩) ?_)
    refine Stop.mk ?_
    refine wpList_store_agg rfl _ _ rfl ty_plc R 0 rfl [.int .i64 x, .int .i64 y] rfl rfl (one_plc _ _) _ _ HR3.out (by decide) ?_
    intro w4 hw
    replace hw := hw.all rfl
    have HK4 := Lib.hid (hw.kept HK3.out (by have := HRW.out; omega))
    have HW := Lib.hid hw
    clear hw
    go_wp2
    refine bodyPost_ret (results_plc2 rfl _ _ R x y rfl HW.out.cells) rfl ?_
    exact ⟨rfl, HK4.out⟩
  · rw [show homeX L slot = ((0, 0), (splitX L.length slot).2.2) by unfold homeX; rw [if_neg hc]]
    generalize (splitX L.length slot).1 = x at *
    generalize (splitX L.length slot).2.1 = y at *
    generalize (splitX L.length slot).2.2 = c at *
    have hcb : (c == 0) = false := by simpa using hc
    have HS := Lib.hid hS
    clear hS
    go_enter Tryz.func17, Tryz.ntmps17
    go_wp2_with (refine stop_at (o := ⟨some 4, _, _, _, _, _⟩) ?_)
    refine Stop.mk ?_
    refine wpList_alloc_abs rfl 47 rfl [.int .i64 0, .int .i64 0] zero_plc ?_
    intro w1 hz hs hn1 hk
    have HR1 := hz; have HK1 := Lib.hid hk; have HE1 := Lib.hid (HH.out.kept hk)
    have HRE := Lib.hid (Nat.le_refl w.heap.size)
    generalize hR : w.heap.size = R at HR1 HRE hs hn1 ⊢
    have HRW := Lib.hid hR
    clear hz hs hn1 hk hR HH
    go_wp2_with fail
    refine Calls.mono (HS.out _) ?_
    rintro e w2 ⟨rfl, hk⟩
    have HR2 := Lib.hid (hk.block HR1.out); have HK2 := Lib.hid (HK1.out.trans hk); have HE2 := Lib.hid (HE1.out.kept hk)
    clear hk HR1 HK1 HE1 HS
    go_wp2_with (refine stop_at (o := ⟨none, .store _ _ _, _, _, _, _⟩) ?_)
    refine Stop.mk ?_
    refine wpList_store_agg rfl _ _ rfl ty_plc R 0 rfl [.int .i64 0, .int .i64 0] rfl rfl (one_plc _ _) _ _ HR2.out (by decide) ?_
    intro w4 hw
    replace hw := hw.all rfl
    have HK4 := Lib.hid (hw.kept HK2.out (by have := HRW.out; omega))
    have HW := Lib.hid hw
    clear hw
    go_wp2
    refine bodyPost_ret (results_plc2 rfl _ _ R 0 0 rfl HW.out.cells) rfl ?_
    exact ⟨rfl, HK4.out⟩
theorem st_Parity {v : Value} {L : List (Int × Int)} (h : ESl w v L) (hN : Near L) (t : Int) :
    Calls Tryz.prog 16 #[v, .int .i64 t] w fun e w' => e = .returned (.tuple #[.agg #[.int .i64 (parityX L t).1.1, .int .i64 (parityX L t).1.2], .int .i64 (parityX L t).2]) ∧ Kept w w' := by
  have HH := Lib.hid h; have HN := Lib.hid hN
  obtain ⟨oa, cap, rfl, _⟩ := h
  have hl := hN.1
  clear hN
  have hS := fun W => st_right oa L.length cap hl t W
  by_cases hc : rightX L.length t = 0
  · obtain ⟨t, rfl, h2, h3⟩ := rightX_ok hc
    rw [show parityX L (t : Int) = (plcAt L t (holdN L.length t), 0) by unfold parityX; rw [if_pos hc]; rfl]
    rw [hc] at hS
    have h5 := holdN_lt (w := L.length) (by omega) t
    have HO := Lib.hid fun W => st_holder L.length t (by omega) hl (by omega) W
    clear hc
    generalize holdN L.length t = k at *
    have hpl := fun (W : World) (he : ESl W (.slice oa L.length cap) L) => st_place he HN.out h5 t (by omega)
    obtain ⟨x, y, hxy⟩ : ∃ x y, plcAt L t k = (x, y) := ⟨_, _, rfl⟩
    rw [hxy] at hpl ⊢
    have HPL := Lib.hid hpl
    clear hpl hxy
    have HS := Lib.hid hS
    clear hS
    go_enter Tryz.func16, Tryz.ntmps16
    go_wp2_with (refine stop_at (o := ⟨some 4, _, _, _, _, _⟩) ?_)
    refine Stop.mk ?_
    refine wpList_alloc_abs rfl 47 rfl [.int .i64 0, .int .i64 0] zero_plc ?_
    intro w1 hz hs hn1 hk
    have HR1 := hz; have HK1 := Lib.hid hk; have HE1 := Lib.hid (HH.out.kept hk)
    have HRE := Lib.hid (Nat.le_refl w.heap.size)
    generalize hR : w.heap.size = R at HR1 HRE hs hn1 ⊢
    have HRW := Lib.hid hR
    clear hz hs hn1 hk hR HH
    go_wp2_with fail
    refine Calls.mono (HS.out _) ?_
    rintro e w2 ⟨rfl, rfl⟩
    go_wp2_with fail
    refine Calls.mono (HO.out _) ?_
    rintro e w2 ⟨rfl, rfl⟩
    go_wp2_with fail
    refine Calls.mono (HPL.out _ HE1.out) ?_
    rintro e w3 ⟨rfl, hk⟩
    have HR3 := Lib.hid (hk.block HR1.out); have HK3 := Lib.hid (HK1.out.trans hk)
    clear hk HR1 HK1 HE1
    go_wp2_with (refine stop_at (o := ⟨none, .store _ _ _, _, _, _, _⟩) ?_)
    refine Stop.mk ?_
    refine wpList_store_agg rfl _ _ rfl ty_plc R 0 rfl [.int .i64 x, .int .i64 y] rfl rfl (one_plc _ _) _ _ HR3.out (by decide) ?_
    intro w4 hw
    replace hw := hw.all rfl
    have HK4 := Lib.hid (hw.kept HK3.out (by have := HRW.out; omega))
    have HW := Lib.hid hw
    clear hw
    go_wp2
    refine bodyPost_ret (results_plc2 rfl _ _ R x y rfl HW.out.cells) rfl ?_
    exact ⟨rfl, HK4.out⟩
  · rw [show parityX L t = ((0, 0), rightX L.length t) by unfold parityX; rw [if_neg hc]]
    generalize rightX L.length t = c at *
    have hcb : (c == 0) = false := by simpa using hc
    have HS := Lib.hid hS
    clear hS
    go_enter Tryz.func16, Tryz.ntmps16
    go_wp2_with (refine stop_at (o := ⟨some 4, _, _, _, _, _⟩) ?_)
    refine Stop.mk ?_
    refine wpList_alloc_abs rfl 47 rfl [.int .i64 0, .int .i64 0] zero_plc ?_
    intro w1 hz hs hn1 hk
    have HR1 := hz; have HK1 := Lib.hid hk; have HE1 := Lib.hid (HH.out.kept hk)
    have HRE := Lib.hid (Nat.le_refl w.heap.size)
    generalize hR : w.heap.size = R at HR1 HRE hs hn1 ⊢
    have HRW := Lib.hid hR
    clear hz hs hn1 hk hR HH
    go_wp2_with fail
    refine Calls.mono (HS.out _) ?_
    rintro e w2 ⟨rfl, rfl⟩
    go_wp2_with (refine stop_at (o := ⟨none, .store _ _ _, _, _, _, _⟩) ?_)
    refine Stop.mk ?_
    refine wpList_store_agg rfl _ _ rfl ty_plc R 0 rfl [.int .i64 0, .int .i64 0] rfl rfl (one_plc _ _) _ _ HR1.out (by decide) ?_
    intro w4 hw
    replace hw := hw.all rfl
    have HK4 := Lib.hid (hw.kept HK1.out (by have := HRW.out; omega))
    have HW := Lib.hid hw
    clear hw
    go_wp2
    refine bodyPost_ret (results_plc2 rfl _ _ R 0 0 rfl HW.out.cells) rfl ?_
    exact ⟨rfl, HK4.out⟩
end
end Go.Proofs.YtglplhmclfekfaaGreat
/- parity in memory: fold, all, Xor, Build, Plug, Check. -/
namespace Go.Proofs.YtglplhmclfekfaaGreat
open Go.RowKit
set_option linter.unusedVariables false
set_option linter.unusedSimpArgs false

section
variable {P : Program} {ops : Array Oper} {rest : List Oper} {o o1 o2 : Oper} {a : Act} {w : World} {Q : Exit → Act → World → Prop}
/-- a new variable of an aggregate type, and what it is given -/
theorem wpList_new_rowS (hg1 : o1.guard = none) (hg2 : o2.guard = none) {T n : Nat} (x y : Operand) (ho1 : o1.op = .alloc T) (ho2 : o2.op = .store T x y) (hT : AggT P T n)
    (zs : List Value) (hz : ∀ w, (zeroValue T).run P w = .ok (.agg zs.toArray) w) (hzl : zs.length = n)
    (xs : List Value) (hy : (a.put o1.dst (.pointer (some ⟨w.heap.size, 0, none⟩))).eval y = .agg xs.toArray) (hl : xs.length = n) (h1 : ∀ v ∈ xs, v.oneCell' = true)
    (hx : (a.put o1.dst (.pointer (some ⟨w.heap.size, 0, none⟩))).eval x = .pointer (some ⟨w.heap.size, 0, none⟩))
    (h : ∀ w1, Hid (w1.heap[w.heap.size]? = some (.cells xs.toArray T (0, 0))) → w.heap.size < w1.heap.size → Kept w w1 → wpList P ops Q rest ((a.put o1.dst (.pointer (some ⟨w.heap.size, 0, none⟩))).put o2.dst undef) w1) : wpList P ops Q (o1 :: o2 :: rest) a w := by
  refine wpList_alloc_abs hg1 T ho1 zs hz ?_
  intro w1 hz1 hs1 hn1 hk1
  refine wpList_store_agg hg2 x y ho2 hT w.heap.size 0 hx xs hy hl h1 zs T hz1.out (by omega) ?_
  intro w2 hw2
  replace hw2 := hw2.all (by omega)
  exact h w2 (Lib.hid hw2.blk) (by rw [hw2.size]; exact hs1) (hw2.kept hk1 (Nat.le_refl _))
end
section
variable {P : Program} {ops : Array Oper} {rest : List Oper} {o : Oper} {a : Act} {w : World} {Q : Exit → Act → World → Prop}
theorem wpList_box_rowS (hgd : Region.wanted o (yielded ops a.tmps) = true) (T : TypeId) (x : Operand) (ho : o.op = .box T x) (zs : List Value) (hx : a.eval x = .agg zs.toArray)
    (h : ∀ w1, Hid (w1.heap[w.heap.size]? = some (.cells zs.toArray T (0, 0))) → w.heap.size < w1.heap.size → Kept w w1 → wpList P ops Q rest (a.put o.dst (.pointer (some ⟨w.heap.size, 0, none⟩))) w1) : wpList P ops Q (o :: rest) a w := by
  refine BigFrame.wpList_want hgd fun K hK => ?_
  unfold Oper.wp execOp
  simp only [ho, hx, Instr.box, newVar, newRow, Sem.run_bind, Result.andThen_ok, Sem.run_pure, run_newObj_alloc, Value.cells]
  exact hK _ _ (h _ (Lib.hid (heap_alloc_new w _)) (by simp) ((Kept.refl _).alloc _))
end
theorem size_u8 : (Tryz.prog.info? 5).map (·.size) = some 1 := by kernel_rfl
theorem u8s_at {l : List Int} {W : World} {b : Nat} {t : TypeId} (h : W.heap[b]? = some (.cells (u8s l).toArray t (0, 0))) {k : Nat} (hk : k < l.length) : W.cell? ⟨b, k, none⟩ = some (.int .u8 l[k]) := by
  have := Cells.of_block h k (by rw [u8s_length]; exact hk)
  rw [Nat.zero_add] at this
  rw [this]
  simp [u8s]
theorem u8s_set (l : List Int) (k : Nat) (x : Int) : (u8s l).set k (.int .u8 x) = u8s (l.set k x) := by simp [u8s]
theorem wrote_again {w w1 w2 : World} {B : Nat} {cs cs' : List Value} {t : TypeId} (h1 : Wrote w w1 B cs t) (h2 : Wrote w1 w2 B cs' t) : Wrote w w2 B cs' t :=
  ⟨h2.blk, fun k hk => (h2.oth k hk).trans (h1.oth k hk), h2.size.trans h1.size, h2.os.trans h1.os, h2.tape.trans h1.tape, h2.output.trans h1.output⟩
section
variable {w : World}
set_option maxHeartbeats 1000000
set_option maxRecDepth 100000
theorem fold_bytes {a b : List Int} (ha : IsSec a) (hb : IsSec b) {B C : Nat} (hBC : C ≠ B) {t : TypeId} (hB : w.heap[B]? = some (.cells (u8s a).toArray t (0, 0))) {t' : TypeId} (hC : w.heap[C]? = some (.cells (u8s b).toArray t' (0, 0))) :
    Calls Tryz.prog 91 #[.slice (some ⟨B, 0, none⟩) 64 64, .slice (some ⟨C, 0, none⟩) 64 64] w fun e w' => e = .returned (.tuple #[]) ∧ w'.heap[B]? = some (.cells (u8s (xorS a b)).toArray t (0, 0)) ∧ But (fun j => j = B) w w' := by
  have HA := Lib.hid ha; have HB := Lib.hid hb
  have HBB := Lib.hid hB; have HCC := Lib.hid hC
  have HCL := Lib.hid (Array.getElem?_eq_some_iff.1 hC).1
  clear ha hb hB hC
  go_enter Tryz.func91, Tryz.ntmps91
  go_wp2
  go_loopw [8] (fun i wr => ∃ k : Nat, k ≤ 64 ∧ i = .int .i64 k ∧ Hid (wr.heap[B]? = some (.cells (u8s (foldTo a b k)).toArray t (0, 0))) ∧ Hid (But (fun j => j = B) w wr)) (fun i _ => 64 - (intOf i).toNat)
  case atStart => exact ⟨0, Nat.zero_le _, rfl, Lib.hid (by rw [foldTo_zero]; exact HBB.out), Lib.hid (But.refl _ _)⟩
  case round =>
    obtain ⟨k, hk, rfl, HR, HU⟩ := hrel
    by_cases hlt : k < 64
    · have hka : k < a.length := by rw [HA.out.1]; exact hlt
      have hkb : k < b.length := by rw [HB.out.1]; exact hlt
      have hkf : k < (foldTo a b k).length := by rw [foldTo_len HA.out.1 HB.out.1]; exact hlt
      have hgf : (foldTo a b k)[k] = a[k] := by
        have := foldTo_get HA.out.1 HB.out.1 hlt
        rw [List.getElem?_eq_getElem hkf, List.getElem?_eq_getElem hka] at this
        exact Option.some.inj this
      have c1 := u8s_at ((HU.out.blk hBC HCC.out)) hkb
      have c2 := u8s_at HR.out hkf
      rw [hgf] at c2
      have hx : bits .xor .u8 a[k] b[k] = xorI a[k] b[k] := bits_xorI (HA.out.2 _ (List.getElem_mem hka)) (HB.out.2 _ (List.getElem_mem hkb))
      have HS := Lib.hid (foldTo_succ HA.out.1 HB.out.1 hlt)
      have HLN := Lib.hid hkf
      clear hgf
      generalize a[k]'hka = x at *
      generalize b[k]'hkb = y at *
      clear hka hkb hkf
      go_wp2_with (refine stop_at (o := ⟨none, .store _ _ _, _, _, _, _⟩) ?_)
      refine Stop.mk ?_
      refine wpList_set_cell rfl _ _ rfl size_u8 B k rfl (.int .u8 (xorI x y)) (by first | rfl | (simp only [hx]; rfl) | simp [hx]) rfl rfl _ _ HR.out (by rw [u8s_length]; exact HLN.out) ?_
      intro w2 hw
      rw [u8s_set, HS.out] at hw
      have HR2 := Lib.hid hw.blk
      have HU2 := Lib.hid (HU.out.trans (But.wrote (S := fun j => j = B) hw rfl))
      clear hw HR HU c1 c2 hx HS HLN
      go_wp2
      go_roundw
      case rel => exact ⟨k + 1, hlt, by go_num, HR2, HU2⟩
      case measure => simp [intOf]; omega
    · have : k = 64 := by omega
      subst this
      go_wp2
      go_end0
      refine ⟨rfl, ?_, HU.out⟩
      have := HR.out
      rw [foldTo_all HA.out.1 HB.out.1] at this
      exact this
end
/-- a slice of sectors that reads L -/
def SecSl (W : World) (v : Value) (L : List (List Int)) : Prop := ∃ oa cap, v = .slice oa L.length cap ∧ ∀ k (hk : k < L.length), ∃ b off, oa = some ⟨b, off, none⟩ ∧ b < W.heap.size ∧ Cells W b (off + k * 64) (u8s L[k])
theorem SecSl.kept {W W' : World} {v : Value} {L : List (List Int)} (h : SecSl W v L) (hk : Kept W W') : SecSl W' v L := by
  obtain ⟨oa, cap, e, h⟩ := h
  refine ⟨oa, cap, e, fun k hk' => ?_⟩
  obtain ⟨b, off, e1, e0, e2⟩ := h k hk'
  exact ⟨b, off, e1, Nat.lt_of_lt_of_le e0 hk.size, Cells.kept e2 hk⟩
theorem But.cells {S : Nat → Prop} {a b : World} (h : But S a b) {k off : Nat} {xs : List Value} (hk : k < a.heap.size) (hn : ¬ S k) (hc : Cells a k off xs) : Cells b k off xs := fun j hj => by
  rw [← hc j hj]; exact World.cell?_of_block (h.block k hk hn)
section
variable {w : World}
set_option maxHeartbeats 1000000
set_option maxRecDepth 100000
theorem parity_all {v : Value} {L : List (List Int)} (h : SecSl w v L) (hs : ∀ s ∈ L, IsSec s) (hn : L.length ≤ 100000) :
    Calls Tryz.prog 85 #[v] w fun e w' => e = .returned (secV (xorL L)) ∧ Kept w w' := by
  obtain ⟨oa, cap, rfl, h⟩ := h
  have HH := Lib.hid h; have HS := Lib.hid hs
  clear h hs
  go_enter Tryz.func85, Tryz.ntmps85
  go_wp2_with (refine stop_at (o := ⟨some 2, _, _, _, _, _⟩) ?_)
  refine Stop.mk ?_
  refine wpList_alloc_abs rfl 43 rfl (u8s zeroB) zero_sec ?_
  intro w1 hz1 hs1 hn1 hk1
  have HA1 := hz1; have HK1 := Lib.hid hk1; have HAW := Lib.hid (Nat.le_refl w.heap.size)
  generalize hA : w.heap.size = A at *
  have HAE := Lib.hid hA
  clear hz1 hn1 hk1 hA
  go_wp2_with (refine stop_at (o := ⟨some 3, _, _, _, _, _⟩) ?_)
  refine Stop.mk ?_
  refine wpList_alloc_abs rfl 43 rfl (u8s zeroB) zero_sec ?_
  intro w2 hz2 hs2 hn2 hk2
  have HB2 := hz2; have HA2 := Lib.hid (hk2.block HA1.out); have HK2 := Lib.hid (HK1.out.trans hk2)
  have HAB := Lib.hid hs1
  generalize w1.heap.size = B at *
  clear hz2 hs2 hn2 hk2 hs1 HA1 HK1
  go_wp2
  go_loopw [8] (fun i wr => ∃ k : Nat, k ≤ L.length ∧ i = .int .i64 k ∧ Hid (wr.heap[B]? = some (.cells (u8s (xorL (L.take k))).toArray 43 (0, 0))) ∧ Hid (But (fun j => j = B) w2 wr)) (fun i _ => L.length - (intOf i).toNat)
  case atStart => exact ⟨0, Nat.zero_le _, rfl, Lib.hid (by simpa [xorL] using HB2.out), Lib.hid (But.refl _ _)⟩
  case round =>
    obtain ⟨k, hk, rfl, HR, HU⟩ := hrel
    by_cases hlt : k < L.length
    · obtain ⟨b, off, rfl, hbl, hc⟩ := HH.out k hlt
      have HSK := Lib.hid (HS.out _ (List.getElem_mem hlt))
      have HXK := Lib.hid (xorL_sec (L := L.take k) (fun s hs => HS.out s (List.mem_of_mem_take hs)))
      have HXN : Hid (xorL (L.take (k + 1)) = xorS (xorL (L.take k)) L[k]) := Lib.hid (by rw [List.take_succ_eq_append_getElem hlt, xorL_snoc])
      have HCC := Lib.hid (HU.out.cells (by have := HK2.out.size; have := HAE.out; omega) (by have := HAB.out; have := HAE.out; omega) (Cells.kept hc HK2.out))
      clear hc hbl HH
      generalize L[k]'hlt = s at *
      generalize xorL (L.take k) = x at *
      go_wp2_with (refine stop_at (o := ⟨some 11, _, _, _, _, _⟩) ?_)
      refine Stop.mk ?_
      refine wpList_load_agg rfl _ rfl ty_sec b (off + k * 64) rfl (u8s s) HCC.out (by rw [u8s_length, HSK.out.1]) ?_
      go_wp2_with (refine stop_at (o := ⟨some 5, _, _, _, _, _⟩) ?_)
      refine Stop.mk ?_
      refine wpList_new_rowS rfl rfl _ _ rfl rfl ty_sec (u8s zeroB) zero_sec (by rw [u8s_length, zeroB_length]) (u8s s) rfl (by rw [u8s_length, HSK.out.1]) (u8s_one _) rfl ?_
      intro w3 hz hs3 hk3
      have HC3 := hz
      have HBC : Hid (wr.heap.size ≠ B) := Lib.hid (by have := (Array.getElem?_eq_some_iff.1 HR.out).1; omega)
      have HR3 := Lib.hid (hk3.block HR.out)
      have HU3 := Lib.hid (HU.out.keep hk3)
      generalize wr.heap.size = C at *
      clear hz hs3 hk3 HR HU HCC
      go_wp2_with fail
      simp only [Act.put, List.getElem_toArray, List.getElem_cons_succ, List.getElem_cons_zero, List.setIfInBounds_toArray, List.set_cons_zero, List.set_cons_succ]
      refine wp_still_tail 2 (by kernel_rfl) (by kernel_rfl) fun ws hks hhs => ?_
      have HR4 := Lib.hid (hks.block HR3.out); have HC4 := Lib.hid (hks.block HC3.out); have HU4 := Lib.hid (HU3.out.keep hks)
      simp only [List.take_succ_cons, List.take_zero, List.drop_succ_cons, List.drop_zero]
      iterate 2 still_step
      refine wpStill_nil ?_
      clear hks hhs HR3 HC3 HU3
      go_wp2_with fail
      refine Calls.mono (fold_bytes HXK.out HSK.out HBC.out HR4.out HC4.out) ?_
      rintro e w5 ⟨rfl, hb, hu⟩
      have HR5 : Hid (w5.heap[B]? = some (.cells (u8s (xorL (L.take (k + 1)))).toArray 43 (0, 0))) := Lib.hid (by rw [HXN.out]; exact hb)
      have HU5 := Lib.hid (HU4.out.trans hu)
      clear hb hu HR4 HC4 HU4 HXK HSK HXN
      go_wp2
      go_roundw
      case rel => exact ⟨k + 1, hlt, by go_num, HR5, HU5⟩
      case measure => simp [intOf]; omega
    · have hkl : k = L.length := by omega
      subst hkl
      have HZ := Lib.hid (xorL_sec HS.out)
      have HR2 : Hid (wr.heap[B]? = some (.cells (u8s (xorL L)).toArray 43 (0, 0))) := Lib.hid (by have := HR.out; rw [List.take_length] at this; exact this)
      have HA3 := Lib.hid (HU.out.blk (show A ≠ B by have := HAB.out; omega) HA2.out)
      clear HR HH
      go_wp2_with (refine stop_at (o := ⟨some 16, _, _, _, _, _⟩) ?_)
      refine Stop.mk ?_
      refine wpList_load_agg rfl _ rfl ty_sec B 0 rfl (u8s (xorL L)) (by simpa using Cells.of_block HR2.out) (by rw [u8s_length, HZ.out.1]) ?_
      refine wpList_store_agg rfl _ _ rfl ty_sec A 0 rfl (u8s (xorL L)) rfl (by rw [u8s_length, HZ.out.1]) (u8s_one _) _ _ HA3.out (by rw [u8s_length, zeroB_length]; decide) ?_
      intro w5 hw
      replace hw := hw.all (by rw [u8s_length, u8s_length, HZ.out.1, zeroB_length])
      have HK5 : Hid (Kept w w5) := Lib.hid (hw.kept (But.to_kept HK2.out HU.out (fun i hi => by subst hi; have := HAB.out; have := HAE.out; omega)) (by have := HAE.out; omega))
      have HW := Lib.hid hw
      clear hw
      go_wp2
      refine bodyPost_ret (results_sec1 rfl _ _ A (xorL L) rfl HW.out.cells HZ.out.1) rfl ?_
      exact ⟨rfl, HK5.out⟩
end

theorem secs_info' : (Tryz.prog.info? 43).map (fun i => (i.zero, i.size, i.bytes)) = some (some (.agg (List.replicate 64 (.int .u8 0)).toArray), 64, 64) := by kernel_rfl
def secsV (L : List (List Int)) : List Value := L.flatMap u8s
theorem secsV_len : ∀ (L : List (List Int)), (∀ s ∈ L, s.length = 64) → (secsV L).length = L.length * 64
  | [], _ => rfl
  | s :: L, h => by
    have := secsV_len L (fun t ht => h t (by simp [ht]))
    simp only [secsV, List.flatMap_cons, List.length_append, u8s_length, List.length_cons] at this ⊢
    have := h s (by simp)
    omega
theorem secsV_at (L : List (List Int)) (h : ∀ s ∈ L, s.length = 64) (k : Nat) (hk : k < L.length * 64) : (secsV L)[k]? = (u8s (L.getD (k / 64) []))[k % 64]? := by
  have hq : k / 64 < L.length := by omega
  have := flatMap_at L u8s 64 (fun s hs => by rw [u8s_length]; exact h s hs) (k / 64) (k % 64) hq (by omega)
  rw [show k / 64 * 64 + k % 64 = k by omega] at this
  rw [List.getD_eq_getElem?_getD, List.getElem?_eq_getElem hq]
  exact this
theorem fill_secsV (L : List (List Int)) (hL : ∀ s ∈ L, s.length = 64) (cells : Array Value) (hc : cells.size = L.length * 64) :
    Instr.fill (fun i => some (i * 64, 64)) cells (((L.map fun s => Value.agg (u8s s).toArray).zipIdx 0).map fun x => (x.2, x.1)) = some (secsV L).toArray := by
  obtain ⟨r, hr, hsz, hk⟩ := Great.fill_dense (s := 64) (by decide) (L.map fun s => Value.agg (u8s s).toArray) 0 cells (fun v hv => by
    obtain ⟨s, hs, rfl⟩ := List.mem_map.1 hv
    show (u8s s).toArray.size = 64
    rw [List.size_toArray, u8s_length, hL s hs]) (by rw [hc, List.length_map]; omega)
  refine hr.trans (congrArg some (Array.ext_getElem? fun k => ?_))
  rw [hk k, List.length_map]
  by_cases h : k < L.length * 64
  · have hq : k / 64 < L.length := by omega
    have e1 : (L.map fun s => Value.agg (u8s s).toArray)[k / 64]? = some (.agg (u8s L[k / 64]).toArray) := by rw [List.getElem?_map, List.getElem?_eq_getElem hq]; rfl
    have e2 : L.getD (k / 64) [] = L[k / 64] := by rw [List.getD_eq_getElem?_getD, List.getElem?_eq_getElem hq]; rfl
    rw [if_pos ⟨by omega, by omega⟩, List.getElem?_toArray, secsV_at L hL k h, Nat.sub_zero, e1, e2]
    simp [Value.cells]
  · rw [if_neg (by omega), Array.getElem?_eq_none (by omega), Array.getElem?_eq_none (by rw [List.size_toArray, secsV_len L hL]; omega)]
theorem secsV_sl {W : World} {b : Nat} {t : TypeId} {cap : Nat} {L : List (List Int)} (hL : ∀ s ∈ L, s.length = 64) (h : W.heap[b]? = some (.cells (secsV L).toArray t (0, 0))) : SecSl W (.slice (some ⟨b, 0, none⟩) L.length cap) L := by
  refine ⟨_, cap, rfl, fun k hk => ⟨b, 0, rfl, (Array.getElem?_eq_some_iff.1 h).1, fun j hj => ?_⟩⟩
  have hl := hL _ (List.getElem_mem hk)
  have hj2 : j < 64 := by rw [u8s_length, hl] at hj; exact hj
  have hlt : k * 64 + j < (secsV L).length := by rw [secsV_len L hL]; omega
  have h1 := Cells.of_block h (k * 64 + j) hlt
  rw [show 0 + k * 64 + j = 0 + (k * 64 + j) by omega, h1]
  have h2 := secsV_at L hL (k * 64 + j) (by omega)
  rw [show (k * 64 + j) / 64 = k by omega, show (k * 64 + j) % 64 = j by omega, List.getD_eq_getElem?_getD, List.getElem?_eq_getElem hk, Option.getD_some, List.getElem?_eq_getElem hlt, List.getElem?_eq_getElem hj] at h2
  exact h2
/-- '[]api.Sector{..}' -/
theorem wpList_secs {ops : Array Oper} {rest : List Oper} {o : Oper} {a : Act} {w : World} {Q : Exit → Act → World → Prop} (hg : o.guard = none) (n : Nat) (parts : Array (Nat × Operand)) (ho : o.op = .buildSlice 56 n parts) (L : List (List Int)) (hn : L.length = n) (h0 : n ≠ 0) (h9 : n ≤ 1000) (hL : ∀ s ∈ L, s.length = 64)
    (hx : (parts.map fun (i, x) => ((i, a.eval x) : Nat × Value)).toList = ((L.map fun s => Value.agg (u8s s).toArray).zipIdx 0).map fun x => (x.2, x.1))
    (h : ∀ w1, Hid (w1.heap[w.heap.size]? = some (.cells (secsV L).toArray 43 (0, 0))) → w.heap.size < w1.heap.size → Kept w w1 → wpList Tryz.prog ops Q rest (a.put o.dst (.slice (some ⟨w.heap.size, 0, none⟩) n n)) w1) : wpList Tryz.prog ops Q (o :: rest) a w := by
  have h1 := secs_info'
  cases hi : Tryz.prog.info? 43 with
  | none => simp [hi] at h1
  | some i =>
    simp only [hi, Option.map_some, Option.some.injEq, Prod.mk.injEq] at h1
    refine wpList_buildSlice hg _ 43 n _ ho (secsV L).toArray i _ Tryz.underlying56 hi h1.1 (by rw [h1.2.1]; omega) (by rw [h1.2.1]; omega) ?_ (h _ (Lib.hid (heap_alloc_new w _)) (by simp) ((Kept.refl _).alloc _))
    rw [hx, h1.2.1]
    exact fill_secsV L hL _ (by simp [hn])
section
variable {w : World}
set_option maxHeartbeats 1000000
set_option maxRecDepth 100000
theorem parity_Xor {a b : List Int} (ha : IsSec a) (hb : IsSec b) (w : World) :
    Calls Tryz.prog 86 #[.agg (u8s a).toArray, .agg (u8s b).toArray] w fun e w' => e = .returned (secV (xorS a b)) ∧ Kept w w' := by
  have HA := Lib.hid ha; have HB := Lib.hid hb
  have HL : Hid (∀ s ∈ [a, b], IsSec s) := Lib.hid (by intro s hs; simp at hs; rcases hs with rfl | rfl; exact HA.out; exact HB.out)
  clear ha hb
  go_enter Tryz.func86, Tryz.ntmps86
  go_wp2_with (refine stop_at (o := ⟨some 2, _, _, _, _, _⟩) ?_)
  refine Stop.mk ?_
  refine wpList_box_rowS rfl _ _ rfl (u8s a) rfl ?_
  intro w1 hz hs hk
  have HXA1 := hz
  have HK1 := Lib.hid hk
  have HWS := Lib.hid (Nat.le_refl w.heap.size)
  generalize hPA : w.heap.size = PA at *
  have HPE := Lib.hid hPA
  clear hPA
  clear hz hs hk
  go_wp2_with (refine stop_at (o := ⟨some 3, _, _, _, _, _⟩) ?_)
  refine Stop.mk ?_
  refine wpList_box_rowS rfl _ _ rfl (u8s b) rfl ?_
  intro w2 hz hs hk
  have HXB2 := hz
  have HXA2 := Lib.hid (hk.block HXA1.out)
  have HK2 := Lib.hid (HK1.out.trans hk)
  generalize w1.heap.size = PB at *
  clear hz hs hk HXA1 HK1
  go_wp2_with (refine stop_at (o := ⟨some 4, _, _, _, _, _⟩) ?_)
  refine Stop.mk ?_
  refine wpList_alloc_abs rfl 43 rfl (u8s zeroB) zero_sec ?_
  intro w3 hz hs hn hk
  have HR3 := hz
  have HXA3 := Lib.hid (hk.block HXA2.out)
  have HXB3 := Lib.hid (hk.block HXB2.out)
  have HK3 := Lib.hid (HK2.out.trans hk)
  have HRW : Hid (PA ≤ w2.heap.size) := Lib.hid (by have := HK2.out.size; have := HPE.out; omega)
  generalize w2.heap.size = R at *
  clear hz hs hn hk HXA2 HXB2 HK2
  go_wp2_with (refine stop_at (o := ⟨some 5, _, _, _, _, _⟩) ?_)
  refine Stop.mk ?_
  refine wpList_load_agg rfl _ rfl ty_sec PA 0 rfl (u8s a) (by simpa using Cells.of_block HXA3.out) (by rw [u8s_length, HA.out.1]) ?_
  go_wp2_with (refine stop_at (o := ⟨some 6, _, _, _, _, _⟩) ?_)
  refine Stop.mk ?_
  refine wpList_load_agg rfl _ rfl ty_sec PB 0 rfl (u8s b) (by simpa using Cells.of_block HXB3.out) (by rw [u8s_length, HB.out.1]) ?_
  go_wp2_with (refine stop_at (o := ⟨some 7, _, _, _, _, _⟩) ?_)
  refine Stop.mk ?_
  refine wpList_secs rfl 2 _ rfl [a, b] rfl (by decide) (by decide) (fun s hs => (HL.out s hs).1) (by simp [Act.eval, List.zipIdx]) ?_
  intro w4 hz hs hk
  have HS4 := Lib.hid (secsV_sl (cap := 2) (fun s hs => (HL.out s hs).1) hz.out)
  have HR4 := Lib.hid (hk.block HR3.out)
  have HK4 := Lib.hid (HK3.out.trans hk)
  generalize w3.heap.size = G at *
  clear hz hs hk HR3 HK3 HXA3 HXB3
  go_wp2_with fail
  refine Calls.mono (parity_all HS4.out HL.out (by simp)) ?_
  rintro e w5 ⟨rfl, hk⟩
  have HR5 := Lib.hid (hk.block HR4.out)
  have HK5 := Lib.hid (HK4.out.trans hk)
  clear hk HR4 HK4 HS4
  rw [show xorL [a, b] = xorS a b from xorL_two HA.out HB.out]
  have HZ := Lib.hid (xorS_sec HA.out HB.out)
  go_wp2_with (refine stop_at (o := ⟨none, .store _ _ _, _, _, _, _⟩) ?_)
  refine Stop.mk ?_
  refine wpList_store_agg rfl _ _ rfl ty_sec R 0 rfl (u8s (xorS a b)) rfl (by rw [u8s_length, HZ.out.1]) (u8s_one _) _ _ HR5.out (by rw [u8s_length, zeroB_length]; decide) ?_
  intro w9 hw
  replace hw := hw.all (by rw [u8s_length, u8s_length, HZ.out.1, zeroB_length])
  have HK9 := Lib.hid (hw.kept HK5.out (by have := HRW.out; have := HPE.out; omega))
  have HW := Lib.hid hw
  clear hw
  go_wp2
  refine bodyPost_ret (results_sec1 rfl _ _ R (xorS a b) rfl HW.out.cells HZ.out.1) rfl ?_
  exact ⟨rfl, HK9.out⟩
theorem xorL_three {a b c : List Int} (ha : IsSec a) (hb : IsSec b) (hc : IsSec c) : xorL [a, b, c] = xorS (xorS a b) c := by
  show xorS (xorS (xorS zeroB a) b) c = _
  rw [xorS_comm zeroB a, xorS_zero ha]
theorem parity_Plug {a b c : List Int} (ha : IsSec a) (hb : IsSec b) (hc : IsSec c) (w : World) :
    Calls Tryz.prog 70 #[.agg (u8s a).toArray, .agg (u8s b).toArray, .agg (u8s c).toArray] w fun e w' => e = .returned (secV (xorS (xorS a b) c)) ∧ Kept w w' := by
  have HA := Lib.hid ha; have HB := Lib.hid hb; have HC := Lib.hid hc
  have HL : Hid (∀ s ∈ [a, b, c], IsSec s) := Lib.hid (by intro s hs; simp at hs; rcases hs with rfl | rfl | rfl; exact HA.out; exact HB.out; exact HC.out)
  clear ha hb hc
  go_enter Tryz.func70, Tryz.ntmps70
  go_wp2_with (refine stop_at (o := ⟨some 3, _, _, _, _, _⟩) ?_)
  refine Stop.mk ?_
  refine wpList_box_rowS rfl _ _ rfl (u8s a) rfl ?_
  intro w1 hz hs hk
  have HXA1 := hz
  have HK1 := Lib.hid hk
  have HWS := Lib.hid (Nat.le_refl w.heap.size)
  generalize hPA : w.heap.size = PA at *
  have HPE := Lib.hid hPA
  clear hPA
  clear hz hs hk
  go_wp2_with (refine stop_at (o := ⟨some 4, _, _, _, _, _⟩) ?_)
  refine Stop.mk ?_
  refine wpList_box_rowS rfl _ _ rfl (u8s b) rfl ?_
  intro w2 hz hs hk
  have HXB2 := hz
  have HXA2 := Lib.hid (hk.block HXA1.out)
  have HK2 := Lib.hid (HK1.out.trans hk)
  generalize w1.heap.size = PB at *
  clear hz hs hk HXA1 HK1
  go_wp2_with (refine stop_at (o := ⟨some 5, _, _, _, _, _⟩) ?_)
  refine Stop.mk ?_
  refine wpList_box_rowS rfl _ _ rfl (u8s c) rfl ?_
  intro w3 hz hs hk
  have HXC3 := hz
  have HXA3 := Lib.hid (hk.block HXA2.out)
  have HXB3 := Lib.hid (hk.block HXB2.out)
  have HK3 := Lib.hid (HK2.out.trans hk)
  generalize w2.heap.size = PC at *
  clear hz hs hk HXA2 HXB2 HK2
  go_wp2_with (refine stop_at (o := ⟨some 6, _, _, _, _, _⟩) ?_)
  refine Stop.mk ?_
  refine wpList_alloc_abs rfl 43 rfl (u8s zeroB) zero_sec ?_
  intro w4 hz hs hn hk
  have HR4 := hz
  have HXA4 := Lib.hid (hk.block HXA3.out)
  have HXB4 := Lib.hid (hk.block HXB3.out)
  have HXC4 := Lib.hid (hk.block HXC3.out)
  have HK4 := Lib.hid (HK3.out.trans hk)
  have HRW : Hid (PA ≤ w3.heap.size) := Lib.hid (by have := HK3.out.size; have := HPE.out; omega)
  generalize w3.heap.size = R at *
  clear hz hs hn hk HXA3 HXB3 HXC3 HK3
  go_wp2_with (refine stop_at (o := ⟨some 7, _, _, _, _, _⟩) ?_)
  refine Stop.mk ?_
  refine wpList_load_agg rfl _ rfl ty_sec PA 0 rfl (u8s a) (by simpa using Cells.of_block HXA4.out) (by rw [u8s_length, HA.out.1]) ?_
  go_wp2_with (refine stop_at (o := ⟨some 8, _, _, _, _, _⟩) ?_)
  refine Stop.mk ?_
  refine wpList_load_agg rfl _ rfl ty_sec PB 0 rfl (u8s b) (by simpa using Cells.of_block HXB4.out) (by rw [u8s_length, HB.out.1]) ?_
  go_wp2_with (refine stop_at (o := ⟨some 9, _, _, _, _, _⟩) ?_)
  refine Stop.mk ?_
  refine wpList_load_agg rfl _ rfl ty_sec PC 0 rfl (u8s c) (by simpa using Cells.of_block HXC4.out) (by rw [u8s_length, HC.out.1]) ?_
  go_wp2_with (refine stop_at (o := ⟨some 10, _, _, _, _, _⟩) ?_)
  refine Stop.mk ?_
  refine wpList_secs rfl 3 _ rfl [a, b, c] rfl (by decide) (by decide) (fun s hs => (HL.out s hs).1) (by simp [Act.eval, List.zipIdx]) ?_
  intro w5 hz hs hk
  have HS5 := Lib.hid (secsV_sl (cap := 3) (fun s hs => (HL.out s hs).1) hz.out)
  have HR5 := Lib.hid (hk.block HR4.out)
  have HK5 := Lib.hid (HK4.out.trans hk)
  generalize w4.heap.size = G at *
  clear hz hs hk HR4 HK4 HXA4 HXB4 HXC4
  go_wp2_with fail
  refine Calls.mono (parity_all HS5.out HL.out (by simp)) ?_
  rintro e w6 ⟨rfl, hk⟩
  have HR6 := Lib.hid (hk.block HR5.out)
  have HK6 := Lib.hid (HK5.out.trans hk)
  clear hk HR5 HK5 HS5
  rw [show xorL [a, b, c] = xorS (xorS a b) c from xorL_three HA.out HB.out HC.out]
  have HZ := Lib.hid (xorS_sec (xorS_sec HA.out HB.out) HC.out)
  go_wp2_with (refine stop_at (o := ⟨none, .store _ _ _, _, _, _, _⟩) ?_)
  refine Stop.mk ?_
  refine wpList_store_agg rfl _ _ rfl ty_sec R 0 rfl (u8s (xorS (xorS a b) c)) rfl (by rw [u8s_length, HZ.out.1]) (u8s_one _) _ _ HR6.out (by rw [u8s_length, zeroB_length]; decide) ?_
  intro w9 hw
  replace hw := hw.all (by rw [u8s_length, u8s_length, HZ.out.1, zeroB_length])
  have HK9 := Lib.hid (hw.kept HK6.out (by have := HRW.out; have := HPE.out; omega))
  have HW := Lib.hid hw
  clear hw
  go_wp2
  refine bodyPost_ret (results_sec1 rfl _ _ R (xorS (xorS a b) c) rfl HW.out.cells HZ.out.1) rfl ?_
  exact ⟨rfl, HK9.out⟩
theorem parity_Build {v : Value} {L : List (List Int)} (h : SecSl w v L) (hs : ∀ s ∈ L, IsSec s) (hn : L.length ≤ 100000) :
    Calls Tryz.prog 58 #[v] w fun e w' => e = .returned (secV (xorL L)) ∧ Kept w w' := by
  have HH := Lib.hid h; have HS := Lib.hid hs
  have HZ := Lib.hid (xorL_sec hs)
  obtain ⟨oa, cap, rfl, _⟩ := h
  clear hs
  go_enter Tryz.func58, Tryz.ntmps58
  go_wp2_with (refine stop_at (o := ⟨some 2, _, _, _, _, _⟩) ?_)
  refine Stop.mk ?_
  refine wpList_alloc_abs rfl 43 rfl (u8s zeroB) zero_sec ?_
  intro w1 hz hs hn1 hk
  have HR1 := hz; have HS1 := Lib.hid (HH.out.kept hk); have HK1 := Lib.hid hk
  have HRW := Lib.hid (Nat.le_refl w.heap.size)
  generalize hR : w.heap.size = R at HR1 HRW hs hn1 ⊢
  have HRE := Lib.hid hR
  clear hz hs hn1 hk hR HH
  go_wp2_with fail
  refine Calls.mono (parity_all HS1.out HS.out hn) ?_
  rintro e w2 ⟨rfl, hk⟩
  have HR2 := Lib.hid (hk.block HR1.out); have HK2 := Lib.hid (HK1.out.trans hk)
  clear hk HR1 HK1 HS1
  go_wp2_with (refine stop_at (o := ⟨none, .store _ _ _, _, _, _, _⟩) ?_)
  refine Stop.mk ?_
  refine wpList_store_agg rfl _ _ rfl ty_sec R 0 rfl (u8s (xorL L)) rfl (by rw [u8s_length, HZ.out.1]) (u8s_one _) _ _ HR2.out (by rw [u8s_length, zeroB_length]; decide) ?_
  intro w9 hw
  replace hw := hw.all (by rw [u8s_length, u8s_length, HZ.out.1, zeroB_length])
  have HK9 := Lib.hid (hw.kept HK2.out (by have := HRE.out; omega))
  have HW := Lib.hid hw
  clear hw
  go_wp2
  refine bodyPost_ret (results_sec1 rfl _ _ R (xorL L) rfl HW.out.cells HZ.out.1) rfl ?_
  exact ⟨rfl, HK9.out⟩
end
end Go.Proofs.YtglplhmclfekfaaGreat
/- stripe.data: the places of a stripe, one by one. -/
namespace Go.Proofs.YtglplhmclfekfaaGreat
open Go.RowKit Go.Shelf
set_option linter.unusedVariables false
set_option linter.unusedSimpArgs false
attribute [local go_sem] Oper.semAt_some

/-- the slice v reads L, in a block below n₀ -/
def ESb (n₀ : Nat) (W : World) (v : Value) (L : List (Int × Int)) : Prop := ∃ oa cap, v = .slice oa L.length cap ∧ ∀ k, k < L.length → ∃ b off, oa = some ⟨b, off, none⟩ ∧ b < n₀ ∧ W.cell? ⟨b, off + k * 2, none⟩ = some (.int .i64 (L.getD k (0, 0)).1) ∧ W.cell? ⟨b, off + k * 2 + 1, none⟩ = some (.int .i64 (L.getD k (0, 0)).2)
theorem ESb.below {n₀ : Nat} {A B : World} {v : Value} {L : List (Int × Int)} (h : ESb n₀ A v L) (hb : Below n₀ A B) : ESb n₀ B v L := by
  obtain ⟨oa, cap, e, h⟩ := h
  refine ⟨oa, cap, e, fun k hk => ?_⟩
  obtain ⟨b, off, e1, e2, e3, e4⟩ := h k hk
  exact ⟨b, off, e1, e2, (hb.cell (p := ⟨b, _, none⟩) e2).trans e3, (hb.cell (p := ⟨b, _, none⟩) e2).trans e4⟩
theorem ESb.sl {n₀ : Nat} {W : World} {v : Value} {L : List (Int × Int)} (h : ESb n₀ W v L) (hn : n₀ ≤ W.heap.size) : ESl W v L := by
  obtain ⟨oa, cap, e, h⟩ := h
  refine ⟨oa, cap, e, fun k hk => ?_⟩
  obtain ⟨b, off, e1, e2, e3, e4⟩ := h k hk
  exact ⟨b, off, e1, Nat.lt_of_lt_of_le e2 hn, e3, e4⟩
theorem ESl.sb {W : World} {v : Value} {L : List (Int × Int)} (h : ESl W v L) : ESb W.heap.size W v L := h
section
set_option maxHeartbeats 1000000
set_option maxRecDepth 100000
theorem data_in (n : Nat) (oa : Option Addr) (len cap : Nat) (t skip : Int) (w : World) :
    CallsIn Fence.wide n Tryz.prog 56 #[.slice oa len cap, .int .i64 t, .int .i64 skip] w fun e w' => e = .returned (.func (.func 84) #[] #[.pointer (some ⟨w.heap.size, 0, none⟩), .pointer (some ⟨w.heap.size + 1, 0, none⟩), .pointer (some ⟨w.heap.size + 2, 0, none⟩)]) ∧
      w' = ((w.alloc (.cells #[.slice oa len cap] 22)).alloc (.cells #[.int .i64 t] 3)).alloc (.cells #[.int .i64 skip] 3) := by
  refine callsIn_of_wp Tryz.func56 rfl trivial ?_ rfl
  simp only [Tryz.ntmps56, List.size_toArray, List.length_cons, List.length_nil, Nat.reduceAdd, Nat.reduceSub, Array.replicate_succ, Array.replicate_zero, List.push_toArray, List.append_toArray, List.nil_append, List.cons_append]
  gi_wp2
  go_ret
  exact ⟨rfl, rfl⟩
theorem kept_grown {W W' : World} (hk : Kept W W') : W.grownBy W' none := ⟨hk.os, hk.tape, hk.output, hk.size, fun k hk' _ => hk.block_eq hk'⟩
theorem below_kept {n₀ : Nat} {W W' : World} (hk : Kept W W') (hn : n₀ ≤ W.heap.size) : Below n₀ W W' := hk.mono hn
/-- what lay below n₀ and the three boxes from B on are kept -/
def Kd (n₀ B : Nat) (W W' : World) : Prop := Below n₀ W W' ∧ ∀ k, B ≤ k → k < B + 3 → k < W.heap.size → W'.heap[k]? = W.heap[k]?
theorem Kd.refl (n₀ B : Nat) (W : World) : Kd n₀ B W W := ⟨Below.refl _ _, fun _ _ _ _ => rfl⟩
theorem Kd.trans {n₀ B : Nat} {X Y Z : World} (h : Kd n₀ B X Y) (k : Kd n₀ B Y Z) : Kd n₀ B X Z := ⟨h.1.trans k.1, fun i h1 h2 h3 => (k.2 i h1 h2 (Nat.lt_of_lt_of_le h3 h.1.size)).trans (h.2 i h1 h2 h3)⟩
theorem Kd.kept {n₀ B : Nat} {X Y : World} (h : Kept X Y) (hn : n₀ ≤ X.heap.size) : Kd n₀ B X Y := ⟨below_kept h hn, fun _ _ _ h3 => h.block_eq h3⟩
theorem Kd.cell {n₀ B : Nat} {X Y : World} (h : Kd n₀ B X Y) {k : Nat} (h1 : B ≤ k) (h2 : k < B + 3) (h3 : k < X.heap.size) : Y.cell? ⟨k, 0, none⟩ = X.cell? ⟨k, 0, none⟩ := World.cell?_of_block (a := ⟨k, 0, none⟩) (h.2 k h1 h2 h3)
/-- what a round has of data's closure: for every body that keeps what lay below n₀ -/
theorem data1_in (n : Nat) (hn : 2 ≤ n) (l B n₀ : Nat) {v : Value} {L : List (Int × Int)} (hN : Near L) (hL1 : 1 ≤ L.length) (t : Nat) (ht : t ≤ 1000) (skip : Int) (J Jx : List (Int × Int) → World → Prop) (W : World) (hJ : AbidesFrom W.heap.size J)
    (hY : ∀ pre x W1, J pre W1 → pre.length < L.length → YieldAt Fence.wide (n - 1) Tryz.prog l #[.agg #[.int .i64 x.1, .int .i64 x.2]] W1 fun e W' =>
      (e = .returned (.bool true) ∧ J (pre ++ [x]) W' ∧ Kd n₀ B W1 W') ∨ (e = .returned (.bool false) ∧ Jx (pre ++ [x]) W'))
    (hn₀ : n₀ ≤ W.heap.size) (h3 : B + 2 < W.heap.size)
    (c1 : W.cell? ⟨B, 0, none⟩ = some v) (c2 : W.cell? ⟨B + 1, 0, none⟩ = some (.int .i64 (t : Int))) (c3 : W.cell? ⟨B + 2, 0, none⟩ = some (.int .i64 skip)) (hL : ESb n₀ W v L) (h0 : J [] W) :
    CallsIn Fence.wide n Tryz.prog 84 #[.func (.yield l) #[] #[], .pointer (some ⟨B, 0, none⟩), .pointer (some ⟨B + 1, 0, none⟩), .pointer (some ⟨B + 2, 0, none⟩)] W fun e W' => (∃ v, e = .returned v) ∧
      ((∃ ys, ys = dataS L t skip ∧ J ys W') ∨ (∃ pre, True ∧ Jx pre W')) := by
  have HL := Lib.hid hL; have HN := Lib.hid hN; have HJ := Lib.hid hJ; have HY := Lib.hid hY
  obtain ⟨oa, cap, rfl, _⟩ := hL
  have hlen := hN.1
  clear hN hJ hY
  have HH := Lib.hid fun W => st_holder L.length t hL1 hlen ht W
  obtain ⟨hd, hhd⟩ : ∃ hd, holdN L.length t = hd := ⟨_, rfl⟩
  have HHD := Lib.hid hhd
  rw [hhd] at HH
  clear hhd
  refine callsIn_of_wp Tryz.func84 rfl trivial ?_ rfl
  simp only [Tryz.ntmps84, List.size_toArray, List.length_cons, List.length_nil, Nat.reduceAdd, Nat.reduceSub, Array.replicate_succ, Array.replicate_zero, List.push_toArray, List.append_toArray, List.nil_append, List.cons_append]
  gi_wp2
  gi_loopw [8] (fun i wr => ∃ k : Nat, k ≤ L.length ∧ i = .int .i64 k ∧ Hid (J (dataTo L t skip k) wr) ∧ Hid (Kd n₀ B W wr)) (fun i _ => L.length - (intOf i).toNat)
  case atStart => exact ⟨0, Nat.zero_le _, rfl, Lib.hid h0, Lib.hid (Kd.refl _ _ _)⟩
  case round =>
    obtain ⟨k, hk, rfl, HJK, HB⟩ := hrel
    have d1 := (HB.out.cell (Nat.le_refl B) (by omega) (by omega)).trans c1
    have d2 := (HB.out.cell (show B ≤ B + 1 by omega) (by omega) (by omega)).trans c2
    have d3 := (HB.out.cell (show B ≤ B + 2 by omega) (by omega) (by omega)).trans c3
    by_cases hlt : k < L.length
    · have hdl : Hid (dataTo L t skip (k + 1) = if k ≠ hd ∧ (k : Int) ≠ skip then dataTo L t skip k ++ [plcAt L t k] else dataTo L t skip k) := Lib.hid (by show (if k ≠ holdN L.length t ∧ (k : Int) ≠ skip then _ else _) = _; rw [HHD.out])
      by_cases e1 : k = hd
      · have t1 : ((k : Int) != (hd : Int)) = false := by simp [e1]
        have HJ2 : Hid (J (dataTo L t skip (k + 1)) wr) := Lib.hid (by rw [hdl.out, if_neg (fun h => h.1 e1)]; exact HJK.out)
        clear e1 hdl HJK HY HJ
        gi_wp2_with fail
        refine ⟨trivial, fun _ => by omega, ?_⟩
        refine (callsIn_wide.2 (HH.out _)).mono ?_
        rintro e w' ⟨rfl, rfl⟩
        gi_wp2
        refine ⟨trivial, ?_⟩
        gi_wp2
        refine ⟨fun _ h => (by cases h), ?_⟩
        gi_wp2
        go_roundw
        case rel => exact ⟨k + 1, hlt, by go_num, HJ2, HB⟩
        case measure => simp [intOf]; omega
      · have t1 : ((k : Int) != (hd : Int)) = true := by simp; omega
        by_cases e2 : (k : Int) = skip
        · have t2 : ((k : Int) != skip) = false := by simp [e2]
          have HJ2 : Hid (J (dataTo L t skip (k + 1)) wr) := Lib.hid (by rw [hdl.out, if_neg (fun h => h.2 e2)]; exact HJK.out)
          clear e1 e2 hdl HJK HY HJ
          gi_wp2_with fail
          refine ⟨trivial, fun _ => by omega, ?_⟩
          refine (callsIn_wide.2 (HH.out _)).mono ?_
          rintro e w' ⟨rfl, rfl⟩
          gi_wp2
          refine ⟨trivial, ?_⟩
          gi_wp2
          refine ⟨fun _ h => (by cases h), ?_⟩
          gi_wp2
          go_roundw
          case rel => exact ⟨k + 1, hlt, by go_num, HJ2, HB⟩
          case measure => simp [intOf]; omega
        · have t2 : ((k : Int) != skip) = true := by simpa using e2
          have HD2 : Hid (dataTo L t skip (k + 1) = dataTo L t skip k ++ [plcAt L t k]) := Lib.hid (by rw [hdl.out, if_pos ⟨e1, e2⟩])
          have HSZ : Hid (n₀ ≤ wr.heap.size) := Lib.hid (Nat.le_trans hn₀ HB.out.1.size)
          have HPL := Lib.hid (st_place ((HL.out.below HB.out.1).sl HSZ.out) HN.out hlt t ht)
          have hyy := fun (W2 : World) (hk2 : Kept wr W2) => HY.out (dataTo L t skip k) (plcAt L t k) W2 (HJ.out _ _ _ none HJK.out (kept_grown hk2) (fun r h => by cases h)) (Nat.lt_of_le_of_lt (dataTo_le L t skip k) hlt)
          have HYY := Lib.hid hyy
          clear hyy e1 e2 hdl HY HJ
          gi_wp2_with fail
          refine ⟨trivial, fun _ => by omega, ?_⟩
          refine (callsIn_wide.2 (HH.out _)).mono ?_
          rintro e w' ⟨rfl, rfl⟩
          gi_wp2_with fail
          refine ⟨trivial, fun _ => by omega, ?_⟩
          refine (callsIn_wide.2 HPL.out).mono ?_
          rintro e w2 ⟨rfl, hk2⟩
          have HK2 := Lib.hid hk2
          obtain ⟨fn, tmps, assign, body, hy, hR⟩ := HYY.out w2 hk2
          clear hk2
          gi_wp2
          refine ⟨fun _ => by omega, ?_⟩
          refine hR.mono ?_
          rintro e W3 (⟨rfl, hJ3, hk3⟩ | ⟨rfl, hJx3⟩)
          · have HJ2 : Hid (J (dataTo L t skip (k + 1)) W3) := Lib.hid (by rw [HD2.out]; exact hJ3)
            have HB3 := Lib.hid ((HB.out.trans (Kd.kept HK2.out HSZ.out)).trans hk3)
            clear hJ3 hk3 hR hy HYY HPL HB HJK HD2
            gi_wp2
            go_roundw
            case rel => exact ⟨k + 1, hlt, by go_num, HJ2, HB3⟩
            case measure => simp [intOf]; omega
          · clear hR hy HYY HPL
            gi_wp2
            refine bodyPost_ret (results_none rfl _ _ _) rfl ?_
            exact ⟨⟨_, rfl⟩, .inr ⟨_, trivial, hJx3⟩⟩
    · have hkl : k = L.length := by omega
      subst hkl
      gi_wp2
      go_end0
      exact ⟨⟨_, rfl⟩, .inl ⟨_, rfl, HJK.out⟩⟩
theorem data_stops (n : Nat) (hn : 2 ≤ n) (B n₀ : Nat) {v : Value} {L : List (Int × Int)} (hN : Near L) (hL1 : 1 ≤ L.length) (t : Nat) (ht : t ≤ 1000) (skip : Int) (w : World) (hn₀ : n₀ ≤ w.heap.size) (h1 : B + 2 < w.heap.size)
    (c1 : w.cell? ⟨B, 0, none⟩ = some v) (c2 : w.cell? ⟨B + 1, 0, none⟩ = some (.int .i64 (t : Int))) (c3 : w.cell? ⟨B + 2, 0, none⟩ = some (.int .i64 skip)) (hL : ESb n₀ w v L) :
    SeqStopsK Fence.wide n Tryz.prog 84 #[.pointer (some ⟨B, 0, none⟩), .pointer (some ⟨B + 1, 0, none⟩), .pointer (some ⟨B + 2, 0, none⟩)] (fun x : Int × Int => #[Value.agg #[.int .i64 x.1, .int .i64 x.2]]) (Kd n₀ B) (fun ys => ys = dataS L t skip) (fun _ => True) L.length w := fun l J Jx W hW hJ _ hY h0 =>
  data1_in n hn l B n₀ hN hL1 t ht skip J Jx W hJ hY (Nat.le_trans hn₀ hW.size) (Nat.lt_of_lt_of_le h1 hW.size) ((hW.cell (p := ⟨B, 0, none⟩) (by show B < _; omega)).trans c1) ((hW.cell (p := ⟨B + 1, 0, none⟩) (by show B + 1 < _; omega)).trans c2) ((hW.cell (p := ⟨B + 2, 0, none⟩) (by show B + 2 < _; omega)).trans c3) (hL.below (hW.mono hn₀)) h0
theorem kd_b {n₀ B : Nat} {w : World} (hn : n₀ ≤ w.heap.size) (hB : B + 3 ≤ w.heap.size) (W : World) (l : Nat) (o o' : Obj) (hl : w.heap.size ≤ l) (hW : W.heap[l]? = some o) (h1 : o.isCells = false) (h2 : o.isWalk = false) : Kd n₀ B W (W.putObj l o') :=
  ⟨belowK_b hn W l o o' hl hW h1 h2, fun k _ hk _ => World.putObj_heap_other (by omega)⟩
theorem results_tmp2 {fn : Func} {p q : Tmp} (h : fn.results = #[.tmp p, .tmp q]) (tmps : Array Value) (w : World) :
    (results fn tmps).run Tryz.prog w = .ok (.tuple #[tmps.getD p undef, tmps.getD q undef]) w := by
  simp [results, h]
theorem row_ge {W : World} {base e size k : Nat} {v : Value} {xs : List Value} (h : W.ownsRow base e size v k xs) {g : Nat} (hg : v.ownBlock = some g) : base ≤ g := by
  rcases h.2 with ⟨rfl, _⟩ | ⟨g', cap, cur, rfl, hb, _⟩
  · simp [Value.ownBlock] at hg
  · simp only [Value.ownBlock, Option.some.injEq] at hg
    omega
theorem stop_atIn {F : Fence} {n : Nat} {P : Program} {ops : Array Oper} {Q : Exit → Act → World → Prop} {rest : List Oper} {o : Oper} {a : Act} {w : World} (h : Stop (wpListIn F n P ops Q (o :: rest) a w)) : wpListIn F n P ops Q (o :: rest) a w := h.out
theorem two_new (w : World) (x y : Value) (t : TypeId) : ∀ j u, [x, y][j]? = some u → (w.alloc (.cells #[x, y] t)).cell? ((⟨w.heap.size, 0, none⟩ : Addr).add j) = some u := fun j u hj => by
  have h := cell_of_row (w.alloc (.cells #[x, y] t)) w.heap.size j #[x, y] t (0, 0) (World.alloc_heap_new w _)
  rw [Addr.add_mid, Nat.zero_add, h]
  simpa using hj
theorem ty_places2 : ElemT Tryz.prog 39 47 2 16 := by
  refine ⟨Tryz.underlying39, ?_, by decide⟩
  have h1 : (Tryz.prog.info? 47).map (fun i => (i.zero, i.size, i.bytes)) = some (some (.agg #[.int .i64 0, .int .i64 0]), 2, 16) := by kernel_rfl
  cases hi : Tryz.prog.info? 47 with
  | none => simp [hi] at h1
  | some i =>
    simp [hi] at h1
    exact ⟨i, _, rfl, h1.1, h1.2.1, h1.2.2, rfl⟩
theorem st_Data {w : World} {v : Value} {L : List (Int × Int)} (h : ESl w v L) (hN : Near L) (h2 : 2 ≤ L.length) (t : Nat) (ht : t < 8) :
    Calls Tryz.prog 57 #[v, .int .i64 (t : Int)] w fun e W' => ∃ r, e = .returned (.tuple #[r, .int .i64 0]) ∧ W'.ownsRow w.heap.size 47 2 r (dataS L t (-1)).length (evals (dataS L t (-1))) ∧ Kept w W' := by
  have HH := Lib.hid h; have HN := Lib.hid hN
  obtain ⟨oa, cap, rfl, _⟩ := h
  have hl := hN.1
  clear hN
  have hr := fun W => st_right oa L.length cap hl (t : Int) W
  rw [show rightX L.length (t : Int) = 0 by unfold rightX; rw [if_neg (by omega), if_neg (by omega)]] at hr
  have HR := Lib.hid hr
  clear hr
  refine (callsIn_wide (n := 12)).1 ?_
  refine callsIn_of_wp_marks Tryz.func57 rfl trivial ?_ rfl
  simp only [Tryz.ntmps57, List.size_toArray, List.length_cons, List.length_nil, Nat.reduceAdd, Nat.reduceSub, Array.replicate_succ, Array.replicate_zero, List.push_toArray, List.append_toArray, List.nil_append, List.cons_append]
  gi_wp2_with fail
  refine ⟨trivial, ?_⟩
  refine (callsIn_wide.2 (HR.out _)).mono ?_
  rintro e w' ⟨rfl, rfl⟩
  gi_wp2_with fail
  refine ⟨trivial, ?_⟩
  refine (data_in _ _ _ _ _ _ _).mono ?_
  rintro e w' ⟨rfl, rfl⟩
  gi_wp2
  obtain ⟨S, hS⟩ : ∃ S, w.heap.size = S := ⟨_, rfl⟩
  have bO := Boxed.new w 39 (.slice none 0 0)
  have b1 := Boxed.new (w.alloc (.cells #[.slice none 0 0] 39)) 22 (.slice oa L.length cap)
  have b2 := Boxed.new ((w.alloc (.cells #[.slice none 0 0] 39)).alloc (.cells #[.slice oa L.length cap] 22)) 3 (.int .i64 (t : Int))
  have b3 := Boxed.new (((w.alloc (.cells #[.slice none 0 0] 39)).alloc (.cells #[.slice oa L.length cap] 22)).alloc (.cells #[.int .i64 (t : Int)] 3)) 3 (.int .i64 (-1))
  simp only [World.size_alloc] at b1 b2 b3
  have hB0 : Kept w ((((w.alloc (.cells #[.slice none 0 0] 39)).alloc (.cells #[.slice oa L.length cap] 22)).alloc (.cells #[.int .i64 (t : Int)] 3)).alloc (.cells #[.int .i64 (-1)] 3)) := ((((Kept.refl w).alloc _).alloc _).alloc _).alloc _
  have hsz : ((((w.alloc (.cells #[.slice none 0 0] 39)).alloc (.cells #[.slice oa L.length cap] 22)).alloc (.cells #[.int .i64 (t : Int)] 3)).alloc (.cells #[.int .i64 (-1)] 3)).heap.size = w.heap.size + 4 := by simp
  have bO' := ((bO.alloc (.cells #[.slice oa L.length cap] 22)).alloc (.cells #[.int .i64 (t : Int)] 3)).alloc (.cells #[.int .i64 (-1)] 3)
  have b1' := (b1.alloc (.cells #[.int .i64 (t : Int)] 3)).alloc (.cells #[.int .i64 (-1)] 3)
  have b2' := b2.alloc (.cells #[.int .i64 (-1)] 3)
  obtain ⟨W0, hW0⟩ : ∃ W0, ((((w.alloc (.cells #[.slice none 0 0] 39)).alloc (.cells #[.slice oa L.length cap] 22)).alloc (.cells #[.int .i64 (t : Int)] 3)).alloc (.cells #[.int .i64 (-1)] 3)) = W0 := ⟨_, rfl⟩
  rw [hW0] at bO' b1' b2' b3 hB0 hsz ⊢
  clear hW0 bO b1 b2
  have hES := HH.out.sb.below hB0
  have HK0 := Lib.hid hB0
  clear hB0 HH
  rw [hS] at bO' b1' b2' b3 hsz hES ⊢
  refine wpIn_rangeFunc_ownH (F := Fence.wide) rfl (by decide) (gf := 84) (lb := #[.pointer (some ⟨S + 1, 0, none⟩), .pointer (some ⟨S + 1 + 1, 0, none⟩), .pointer (some ⟨S + 1 + 2, 0, none⟩)]) rfl trivial (enters_of Tryz.func84 (by kernel_rfl) rfl)
    (data_stops 11 (by decide) (S + 1) S HN.out (by omega) t (by omega) (-1) W0 (by omega) (by omega) b1'.cell b2'.cell b3.cell hES) (fun h k => h.trans k) (kd_b (by omega) (by omega)) (Below.refl _ _) (fun _ => rfl)
    (fun pre W => (∃ v, Boxed W S 39 v ∧ W.ownsRow (S + 4) 47 2 v pre.length (evals pre) ∧ True) ∧ Below S W0 W)
    (fun _ _ _ => False)
    (OwnFrom.and (Own.from (holdsRow_own (S + 4) S 39 47 2 (fun pre => pre.length) (fun pre => evals pre) (fun _ _ => True)) _) (ownFrom_below (by omega) (by omega)))
    (fun _ _ _ _ _ hs _ _ => hs)
    ⟨⟨_, bO', World.ownsRow_nil _ _ _ _, trivial⟩, Below.refl _ _⟩
    (fun x a' W => ∃ Bx, S + 4 ≤ Bx ∧ W.heap[Bx]? = some (.cells #[.int .i64 x.1, .int .i64 x.2] 47 (0, 0)) ∧ a' = { tmps := #[.slice oa L.length cap, .int .i64 t, undef, undef, .slice none 0 0, .int .i64 0, .int .i64 0, .pointer (some ⟨S, 0, none⟩), .pointer (some ⟨Bx, 0, none⟩), .slice oa L.length cap, .int .i64 t, .int .i64 0, .int .i64 0, .bool false, undef, .slice oa L.length cap, .int .i64 t, .func (.func 84) #[] #[.pointer (some ⟨S + 1, 0, none⟩), .pointer (some ⟨S + 1 + 1, 0, none⟩), .pointer (some ⟨S + 1 + 2, 0, none⟩)], .agg #[.int .i64 x.1, .int .i64 x.2], undef, undef, undef, undef, undef], defers := [] })
    (fun x a' _ X Y row hs hg hr => by
      obtain ⟨Bx, h1, h2, h3⟩ := hs
      refine ⟨Bx, h1, (hg.block Bx (Array.getElem?_eq_some_iff.1 h2).1 (fun e => ?_)).trans h2, h3⟩
      obtain ⟨_, o, ho, hc⟩ := hr Bx e.symm
      rw [h2] at ho; cases ho; cases hc)
    ?assign ?body ?done ?stop
  case assign =>
    rintro l pre x W K ⟨⟨v, bV, hrow, _⟩, hB⟩ hK
    gi_wp2
    have h4 : S + 4 ≤ W.heap.size := hsz ▸ hB.size
    exact hK _ _ ((KeepsOthers.alloc _ _).from _) (Kd.kept ((Kept.refl W).alloc _) (by omega)) ⟨⟨v, bV.alloc _, hrow.alloc _, trivial⟩, hB.alloc (by omega) _⟩ ⟨W.heap.size, h4, World.alloc_heap_new W _, rfl⟩
  case body =>
    rintro l pre x a' W hl ⟨r, hr⟩ ⟨⟨v, bV, hrow, _⟩, hB⟩ ⟨Bx, hBx, bX, rfl⟩ hlt
    have hc := bV.cell
    have h4 : S + 4 ≤ W.heap.size := hsz ▸ hB.size
    have p0 : W.cell? ⟨Bx, 0, none⟩ = some (.int .i64 x.1) := cell_of_row _ _ 0 _ _ _ bX
    have p1 : W.cell? ⟨Bx, 1, none⟩ = some (.int .i64 x.2) := cell_of_row _ _ 1 _ _ _ bX
    obtain ⟨ht, ⟨i0, z0, hi, hz, hsz', hby, hzs⟩, hpos⟩ := ty_places2
    have HT := Lib.hid ht; have HI := Lib.hid hi; have HZ := Lib.hid hz; have HSZ := Lib.hid hsz'; have HBY := Lib.hid hby; have HZS := Lib.hid hzs
    clear ht hi hz hsz' hby hzs hpos
    gi_wp2_with (refine stop_atIn (o := ⟨some 22, _, _, _, _, _⟩) ?_)
    refine Stop.mk ?_
    refine wpListIn_append_own _ rfl _ _ 39 rfl (S + 4) 47 i0 z0 2 16 HT.out HI.out HZ.out HSZ.out HBY.out HZS.out (by decide) _ _ _ rfl (hrow.alloc _) ⟨W.heap.size, 0, none⟩ 1 1 [.int .i64 x.1, .int .i64 x.2] rfl rfl (two_new _ _ _ _) (evals_one [x]) (by have : maxLen = 9223372036854775807 := rfl; omega) (by omega) (by simp; omega) ?_
    intro v' w1 hown' hgrow _
    obtain ⟨g', cap', rfl⟩ := ownsRow_succ hown'
    obtain ⟨hv1, hv2, _, hk2, hb2⟩ := bV.appended (by decide) (ownsRow_base hrow (show S ≤ S + 4 by omega)) (by omega) (Nat.le_refl _) (ownsRow_base hown' (show S ≤ S + 4 by omega)) hgrow
    have hr3 := hown'.kept (grownBy_setCell' w1 S (.slice (some ⟨g', 0, none⟩) (pre.length + 1) cap')) (.inr (hv1.not_row (by decide) hown').symm)
    have hc1 := hv1.cell
    have hf1 := hv1.frozen
    have hkd : Kd S (S + 1) W (w1.setCell ⟨S, 0, none⟩ (.slice (some ⟨g', 0, none⟩) (pre.length + 1) cap')) := by
      refine ⟨hb2, fun k k1 k2 k3 => ?_⟩
      have hkw : k < w1.heap.size := Nat.lt_of_lt_of_le (by rw [World.size_alloc]; omega) hgrow.size
      rw [(grownBy_setCell' w1 S (.slice (some ⟨g', 0, none⟩) (pre.length + 1) cap')).block k hkw (fun e => by injection e with e; omega), hgrow.block k (by rw [World.size_alloc]; omega) (fun e => by have := row_ge hrow e.symm; omega)]
      exact Below.heap_alloc W _ k k3
    have HKF := Lib.hid hk2; have HKD := Lib.hid hkd; have HBB := Lib.hid hb2; have HR3 := Lib.hid hr3; have HV2 := Lib.hid hv2
    clear hk2 hkd hb2 hr3 hv2 hown' hgrow hrow
    gi_wp2
    exact ⟨HKF.out.from _, HKD.out, ⟨⟨_, HV2.out, by rw [List.length_append, evals_append]; exact HR3.out, trivial⟩, hB.trans HBB.out⟩⟩
  case done =>
    rintro D ys W hD rfl ⟨⟨v, bV, hrow, _⟩, hB⟩ hK
    have hc := bV.cell
    have HRW := Lib.hid hrow
    clear hrow
    gi_wp2
    refine ⟨by simp, .inl ⟨_, _, rfl, run_takeDeferred hK, ?_⟩⟩
    refine ⟨_, results_tmp2 rfl _ _, v, rfl, ownsRow_putObj (ownsRow_base HRW.out (by omega)) _ hK rfl, ?_⟩
    have hB' : Below w.heap.size W0 W := by rw [hS]; exact hB
    have h1 : Below w.heap.size w W := Below.trans (show Below w.heap.size w W0 from HK0.out) hB'
    exact Below.trans h1 (belowK_b (w := w) (Nat.le_refl _) W D _ _ (by omega) hK rfl rfl)
  case stop =>
    rintro D c pre W _ _ h _
    exact h.elim
end
end Go.Proofs.YtglplhmclfekfaaGreat
/- stripe.Mates. -/
namespace Go.Proofs.YtglplhmclfekfaaGreat
open Go.RowKit Go.Shelf
set_option linter.unusedVariables false
set_option linter.unusedSimpArgs false
attribute [local go_sem] Oper.semAt_some

theorem row_not {W : World} {base e size k : Nat} {v : Value} {xs : List Value} (h : W.ownsRow base e size v k xs) {D : Nat} {o : Obj} (hD : W.heap[D]? = some o) (ho : o.isCells = false) : some D ≠ v.ownBlock := fun e' => by
  rcases h.2 with ⟨rfl, _⟩ | ⟨g, cap, cur, rfl, _, hgb, _⟩
  · cases e'
  · obtain rfl : D = g := by simpa [Value.ownBlock] using e'
    rw [hgb] at hD; cases hD; cases ho
section
set_option maxHeartbeats 1000000
set_option maxRecDepth 100000
theorem st_Mates {w₀ : World} {v : Value} {L : List (Int × Int)} (h : ESl w₀ v L) (hN : Near L) (slot : Int) (hc : (splitX L.length slot).2.2 = 0) (t k : Nat) (h2 : 2 ≤ L.length) (ht : t < 8) (hk : k < L.length) (hs : splitX L.length slot = ((t : Int), (k : Int), 0)) :
    Calls Tryz.prog 18 #[v, .int .i64 slot] w₀ fun e W' => ∃ r, e = .returned (.tuple #[r, .int .i64 0]) ∧ W'.ownsRow w₀.heap.size 47 2 r ((dataS L t (k : Int)).length + 1) (evals (dataS L t (k : Int) ++ [plcAt L t (holdN L.length t)])) ∧ Kept w₀ W' := by
  have HH := Lib.hid h; have HN := Lib.hid hN
  obtain ⟨oa, cap, rfl, _⟩ := h
  have hl := hN.1
  clear hN
  have hr := fun W => st_split oa L.length cap hl slot W
  rw [hs] at hr
  have HR := Lib.hid hr
  clear hr
  refine (callsIn_wide (n := 12)).1 ?_
  refine callsIn_of_wp_marks Tryz.func18 rfl trivial ?_ rfl
  simp only [Tryz.ntmps18, List.size_toArray, List.length_cons, List.length_nil, Nat.reduceAdd, Nat.reduceSub, Array.replicate_succ, Array.replicate_zero, List.push_toArray, List.append_toArray, List.nil_append, List.cons_append]
  gi_wp2_with fail
  refine ⟨trivial, ?_⟩
  refine (callsIn_wide.2 (HR.out _)).mono ?_
  rintro e w ⟨rfl, hk0⟩
  have HKW := Lib.hid hk0
  have HH := Lib.hid (HH.out.kept hk0)
  clear hk0
  gi_wp2_with fail
  refine ⟨trivial, ?_⟩
  refine (data_in _ _ _ _ _ _ _).mono ?_
  rintro e w' ⟨rfl, rfl⟩
  gi_wp2
  obtain ⟨S, hS⟩ : ∃ S, w.heap.size = S := ⟨_, rfl⟩
  have bO := Boxed.new w 39 (.slice none 0 0)
  have b1 := Boxed.new (w.alloc (.cells #[.slice none 0 0] 39)) 22 (.slice oa L.length cap)
  have b2 := Boxed.new ((w.alloc (.cells #[.slice none 0 0] 39)).alloc (.cells #[.slice oa L.length cap] 22)) 3 (.int .i64 (t : Int))
  have b3 := Boxed.new (((w.alloc (.cells #[.slice none 0 0] 39)).alloc (.cells #[.slice oa L.length cap] 22)).alloc (.cells #[.int .i64 (t : Int)] 3)) 3 (.int .i64 (k : Int))
  simp only [World.size_alloc] at b1 b2 b3
  have hB0 : Kept w ((((w.alloc (.cells #[.slice none 0 0] 39)).alloc (.cells #[.slice oa L.length cap] 22)).alloc (.cells #[.int .i64 (t : Int)] 3)).alloc (.cells #[.int .i64 (k : Int)] 3)) := ((((Kept.refl w).alloc _).alloc _).alloc _).alloc _
  have hsz : ((((w.alloc (.cells #[.slice none 0 0] 39)).alloc (.cells #[.slice oa L.length cap] 22)).alloc (.cells #[.int .i64 (t : Int)] 3)).alloc (.cells #[.int .i64 (k : Int)] 3)).heap.size = w.heap.size + 4 := by simp
  have bO' := ((bO.alloc (.cells #[.slice oa L.length cap] 22)).alloc (.cells #[.int .i64 (t : Int)] 3)).alloc (.cells #[.int .i64 (k : Int)] 3)
  have b1' := (b1.alloc (.cells #[.int .i64 (t : Int)] 3)).alloc (.cells #[.int .i64 (k : Int)] 3)
  have b2' := b2.alloc (.cells #[.int .i64 (k : Int)] 3)
  obtain ⟨W0, hW0⟩ : ∃ W0, ((((w.alloc (.cells #[.slice none 0 0] 39)).alloc (.cells #[.slice oa L.length cap] 22)).alloc (.cells #[.int .i64 (t : Int)] 3)).alloc (.cells #[.int .i64 (k : Int)] 3)) = W0 := ⟨_, rfl⟩
  rw [hW0] at bO' b1' b2' b3 hB0 hsz ⊢
  clear hW0 bO b1 b2
  have hES := HH.out.sb.below hB0
  have HK0 := Lib.hid hB0
  clear hB0 HH
  rw [hS] at bO' b1' b2' b3 hsz hES ⊢
  refine wpIn_rangeFunc_ownH (F := Fence.wide) rfl (by decide) (gf := 84) (lb := #[.pointer (some ⟨S + 1, 0, none⟩), .pointer (some ⟨S + 1 + 1, 0, none⟩), .pointer (some ⟨S + 1 + 2, 0, none⟩)]) rfl trivial (enters_of Tryz.func84 (by kernel_rfl) rfl)
    (data_stops 11 (by decide) (S + 1) S HN.out (by omega) t (by omega) (k : Int) W0 (by omega) (by omega) b1'.cell b2'.cell b3.cell hES) (fun h k => h.trans k) (kd_b (by omega) (by omega)) (Below.refl _ _) (fun _ => rfl)
    (fun pre W => (∃ v, Boxed W S 39 v ∧ W.ownsRow (S + 4) 47 2 v pre.length (evals pre) ∧ True) ∧ Below S W0 W)
    (fun _ _ _ => False)
    (OwnFrom.and (Own.from (holdsRow_own (S + 4) S 39 47 2 (fun pre => pre.length) (fun pre => evals pre) (fun _ _ => True)) _) (ownFrom_below (by omega) (by omega)))
    (fun _ _ _ _ _ hs _ _ => hs)
    ⟨⟨_, bO', World.ownsRow_nil _ _ _ _, trivial⟩, Below.refl _ _⟩
    (fun x a' W => ∃ Bx, S + 4 ≤ Bx ∧ W.heap[Bx]? = some (.cells #[.int .i64 x.1, .int .i64 x.2] 47 (0, 0)) ∧ a' = { tmps := #[.slice oa L.length cap, .int .i64 slot, undef, undef, .slice none 0 0, .int .i64 0, .int .i64 t, .int .i64 k, .int .i64 0, .pointer (some ⟨S, 0, none⟩), .pointer (some ⟨Bx, 0, none⟩), .tuple #[.int .i64 t, .int .i64 k, .int .i64 0], .slice oa L.length cap, .int .i64 slot, .tuple #[.int .i64 t, .int .i64 k, .int .i64 0], .int .i64 t, .int .i64 k, .int .i64 0, .int .i64 0, .bool false, undef, .slice oa L.length cap, .int .i64 t, .int .i64 k, .func (.func 84) #[] #[.pointer (some ⟨S + 1, 0, none⟩), .pointer (some ⟨S + 1 + 1, 0, none⟩), .pointer (some ⟨S + 1 + 2, 0, none⟩)], .agg #[.int .i64 x.1, .int .i64 x.2], undef, undef, undef, undef, undef, undef, undef, undef, undef, undef, undef, undef, undef, undef], defers := [] })
    (fun x a' _ X Y row hs hg hr => by
      obtain ⟨Bx, h1, h2, h3⟩ := hs
      refine ⟨Bx, h1, (hg.block Bx (Array.getElem?_eq_some_iff.1 h2).1 (fun e => ?_)).trans h2, h3⟩
      obtain ⟨_, o, ho, hc⟩ := hr Bx e.symm
      rw [h2] at ho; cases ho; cases hc)
    ?assign ?body ?done ?stop
  case assign =>
    rintro l pre x W K ⟨⟨v, bV, hrow, _⟩, hB⟩ hK
    gi_wp2
    have h4 : S + 4 ≤ W.heap.size := hsz ▸ hB.size
    exact hK _ _ ((KeepsOthers.alloc _ _).from _) (Kd.kept ((Kept.refl W).alloc _) (by omega)) ⟨⟨v, bV.alloc _, hrow.alloc _, trivial⟩, hB.alloc (by omega) _⟩ ⟨W.heap.size, h4, World.alloc_heap_new W _, rfl⟩
  case body =>
    rintro l pre x a' W hl ⟨r, hr⟩ ⟨⟨v, bV, hrow, _⟩, hB⟩ ⟨Bx, hBx, bX, rfl⟩ hlt
    have hc := bV.cell
    have h4 : S + 4 ≤ W.heap.size := hsz ▸ hB.size
    have p0 : W.cell? ⟨Bx, 0, none⟩ = some (.int .i64 x.1) := cell_of_row _ _ 0 _ _ _ bX
    have p1 : W.cell? ⟨Bx, 1, none⟩ = some (.int .i64 x.2) := cell_of_row _ _ 1 _ _ _ bX
    obtain ⟨ht, ⟨i0, z0, hi, hz, hsz', hby, hzs⟩, hpos⟩ := ty_places2
    have HT := Lib.hid ht; have HI := Lib.hid hi; have HZ := Lib.hid hz; have HSZ := Lib.hid hsz'; have HBY := Lib.hid hby; have HZS := Lib.hid hzs
    clear ht hi hz hsz' hby hzs hpos
    gi_wp2_with (refine stop_atIn (o := ⟨some 29, _, _, _, _, _⟩) ?_)
    refine Stop.mk ?_
    refine wpListIn_append_own _ rfl _ _ 39 rfl (S + 4) 47 i0 z0 2 16 HT.out HI.out HZ.out HSZ.out HBY.out HZS.out (by decide) _ _ _ rfl (hrow.alloc _) ⟨W.heap.size, 0, none⟩ 1 1 [.int .i64 x.1, .int .i64 x.2] rfl rfl (two_new _ _ _ _) (evals_one [x]) (by have : maxLen = 9223372036854775807 := rfl; omega) (by omega) (by simp; omega) ?_
    intro v' w1 hown' hgrow _
    obtain ⟨g', cap', rfl⟩ := ownsRow_succ hown'
    obtain ⟨hv1, hv2, _, hk2, hb2⟩ := bV.appended (by decide) (ownsRow_base hrow (show S ≤ S + 4 by omega)) (by omega) (Nat.le_refl _) (ownsRow_base hown' (show S ≤ S + 4 by omega)) hgrow
    have hr3 := hown'.kept (grownBy_setCell' w1 S (.slice (some ⟨g', 0, none⟩) (pre.length + 1) cap')) (.inr (hv1.not_row (by decide) hown').symm)
    have hc1 := hv1.cell
    have hf1 := hv1.frozen
    have hkd : Kd S (S + 1) W (w1.setCell ⟨S, 0, none⟩ (.slice (some ⟨g', 0, none⟩) (pre.length + 1) cap')) := by
      refine ⟨hb2, fun k k1 k2 k3 => ?_⟩
      have hkw : k < w1.heap.size := Nat.lt_of_lt_of_le (by rw [World.size_alloc]; omega) hgrow.size
      rw [(grownBy_setCell' w1 S (.slice (some ⟨g', 0, none⟩) (pre.length + 1) cap')).block k hkw (fun e => by injection e with e; omega), hgrow.block k (by rw [World.size_alloc]; omega) (fun e => by have := row_ge hrow e.symm; omega)]
      exact Below.heap_alloc W _ k k3
    have HKF := Lib.hid hk2; have HKD := Lib.hid hkd; have HBB := Lib.hid hb2; have HR3 := Lib.hid hr3; have HV2 := Lib.hid hv2
    clear hk2 hkd hb2 hr3 hv2 hown' hgrow hrow
    gi_wp2
    exact ⟨HKF.out.from _, HKD.out, ⟨⟨_, HV2.out, by rw [List.length_append, evals_append]; exact HR3.out, trivial⟩, hB.trans HBB.out⟩⟩
  case done =>
    rintro D ys W hD rfl ⟨⟨v, bV, hrow, _⟩, hB⟩ hK
    have hc := bV.cell
    have HRW := Lib.hid hrow
    have HBW := Lib.hid hB
    have HDL : Hid ((dataS L t (k : Int)).length ≤ 1000) := Lib.hid (Nat.le_trans (dataTo_le L t (k : Int) L.length) hl)
    have HHO := Lib.hid fun W => st_holder L.length t (by omega) hl (by omega) W
    have hpl := fun (W : World) (he : ESl W (.slice oa L.length cap) L) => st_place he HN.out (holdN_lt (w := L.length) (by omega) t) t (by omega)
    have HPE : Hid (evals (dataS L t (k : Int)) ++ [.int .i64 (plcAt L t (holdN L.length t)).1, .int .i64 (plcAt L t (holdN L.length t)).2] = evals (dataS L t (k : Int) ++ [plcAt L t (holdN L.length t)])) := Lib.hid (by rw [evals_append]; rfl)
    generalize (plcAt L t (holdN L.length t)).1 = px at *
    generalize (plcAt L t (holdN L.length t)).2 = py at *
    generalize hhd : holdN L.length t = hd at *
    have HHD := Lib.hid hhd
    clear hhd
    have HPL := Lib.hid hpl
    have HSW := Lib.hid hS
    obtain ⟨ht', ⟨i0, z0, hi, hz, hsz', hby, hzs⟩, hpos⟩ := ty_places2
    have HT := Lib.hid ht'; have HI := Lib.hid hi; have HZ := Lib.hid hz; have HSZ := Lib.hid hsz'; have HBY := Lib.hid hby; have HZS := Lib.hid hzs
    clear hrow hB hpl ht' hi hz hsz' hby hzs hpos
    gi_wp2
    refine wpIn_wide.2 ?_
    refine wp_region_calm ?_
    refine wp_region_E (fun W => W.cell? ⟨S, 0, none⟩ = some v) 100 (by kernel_rfl) ?_
    have HD2 : Hid (W.drew.heap[D]? = some (.deferred (some []))) := Lib.hid hK
    have hS2 : W.drew.cell? ⟨S, 0, none⟩ = some v := hc
    have HB2 := Lib.hid (Below.trans HBW.out (below_kept (Kept.refl W).drew (by have := HBW.out.size; omega)))
    have HE2 := Lib.hid ((hES.below HB2.out).sl (by have := HB2.out.size; omega))
    have HR2 := Lib.hid (ownsRow_kept HRW.out (Kept.refl W).drew)
    have HK2 : Hid (Below w.heap.size w W.drew) := Lib.hid (Below.trans (show Below w.heap.size w W0 from HK0.out) (by rw [hS]; exact HB2.out))
    have HSZ2 : Hid (w.heap.size ≤ W.drew.heap.size) := Lib.hid HK2.out.size
    have HS42 : Hid (S + 4 ≤ W.drew.heap.size) := Lib.hid (hsz ▸ HB2.out.size)
    refine wpAnyE_take (i := 0) (v := ?_) (listed' := #[true, false, false, false, false, false, false, false, false, false, false, false]) (by rfl) (by kernel_rfl) (by kernel_rfl) calm_put hS2 (by rfl) ?_ ?_
    rotate_left
    · intro W hW; go_simp; try (with_reducible rfl)
    simp only [Act.put, List.getElem_toArray, List.getElem_cons_succ, List.getElem_cons_zero, List.setIfInBounds_toArray, List.set_cons_zero, List.set_cons_succ]
    refine wpAnyE_take (i := 1) (v := ?_) (listed' := #[true, true, false, false, false, false, false, false, false, false, false, false]) (by rfl) (by kernel_rfl) (by kernel_rfl) calm_put hS2 (by rfl) ?_ ?_
    rotate_left
    · intro W hW; clear hW; go_simp; try (with_reducible rfl)
    simp only [Act.put, List.getElem_toArray, List.getElem_cons_succ, List.getElem_cons_zero, List.setIfInBounds_toArray, List.set_cons_zero, List.set_cons_succ]
    refine wpAnyE_take (i := 2) (v := ?_) (listed' := #[true, true, true, false, false, false, false, false, false, false, false, false]) (by rfl) (by kernel_rfl) (by kernel_rfl) calm_put hS2 (by rfl) ?_ ?_
    rotate_left
    · intro W hW; clear hW; go_simp; try (with_reducible rfl)
    simp only [Act.put, List.getElem_toArray, List.getElem_cons_succ, List.getElem_cons_zero, List.setIfInBounds_toArray, List.set_cons_zero, List.set_cons_succ]
    refine wpAnyE_take (i := 3) (v := ?_) (listed' := #[true, true, true, true, false, false, false, false, false, false, false, false]) (by rfl) (by kernel_rfl) (by kernel_rfl) calm_put hS2 (by rfl) ?_ ?_
    rotate_left
    · intro W hW; clear hW; go_simp; try (with_reducible rfl)
    simp only [Act.put, List.getElem_toArray, List.getElem_cons_succ, List.getElem_cons_zero, List.setIfInBounds_toArray, List.set_cons_zero, List.set_cons_succ]
    refine wpAnyE_take (i := 4) (v := ?_) (listed' := #[true, true, true, true, true, false, false, false, false, false, false, false]) (by rfl) (by kernel_rfl) (by kernel_rfl) calm_put hS2 (by rfl) ?_ ?_
    rotate_left
    · intro W hW; clear hW; go_simp; try (with_reducible rfl)
    simp only [Act.put, List.getElem_toArray, List.getElem_cons_succ, List.getElem_cons_zero, List.setIfInBounds_toArray, List.set_cons_zero, List.set_cons_succ]
    refine wpAnyE_take (i := 6) (v := ?_) (listed' := #[true, true, true, true, true, false, true, false, false, false, false, false]) (by rfl) (by kernel_rfl) (by kernel_rfl) calm_put hS2 (by rfl) ?_ ?_
    rotate_left
    · intro W hW; clear hW; go_simp; try (with_reducible rfl)
    simp only [Act.put, List.getElem_toArray, List.getElem_cons_succ, List.getElem_cons_zero, List.setIfInBounds_toArray, List.set_cons_zero, List.set_cons_succ]
    refine wpAnyE_one (i := 5) (listed' := #[true, true, true, true, true, true, true, false, false, false, false, false]) (by rfl) (by kernel_rfl) (by kernel_rfl) (by rfl) (fun K hK => ?_)
    simp only [Act.put, List.getElem_toArray, List.getElem_cons_succ, List.getElem_cons_zero, List.setIfInBounds_toArray, List.set_cons_zero, List.set_cons_succ]
    go_wp2_with fail
    refine Calls.mono (HHO.out _) ?_
    rintro e w' ⟨rfl, rfl⟩
    refine hK _ _ (fun _ => hS2) ?_; clear hK K
    try simp only [Act.put, List.getElem_toArray, List.getElem_cons_succ, List.getElem_cons_zero, List.setIfInBounds_toArray, List.set_cons_zero, List.set_cons_succ]
    refine wpAnyE_one (i := 7) (listed' := #[true, true, true, true, true, true, true, true, false, false, false, false]) (by rfl) (by kernel_rfl) (by kernel_rfl) (by rfl) (fun K hK => ?_)
    simp only [Act.put, List.getElem_toArray, List.getElem_cons_succ, List.getElem_cons_zero, List.setIfInBounds_toArray, List.set_cons_zero, List.set_cons_succ]
    go_wp2_with fail
    refine Calls.mono (HPL.out _ HE2.out) ?_
    rintro e w5 ⟨rfl, hk5⟩
    have hS5 : w5.cell? ⟨S, 0, none⟩ = some v := hk5.cell' hS2
    have HR5 := Lib.hid (ownsRow_kept HR2.out hk5)
    have HK5 := Lib.hid (Below.trans HK2.out (below_kept hk5 HSZ2.out))
    have HSZ5 : Hid (S + 4 ≤ w5.heap.size) := Lib.hid (Nat.le_trans HS42.out hk5.size)
    have HD5 := Lib.hid (hk5.block HD2.out)
    clear hk5
    refine hK _ _ (fun _ => hS5) ?_; clear hK K
    try simp only [Act.put, List.getElem_toArray, List.getElem_cons_succ, List.getElem_cons_zero, List.setIfInBounds_toArray, List.set_cons_zero, List.set_cons_succ]
    refine wpAnyE_one (i := 8) (listed' := #[true, true, true, true, true, true, true, true, true, false, false, false]) (by rfl) (by kernel_rfl) (by kernel_rfl) (by rfl) (fun K hK => ?_)
    simp only [Act.put, List.getElem_toArray, List.getElem_cons_succ, List.getElem_cons_zero, List.setIfInBounds_toArray, List.set_cons_zero, List.set_cons_succ]
    go_wp2_with fail
    refine hK _ _ (fun _ => ((Kept.refl w5).alloc _).cell' hS5) ?_; clear hK K
    try simp only [Act.put, List.getElem_toArray, List.getElem_cons_succ, List.getElem_cons_zero, List.setIfInBounds_toArray, List.set_cons_zero, List.set_cons_succ]
    refine wpAnyE_one (i := 9) (listed' := #[true, true, true, true, true, true, true, true, true, true, false, false]) (by rfl) (by kernel_rfl) (by kernel_rfl) (by rfl) (fun K hK => ?_)
    simp only [Act.put, List.getElem_toArray, List.getElem_cons_succ, List.getElem_cons_zero, List.setIfInBounds_toArray, List.set_cons_zero, List.set_cons_succ]
    refine wp_append_own_wide _ _ _ 39 rfl (S + 4) 47 i0 z0 2 16 HT.out HI.out HZ.out HSZ.out HBY.out HZS.out (by decide) _ _ _ rfl (HR5.out.alloc _) ⟨w5.heap.size, 0, none⟩ 1 1 [.int .i64 px, .int .i64 py] rfl rfl (two_new _ _ _ _) (evals_one [(px, py)]) (by have : maxLen = 9223372036854775807 := rfl; have := HDL.out; omega) (by have := HDL.out; omega) (by have := HSZ5.out; rw [World.size_alloc]; omega) ?_
    intro v' w6 hown' hgrow _
    have hS6 : w6.cell? ⟨S, 0, none⟩ = some v := by
      rw [World.cell?_of_block (a := ⟨S, 0, none⟩) (hgrow.block S (by have := HSZ5.out; rw [World.size_alloc]; omega) (fun e => by have := row_ge HR5.out e.symm; omega))]
      exact ((Kept.refl w5).alloc _).cell' hS5
    have HK6 : Hid (Below w.heap.size w w6) := Lib.hid (by
      refine (Below.trans HK5.out ((Below.refl _ w5).alloc (by have := HSZ5.out; have := HSW.out; omega) _)).grown hgrow (by have := HSZ5.out; have := HSW.out; rw [World.size_alloc]; omega) (fun j ej => by have := row_ge HR5.out ej; have := HSW.out; omega))
    have HD6 : Hid (w6.heap[D]? = some (.deferred (some []))) := Lib.hid ((hgrow.block D (by have := (Array.getElem?_eq_some_iff.1 HD5.out).1; rw [World.size_alloc]; omega) (row_not HR5.out HD5.out rfl)).trans (((Kept.refl w5).alloc _).block HD5.out))
    have HR6 := Lib.hid hown'
    clear hown' hgrow
    refine hK _ _ (fun _ => hS6) ?_; clear hK K
    try simp only [Act.put, List.getElem_toArray, List.getElem_cons_succ, List.getElem_cons_zero, List.setIfInBounds_toArray, List.set_cons_zero, List.set_cons_succ]
    refine wpAnyE_one (i := 10) (listed' := #[true, true, true, true, true, true, true, true, true, true, true, false]) (by rfl) (by kernel_rfl) (by kernel_rfl) (by rfl) (fun K hK => ?_)
    simp only [Act.put, List.getElem_toArray, List.getElem_cons_succ, List.getElem_cons_zero, List.setIfInBounds_toArray, List.set_cons_zero, List.set_cons_succ]
    go_wp2_with fail
    refine hK _ _ (fun _ => hS6) ?_; clear hK K
    try simp only [Act.put, List.getElem_toArray, List.getElem_cons_succ, List.getElem_cons_zero, List.setIfInBounds_toArray, List.set_cons_zero, List.set_cons_succ]
    refine wpAnyE_one (i := 11) (listed' := #[true, true, true, true, true, true, true, true, true, true, true, true]) (by rfl) (by kernel_rfl) (by kernel_rfl) (by rfl) (fun K hK => ?_)
    simp only [Act.put, List.getElem_toArray, List.getElem_cons_succ, List.getElem_cons_zero, List.setIfInBounds_toArray, List.set_cons_zero, List.set_cons_succ]
    go_wp2_with fail
    refine hK _ _ (fun _ => hS6) ?_; clear hK K
    try simp only [Act.put, List.getElem_toArray, List.getElem_cons_succ, List.getElem_cons_zero, List.setIfInBounds_toArray, List.set_cons_zero, List.set_cons_succ]
    refine wpAnyE_done (by kernel_rfl) ?_ _
    refine calm_normal ?_
    gi_wp2
    refine ⟨by simp, .inl ⟨_, _, rfl, run_takeDeferred HD6.out, ?_⟩⟩
    have hr7 := HR6.out
    rw [HPE.out, ← HHD.out] at hr7
    refine ⟨_, results_tmp2 rfl _ _, v', rfl, ownsRow_putObj (ownsRow_base hr7 (show w₀.heap.size ≤ S + 4 by have := HKW.out.size; have := HSW.out; omega)) _ HD6.out rfl, ?_⟩
    have h1 : Kept w (w6.putObj D (.deferred none)) := Below.trans HK6.out (belowK_b (n₀ := w.heap.size) (w := w) (Nat.le_refl _) w6 D _ _ (show w.heap.size ≤ D by have := HSW.out; omega) HD6.out rfl rfl)
    exact HKW.out.trans h1
  case stop =>
    rintro D c pre W _ _ h _
    exact h.elim
end
end Go.Proofs.YtglplhmclfekfaaGreat
/- stripe.lost, joined. -/
namespace Go.Proofs.YtglplhmclfekfaaGreat
open Go.RowKit
set_option linter.unusedVariables false
set_option linter.unusedSimpArgs false

/-- the exclusive or of what is read at some places, and of what there is -/
def BankT.joinL (T : BankT) : List (Int × Int) → List Int → Bool → List Int × Int
  | [], out, failed => if failed then (zeroB, 5) else (out, 0)
  | p :: l, out, failed => if lostB (T.read p.1 p.2).2 then BankT.joinL T l (xorS out (T.read p.1 p.2).1) true else if (T.read p.1 p.2).2 ≠ 0 then (zeroB, (T.read p.1 p.2).2) else BankT.joinL T l (xorS out (T.read p.1 p.2).1) failed
section
variable {w0 W : World} {R : Nat → Prop} {q : Nat} {T : BankT}
set_option maxHeartbeats 2000000
set_option maxRecDepth 100000
theorem st_lost (c : Int) (w : World) : Calls Tryz.prog 59 #[.int .i64 c] w fun e w' => e = .returned (.bool (lostB c)) ∧ w = w' := by
  unfold lostB
  by_cases h8 : c = 8
  · subst h8
    go_enter Tryz.func59, Tryz.ntmps59
    go_wp2
    go_ret
    exact ⟨rfl, rfl⟩
  · have t8 : (c == 8) = false := by simpa using h8
    by_cases h7 : c = 7
    · subst h7
      go_enter Tryz.func59, Tryz.ntmps59
      go_wp2
      go_ret
      exact ⟨rfl, rfl⟩
    · have t7 : (c == 7) = false := by simpa using h7
      go_enter Tryz.func59, Tryz.ntmps59
      go_wp2
      go_ret
      exact ⟨by simp [t7, t8, h7, h8], rfl⟩
theorem st_joined (h : BK w0 R W q T) (u : T.Use) {v : Value} {L : List (Int × Int)} (hv : ESl W v L) (hl : L.length ≤ 1000) {out : List Int} (ho : IsSec out) :
    Calls Tryz.prog 63 #[.pointer (some ⟨q, 0, none⟩), v, .agg (u8s out).toArray] W fun e w' => e = .returned (.tuple #[secV (T.joinL L out false).1, .int .i64 (T.joinL L out false).2]) ∧ Kept W w' := by
  have HB0 := Lib.hid h; have HU := Lib.hid u; have HV0 := Lib.hid hv; have HO := Lib.hid ho
  have HW0 := Lib.hid h.keeps.size
  obtain ⟨res, rc, hres⟩ : ∃ res rc, T.joinL L out false = (res, rc) := ⟨_, _, rfl⟩
  rw [hres]
  have HRES := Lib.hid hres
  obtain ⟨oa, cap, rfl, _⟩ := hv
  clear h u ho hres
  go_enter Tryz.func63, Tryz.ntmps63
  go_wp2_with (refine stop_at (o := ⟨some 5, _, _, _, _, _⟩) ?_)
  refine Stop.mk ?_
  refine wpList_box_row rfl _ _ rfl (u8s out) rfl ?_
  intro w1 hz hs hk
  have HO1 := hz; have HB1 := Lib.hid (HB0.out.box hk hs); have HK1 := Lib.hid hk
  have HPW := Lib.hid (Nat.le_refl W.heap.size)
  generalize hP : W.heap.size = O at *
  have HPE := Lib.hid hP
  have HVK : Hid (∀ k, k < L.length → ∃ b off, oa = some ⟨b, off, none⟩ ∧ b < O ∧ W.cell? ⟨b, off + k * 2, none⟩ = some (.int .i64 (L.getD k (0, 0)).1) ∧ W.cell? ⟨b, off + k * 2 + 1, none⟩ = some (.int .i64 (L.getD k (0, 0)).2)) := Lib.hid (by
    obtain ⟨oa', cap', e, hh⟩ := HV0.out
    cases e
    rw [HPE.out] at hh
    exact hh)
  clear hz hs hk hP HB0 HV0
  go_wp2_with (refine stop_at (o := ⟨some 6, _, _, _, _, _⟩) ?_)
  refine Stop.mk ?_
  refine wpList_alloc_abs rfl 43 rfl (u8s zeroB) zero_sec ?_
  intro w2 hz hs hn1 hk
  have HR2 := hz; have HO2 := Lib.hid (hk.block HO1.out); have HB2 := Lib.hid (HB1.out.kept hk).1; have HK2 := Lib.hid (HK1.out.trans hk)
  have HOR := Lib.hid (Array.getElem?_eq_some_iff.1 HO1.out).1
  generalize w1.heap.size = Rb at *
  clear hz hs hn1 hk HO1 HB1 HK1
  go_wp2
  go_loopw [8, 15] (fun fl i wr => ∃ (k : Nat) (failed : Bool) (o : List Int), k ≤ L.length ∧ i = .int .i64 k ∧ fl = .bool failed ∧ Hid (wr.heap[O]? = some (.cells (u8s o).toArray 43 (0, 0))) ∧ Hid (IsSec o) ∧ Hid (T.joinL (L.drop k) o failed = (res, rc)) ∧ Hid (BK w0 (fun k => R k ∨ k = O) wr q T) ∧ Hid (But (fun j => j = O) w2 wr)) (fun _ i _ => L.length - (intOf i).toNat)
  case atStart => exact ⟨0, false, out, Nat.zero_le _, rfl, rfl, HO2, HO, Lib.hid (by rw [List.drop_zero]; exact HRES.out), HB2, Lib.hid (But.refl _ _)⟩
  case round =>
    obtain ⟨k, failed, o, hk, rfl, rfl, HX, HIS, HJ, HB, HU2⟩ := hrel
    by_cases hlt : k < L.length
    · obtain ⟨b, off, rfl, hbl, c0, c1⟩ := HVK.out k hlt
      have hb2 : b < w2.heap.size := by have := HK2.out.size; have := HPE.out; omega
      have hbk := HU2.out.block b hb2 (show ¬ b = O by omega)
      have d0 := (World.cell?_of_block (a := ⟨b, off + k * 2, none⟩) hbk).trans (HK2.out.cell' c0)
      have d1 := (World.cell?_of_block (a := ⟨b, off + k * 2 + 1, none⟩) hbk).trans (HK2.out.cell' c1)
      have HJ2 : Hid (T.joinL ((L.getD k (0, 0)) :: L.drop (k + 1)) o failed = (res, rc)) := Lib.hid (by
        have := HJ.out
        rw [List.drop_eq_getElem_cons hlt] at this
        rw [show L.getD k (0, 0) = L[k] by rw [List.getD_eq_getElem?_getD, List.getElem?_eq_getElem hlt]; rfl]
        exact this)
      clear c0 c1 hbk hb2 HVK HJ
      generalize L.getD k (0, 0) = p at *
      obtain ⟨x, y⟩ := p
      have HC : Hid (Cells wr b (off + k * 2) [.int .i64 x, .int .i64 y]) := Lib.hid (fun j hj => by
        have hj2 : j < 2 := hj
        have : j = 0 ∨ j = 1 := by omega
        rcases this with rfl | rfl
        · exact d0
        · exact d1)
      clear d0 d1
      obtain ⟨sx, c, hr⟩ : ∃ sx c, T.read x y = (sx, c) := ⟨_, _, rfl⟩
      have HRD := Lib.hid hr
      have HSX : Hid (IsSec sx) := Lib.hid (by have := BankT.read_sec HU.out.inv x y; rw [hr] at this; exact this)
      have HJ3 : Hid ((if lostB c then BankT.joinL T (L.drop (k + 1)) (xorS o sx) true else if c ≠ 0 then (zeroB, c) else BankT.joinL T (L.drop (k + 1)) (xorS o sx) failed) = (res, rc)) := Lib.hid (by
        have := HJ2.out
        unfold BankT.joinL at this
        simp only [hr] at this
        exact this)
      clear hr HJ2
      go_wp2_with (refine stop_at (o := ⟨some 18, _, _, _, _, _⟩) ?_)
      refine Stop.mk ?_
      refine wpList_load_agg rfl _ rfl ty_plc b (off + k * 2) rfl [.int .i64 x, .int .i64 y] HC.out rfl ?_
      go_wp2_with (refine stop_at (o := ⟨some 10, _, _, _, _, _⟩) ?_)
      refine Stop.mk ?_
      refine wpList_new_row rfl rfl _ _ rfl rfl ty_plc _ zero_plc rfl [.int .i64 x, .int .i64 y] rfl rfl (one_plc _ _) rfl ?_
      intro w3 hz hs hk3
      have HP3 := hz; have HX3 := Lib.hid (hk3.block HX.out); have HB3 := Lib.hid (HB.out.kept hk3).1; have HU3 := Lib.hid (HU2.out.keep hk3)
      generalize wr.heap.size = Pb at *
      clear hz hs hk3 HX HB HU2 HC
      go_wp2_with (refine stop_at (o := ⟨some 21, _, _, _, _, _⟩) ?_)
      refine Stop.mk ?_
      refine wpList_load_agg rfl _ rfl ty_plc Pb 0 rfl [.int .i64 x, .int .i64 y] (by simpa using Cells.of_block HP3.out) rfl ?_
      go_wp2_with fail
      refine Calls.mono (st_read HB3.out HU.out x y HRD.out) ?_
      rintro e w4 ⟨rfl, hb4, hk4⟩
      have HX4 := Lib.hid (hk4.block HX3.out); have HB4 := Lib.hid hb4; have HU4 := Lib.hid (HU3.out.keep hk4)
      clear hb4 hk4 HX3 HB3 HU3 HP3
      go_wp2_with (refine stop_at (o := ⟨some 11, _, _, _, _, _⟩) ?_)
      refine Stop.mk ?_
      refine wpList_new_row rfl rfl _ _ rfl rfl ty_sec (u8s zeroB) zero_sec (by rw [u8s_length, zeroB_length]) (u8s sx) rfl (by rw [u8s_length, HSX.out.1]) (u8s_one _) rfl ?_
      intro w5 hz hs hk5
      have HS5 := hz; have HX5 := Lib.hid (hk5.block HX4.out); have HB5 := Lib.hid (HB4.out.kept hk5).1; have HU5 := Lib.hid (HU4.out.keep hk5)
      generalize w4.heap.size = Sb at *
      clear hz hs hk5 HX4 HB4 HU4
      have HZ := Lib.hid (xorS_sec HIS.out HSX.out)
      go_wp2_with fail
      refine Calls.mono (st_lost c _) ?_
      rintro e w6 ⟨rfl, rfl⟩
      by_cases hlost : lostB c = true
      · have hj4 := HJ3.out
        rw [if_pos hlost] at hj4
        have HJ4 := Lib.hid hj4
        rw [hlost]
        clear hj4 HJ3
        go_wp2_with (refine stop_at (o := ⟨some 33, _, _, _, _, _⟩) ?_)
        refine Stop.mk ?_
        refine wpList_load_agg rfl _ rfl ty_sec O 0 rfl (u8s o) (by simpa using Cells.of_block HX5.out) (by rw [u8s_length, HIS.out.1]) ?_
        go_wp2_with (refine stop_at (o := ⟨some 34, _, _, _, _, _⟩) ?_)
        refine Stop.mk ?_
        refine wpList_load_agg rfl _ rfl ty_sec Sb 0 rfl (u8s sx) (by simpa using Cells.of_block HS5.out) (by rw [u8s_length, HSX.out.1]) ?_
        go_wp2_with fail
        refine Calls.mono (parity_Xor HIS.out HSX.out _) ?_
        rintro e w7 ⟨rfl, hk7⟩
        have HX7 := Lib.hid (hk7.block HX5.out); have HB7 := Lib.hid (HB5.out.kept hk7).1; have HU7 := Lib.hid (HU5.out.keep hk7)
        clear hk7 HX5 HB5 HU5 HS5
        go_wp2_with (refine stop_at (o := ⟨none, .store _ _ _, _, _, _, _⟩) ?_)
        refine Stop.mk ?_
        refine wpList_store_agg rfl _ _ rfl ty_sec O 0 rfl (u8s (xorS o sx)) rfl (by rw [u8s_length, HZ.out.1]) (u8s_one _) _ _ HX7.out (by rw [u8s_length, HIS.out.1]; decide) ?_
        intro w8 hw
        replace hw := hw.all (by rw [u8s_length, u8s_length, HZ.out.1, HIS.out.1])
        have HX8 := Lib.hid hw.blk
        have HB8 := Lib.hid (HB7.out.wrote hw (.inr rfl) (by have := HW0.out; have := HPE.out; omega))
        have HU8 := Lib.hid (HU7.out.trans (But.wrote (S := fun j => j = O) hw rfl))
        clear hw HX7 HB7 HU7
        go_wp2
        go_roundw
        case rel => exact ⟨k + 1, true, xorS o sx, hlt, by go_num, rfl, HX8, HZ, HJ4, HB8, HU8⟩
        case measure => simp [intOf]; omega
      · have hl2 : lostB c = false := by simpa using hlost
        have hj4 := HJ3.out
        rw [hl2, if_neg (by decide)] at hj4
        rw [hl2]
        by_cases hc0 : c = 0
        · rw [if_neg (fun h => h hc0)] at hj4
          have HJ4 := Lib.hid hj4
          subst hc0
          clear hj4 HJ3 hlost hl2
          go_wp2_with (refine stop_at (o := ⟨some 33, _, _, _, _, _⟩) ?_)
          refine Stop.mk ?_
          refine wpList_load_agg rfl _ rfl ty_sec O 0 rfl (u8s o) (by simpa using Cells.of_block HX5.out) (by rw [u8s_length, HIS.out.1]) ?_
          go_wp2_with (refine stop_at (o := ⟨some 34, _, _, _, _, _⟩) ?_)
          refine Stop.mk ?_
          refine wpList_load_agg rfl _ rfl ty_sec Sb 0 rfl (u8s sx) (by simpa using Cells.of_block HS5.out) (by rw [u8s_length, HSX.out.1]) ?_
          go_wp2_with fail
          refine Calls.mono (parity_Xor HIS.out HSX.out _) ?_
          rintro e w7 ⟨rfl, hk7⟩
          have HX7 := Lib.hid (hk7.block HX5.out); have HB7 := Lib.hid (HB5.out.kept hk7).1; have HU7 := Lib.hid (HU5.out.keep hk7)
          clear hk7 HX5 HB5 HU5 HS5
          go_wp2_with (refine stop_at (o := ⟨none, .store _ _ _, _, _, _, _⟩) ?_)
          refine Stop.mk ?_
          refine wpList_store_agg rfl _ _ rfl ty_sec O 0 rfl (u8s (xorS o sx)) rfl (by rw [u8s_length, HZ.out.1]) (u8s_one _) _ _ HX7.out (by rw [u8s_length, HIS.out.1]; decide) ?_
          intro w8 hw
          replace hw := hw.all (by rw [u8s_length, u8s_length, HZ.out.1, HIS.out.1])
          have HX8 := Lib.hid hw.blk
          have HB8 := Lib.hid (HB7.out.wrote hw (.inr rfl) (by have := HW0.out; have := HPE.out; omega))
          have HU8 := Lib.hid (HU7.out.trans (But.wrote (S := fun j => j = O) hw rfl))
          clear hw HX7 HB7 HU7
          go_wp2
          go_roundw
          case rel => exact ⟨k + 1, failed, xorS o sx, hlt, by go_num, rfl, HX8, HZ, HJ4, HB8, HU8⟩
          case measure => simp [intOf]; omega
        · rw [if_pos hc0] at hj4
          obtain ⟨rfl, rfl⟩ : zeroB = res ∧ c = rc := by cases hj4; exact ⟨rfl, rfl⟩
          have hcb : (c == 0) = false := by simpa using hc0
          clear hj4 HJ3
          have HR5 := Lib.hid (HU5.out.blk (show ¬ Rb = O by have := HOR.out; omega) HR2.out)
          go_wp2_with (refine stop_at (o := ⟨none, .store _ _ _, _, _, _, _⟩) ?_)
          refine Stop.mk ?_
          refine wpList_store_agg rfl _ _ rfl ty_sec Rb 0 rfl (u8s zeroB) rfl (by rw [u8s_length, zeroB_length]) (u8s_one _) _ _ HR5.out (by rw [u8s_length, zeroB_length]; decide) ?_
          intro w7 hw
          replace hw := hw.all rfl
          have HW := Lib.hid hw
          have HK7 : Hid (Kept W w7) := Lib.hid (hw.kept (But.to_kept HK2.out HU5.out (fun i hi => by have := HPE.out; omega)) (by have := HOR.out; have := HPE.out; omega))
          clear hw
          go_wp2
          refine bodyPost_ret (results_sec rfl _ _ Rb zeroB rfl HW.out.cells zeroB_length) rfl ?_
          exact ⟨rfl, HK7.out⟩
    · have hkl : k = L.length := by omega
      subst hkl
      have hj4 := HJ.out
      rw [List.drop_length] at hj4
      unfold BankT.joinL at hj4
      have HR5 := Lib.hid (HU2.out.blk (show ¬ Rb = O by have := HOR.out; omega) HR2.out)
      cases failed with
      | true =>
        rw [if_pos rfl] at hj4
        obtain ⟨rfl, rfl⟩ : zeroB = res ∧ 5 = rc := by cases hj4; exact ⟨rfl, rfl⟩
        clear hj4 HJ
        go_wp2_with (refine stop_at (o := ⟨none, .store _ _ _, _, _, _, _⟩) ?_)
        refine Stop.mk ?_
        refine wpList_store_agg rfl _ _ rfl ty_sec Rb 0 rfl (u8s zeroB) rfl (by rw [u8s_length, zeroB_length]) (u8s_one _) _ _ HR5.out (by rw [u8s_length, zeroB_length]; decide) ?_
        intro w7 hw
        replace hw := hw.all rfl
        have HW := Lib.hid hw
        have HK7 : Hid (Kept W w7) := Lib.hid (hw.kept (But.to_kept HK2.out HU2.out (fun i hi => by have := HPE.out; omega)) (by have := HOR.out; have := HPE.out; omega))
        clear hw
        go_wp2
        refine bodyPost_ret (results_sec rfl _ _ Rb zeroB rfl HW.out.cells zeroB_length) rfl ?_
        exact ⟨rfl, HK7.out⟩
      | false =>
        rw [if_neg (by decide)] at hj4
        obtain ⟨rfl, rfl⟩ : o = res ∧ 0 = rc := by cases hj4; exact ⟨rfl, rfl⟩
        clear hj4 HJ
        go_wp2_with (refine stop_at (o := ⟨some 39, _, _, _, _, _⟩) ?_)
        refine Stop.mk ?_
        refine wpList_load_agg rfl _ rfl ty_sec O 0 rfl (u8s o) (by simpa using Cells.of_block HX.out) (by rw [u8s_length, HIS.out.1]) ?_
        go_wp2_with (refine stop_at (o := ⟨none, .store _ _ _, _, _, _, _⟩) ?_)
        refine Stop.mk ?_
        refine wpList_store_agg rfl _ _ rfl ty_sec Rb 0 rfl (u8s o) rfl (by rw [u8s_length, HIS.out.1]) (u8s_one _) _ _ HR5.out (by rw [u8s_length, zeroB_length]; decide) ?_
        intro w7 hw
        replace hw := hw.all (by rw [u8s_length, u8s_length, zeroB_length, HIS.out.1])
        have HW := Lib.hid hw
        have HK7 : Hid (Kept W w7) := Lib.hid (hw.kept (But.to_kept HK2.out HU2.out (fun i hi => by have := HPE.out; omega)) (by have := HOR.out; have := HPE.out; omega))
        clear hw
        go_wp2
        refine bodyPost_ret (results_sec rfl _ _ Rb o rfl HW.out.cells HIS.out.1) rfl ?_
        exact ⟨rfl, HK7.out⟩
end
end Go.Proofs.YtglplhmclfekfaaGreat
/- stripe.Read, of a slot that there is. -/
namespace Go.Proofs.YtglplhmclfekfaaGreat
open Go.RowKit
set_option linter.unusedVariables false
set_option linter.unusedSimpArgs false

/-- the other places of a slot's stripe -/
def matesL (L : List (Int × Int)) (t k : Nat) : List (Int × Int) := dataS L t (k : Int) ++ [plcAt L t (holdN L.length t)]
/-- what is in a slot -/
def BankT.readL (T : BankT) (L : List (Int × Int)) (t k : Nat) : List Int × Int :=
  if lostB (T.read (plcAt L t k).1 (plcAt L t k).2).2 then T.joinL (matesL L t k) zeroB false else T.read (plcAt L t k).1 (plcAt L t k).2
theorem joinL_sec {T : BankT} (h : T.Inv) : ∀ (L : List (Int × Int)) (out : List Int) (f : Bool), IsSec out → IsSec (T.joinL L out f).1
  | [], out, f, ho => by
    unfold BankT.joinL
    split
    · exact zeroB_sec1
    · exact ho
  | p :: L, out, f, ho => by
    have hs := BankT.read_sec h p.1 p.2
    unfold BankT.joinL
    split
    · exact joinL_sec h L _ _ (xorS_sec ho hs)
    · split
      · exact zeroB_sec1
      · exact joinL_sec h L _ _ (xorS_sec ho hs)
theorem ESl.of_owns {w : World} {base e : Nat} {v : Value} {L : List (Int × Int)} {n : Nat} (hn : n = L.length) (h : w.ownsRow base e 2 v n (evals L)) : ESl w v L := by
  subst hn
  rcases owns_form h with ⟨rfl, h0, _⟩ | ⟨g, cap, rfl, hb, hg, _, hc⟩
  · exact ⟨none, 0, by rw [h0], fun k hk => by omega⟩
  · refine ESl.of_cells ?_ hc
    rcases h.2 with ⟨e, _⟩ | ⟨g', cap', cur, e, _, hh, _⟩
    · cases e
    · cases e; exact (Array.getElem?_eq_some_iff.1 hh).1
/-- 'api.Sector{}' -/
theorem wpList_zero_sec {ops : Array Oper} {rest : List Oper} {o : Oper} {a : Act} {w : World} {Q : Exit → Act → World → Prop} (hgd : o.guard = none) (ho : o.op = .build 43 #[])
    (h : wpList Tryz.prog ops Q rest (a.put o.dst (.agg (u8s zeroB).toArray)) w) : wpList Tryz.prog ops Q (o :: rest) a w := by
  have hr : ∀ w : World, (Instr.build 43 #[]).run Tryz.prog w = .ok (.agg (u8s zeroB).toArray) w := fun w => run_build w 43 #[] (u8s zeroB).toArray (by kernel_rfl)
  refine wpList_plain hgd fun K hK => ?_
  unfold Oper.wp execOp
  simp only [ho, List.map_toArray, List.map_nil, Sem.run_bind, hr, Result.andThen_ok, Sem.run_pure]
  exact hK _ _ h
section
variable {w0 W : World} {R : Nat → Prop} {q : Nat} {T : BankT}
set_option maxHeartbeats 2000000
set_option maxRecDepth 100000
theorem st_Read (h : BK w0 R W q T) (u : T.Use) {v : Value} {L : List (Int × Int)} (hv : ESl W v L) (hN : Near L) (hl9 : L.length ≤ 900) (slot : Int) (t k : Nat) (h2 : 2 ≤ L.length) (ht : t < 8) (hk : k < L.length) (hs : splitX L.length slot = ((t : Int), (k : Int), 0)) :
    Calls Tryz.prog 22 #[.pointer (some ⟨q, 0, none⟩), v, .int .i64 slot] W fun e w' => e = .returned (.tuple #[secV (T.readL L t k).1, .int .i64 (T.readL L t k).2]) ∧ Kept W w' := by
  have HB0 := Lib.hid h; have HU := Lib.hid u; have HV0 := Lib.hid hv; have HN := Lib.hid hN
  have HHM := Lib.hid fun (W : World) (he : ESl W v L) => st_Home he hN slot
  have HMT := Lib.hid fun (W : World) (he : ESl W v L) => st_Mates he hN slot (by rw [hs]) t k h2 ht hk hs
  have hhm : homeX L slot = (plcAt L t k, 0) := by unfold homeX; rw [hs]; rfl
  simp only [hhm] at HHM
  obtain ⟨x, y, hxy⟩ : ∃ x y, plcAt L t k = (x, y) := ⟨_, _, rfl⟩
  rw [hxy] at HHM
  obtain ⟨res, rc, hres⟩ : ∃ res rc, T.readL L t k = (res, rc) := ⟨_, _, rfl⟩
  rw [hres]
  obtain ⟨sx, c, hr⟩ : ∃ sx c, T.read x y = (sx, c) := ⟨_, _, rfl⟩
  have HRES : Hid ((if lostB c then T.joinL (matesL L t k) zeroB false else (sx, c)) = (res, rc)) := Lib.hid (by
    have := hres
    unfold BankT.readL at this
    simp only [hxy, hr] at this
    exact this)
  have HRD := Lib.hid hr
  have HSX : Hid (IsSec sx) := Lib.hid (by have := BankT.read_sec u.inv x y; rw [hr] at this; exact this)
  have HML : Hid ((matesL L t k).length ≤ 1000 ∧ (dataS L t (k : Int)).length + 1 = (matesL L t k).length) := Lib.hid (by
    have := dataTo_le L t (k : Int) L.length
    have e : (matesL L t k).length = (dataS L t (k : Int)).length + 1 := by simp [matesL]
    unfold dataS at e ⊢
    omega)
  obtain ⟨oa, cap, rfl, _⟩ := hv
  clear h u hN hhm hxy hres hr hs
  go_enter Tryz.func22, Tryz.ntmps22
  go_wp2_with (refine stop_at (o := ⟨some 6, _, _, _, _, _⟩) ?_)
  refine Stop.mk ?_
  refine wpList_alloc_abs rfl 43 rfl (u8s zeroB) zero_sec ?_
  intro w1 hz hs hn1 hk1
  have HR1 := hz; have HB1 := Lib.hid (HB0.out.kept hk1).1; have HK1 := Lib.hid hk1; have HV1 := Lib.hid (HV0.out.kept hk1)
  have HPW := Lib.hid (Nat.le_refl W.heap.size)
  generalize hP : W.heap.size = Rb at *
  have HPE := Lib.hid hP
  clear hz hs hn1 hk1 hP HB0 HV0
  go_wp2_with fail
  refine Calls.mono (HHM.out _ HV1.out) ?_
  rintro e w2 ⟨rfl, hk2⟩
  have HR2 := Lib.hid (hk2.block HR1.out); have HB2 := Lib.hid (HB1.out.kept hk2).1; have HK2 := Lib.hid (HK1.out.trans hk2); have HV2 := Lib.hid (HV1.out.kept hk2)
  clear hk2 HR1 HB1 HK1 HV1 HHM
  go_wp2_with (refine stop_at (o := ⟨some 8, _, _, _, _, _⟩) ?_)
  refine Stop.mk ?_
  refine wpList_new_row rfl rfl _ _ rfl rfl ty_plc _ zero_plc rfl [.int .i64 x, .int .i64 y] rfl rfl (one_plc _ _) rfl ?_
  intro w3 hz hs hk3
  have HP3 := hz; have HR3 := Lib.hid (hk3.block HR2.out); have HB3 := Lib.hid (HB2.out.kept hk3).1; have HK3 := Lib.hid (HK2.out.trans hk3); have HV3 := Lib.hid (HV2.out.kept hk3)
  generalize w2.heap.size = Pb at *
  clear hz hs hk3 HR2 HB2 HK2 HV2
  go_wp2_with (refine stop_at (o := ⟨some 25, _, _, _, _, _⟩) ?_)
  refine Stop.mk ?_
  refine wpList_load_agg rfl _ rfl ty_plc Pb 0 rfl [.int .i64 x, .int .i64 y] (by simpa using Cells.of_block HP3.out) rfl ?_
  go_wp2_with fail
  refine Calls.mono (st_read HB3.out HU.out x y HRD.out) ?_
  rintro e w4 ⟨rfl, hb4, hk4⟩
  have HR4 := Lib.hid (hk4.block HR3.out); have HB4 := Lib.hid hb4; have HK4 := Lib.hid (HK3.out.trans hk4); have HV4 := Lib.hid (HV3.out.kept hk4)
  clear hb4 hk4 HR3 HB3 HK3 HV3 HP3
  go_wp2_with (refine stop_at (o := ⟨some 10, _, _, _, _, _⟩) ?_)
  refine Stop.mk ?_
  refine wpList_new_row rfl rfl _ _ rfl rfl ty_sec (u8s zeroB) zero_sec (by rw [u8s_length, zeroB_length]) (u8s sx) rfl (by rw [u8s_length, HSX.out.1]) (u8s_one _) rfl ?_
  intro w5 hz hs hk5
  have HS5 := hz; have HR5 := Lib.hid (hk5.block HR4.out); have HB5 := Lib.hid (HB4.out.kept hk5).1; have HK5 := Lib.hid (HK4.out.trans hk5); have HV5 := Lib.hid (HV4.out.kept hk5)
  generalize w4.heap.size = Sb at *
  clear hz hs hk5 HR4 HB4 HK4 HV4
  go_wp2_with fail
  refine Calls.mono (st_lost c _) ?_
  rintro e w6 ⟨rfl, rfl⟩
  by_cases hlost : lostB c = true
  · have hj4 := HRES.out
    rw [if_pos hlost] at hj4
    have HJ4 := Lib.hid hj4
    rw [hlost]
    clear hj4 HRES HS5
    go_wp2_with fail
    refine Calls.mono (HMT.out _ HV5.out) ?_
    rintro e w7 ⟨r, rfl, hrow, hk7⟩
    have HM7 := Lib.hid (ESl.of_owns HML.out.2 hrow)
    obtain ⟨ma, mc, rfl, _⟩ := HM7.out
    have HR7 := Lib.hid (hk7.block HR5.out); have HB7 := Lib.hid (HB5.out.kept hk7).1; have HK7 := Lib.hid (HK5.out.trans hk7)
    clear hk7 hrow HR5 HB5 HK5 HV5 HMT
    go_wp2_with (refine stop_at (o := ⟨some 42, _, _, _, _, _⟩) ?_)
    refine Stop.mk ?_
    refine wpList_zero_sec rfl rfl ?_
    go_wp2_with fail
    have hjn := st_joined HB7.out HU.out HM7.out HML.out.1 zeroB_sec1
    rw [HJ4.out] at hjn
    refine Calls.mono hjn ?_
    rintro e w8 ⟨rfl, hk8⟩
    have HR8 := Lib.hid (hk8.block HR7.out); have HK8 := Lib.hid (HK7.out.trans hk8)
    have HRS : Hid (res.length = 64) := Lib.hid (by
      have h9 := HJ4.out
      have h10 := joinL_sec HU.out.inv (matesL L t k) zeroB false zeroB_sec1
      rw [h9] at h10
      exact h10.1)
    clear hk8 HR7 HB7 HK7 HM7 hjn
    go_wp2_with (refine stop_at (o := ⟨none, .store _ _ _, _, _, _, _⟩) ?_)
    refine Stop.mk ?_
    refine wpList_store_agg rfl _ _ rfl ty_sec Rb 0 rfl (u8s res) rfl (by rw [u8s_length, HRS.out]) (u8s_one _) _ _ HR8.out (by rw [u8s_length, zeroB_length]; decide) ?_
    intro w9 hw
    replace hw := hw.all (by rw [u8s_length, u8s_length, zeroB_length, HRS.out])
    have HW := Lib.hid hw
    have HK9 : Hid (Kept W w9) := Lib.hid (hw.kept HK8.out (by have := HPE.out; omega))
    clear hw
    go_wp2
    refine bodyPost_ret (results_sec rfl _ _ Rb res rfl HW.out.cells HRS.out) rfl ?_
    exact ⟨rfl, HK9.out⟩
  · have hl2 : lostB c = false := by simpa using hlost
    have hj4 := HRES.out
    rw [hl2, if_neg (by decide)] at hj4
    obtain ⟨rfl, rfl⟩ : sx = res ∧ c = rc := by cases hj4; exact ⟨rfl, rfl⟩
    rw [hl2]
    clear hj4 HRES hlost hl2
    go_wp2_with (refine stop_at (o := ⟨some 32, _, _, _, _, _⟩) ?_)
    refine Stop.mk ?_
    refine wpList_load_agg rfl _ rfl ty_sec Sb 0 rfl (u8s sx) (by simpa using Cells.of_block HS5.out) (by rw [u8s_length, HSX.out.1]) ?_
    go_wp2_with (refine stop_at (o := ⟨none, .store _ _ _, _, _, _, _⟩) ?_)
    refine Stop.mk ?_
    refine wpList_store_agg rfl _ _ rfl ty_sec Rb 0 rfl (u8s sx) rfl (by rw [u8s_length, HSX.out.1]) (u8s_one _) _ _ HR5.out (by rw [u8s_length, zeroB_length]; decide) ?_
    intro w9 hw
    replace hw := hw.all (by rw [u8s_length, u8s_length, zeroB_length, HSX.out.1])
    have HW := Lib.hid hw
    have HK9 : Hid (Kept W w9) := Lib.hid (hw.kept HK5.out (by have := HPE.out; omega))
    clear hw
    go_wp2
    refine bodyPost_ret (results_sec rfl _ _ Rb sx rfl HW.out.cells HSX.out.1) rfl ?_
    exact ⟨rfl, HK9.out⟩
end
end Go.Proofs.YtglplhmclfekfaaGreat
/- stripe.WriteFull. -/
namespace Go.Proofs.YtglplhmclfekfaaGreat
open Go.RowKit
set_option linter.unusedVariables false
set_option linter.unusedSimpArgs false

/-- a slice of sectors that lies in one row -/
def SecSrc (W : World) (v : Value) (S : List (List Int)) : Prop := (S = [] ∧ v = .slice none 0 0) ∨ ∃ b off cap, v = .slice (some ⟨b, off, none⟩) S.length cap ∧ S.length ≤ cap ∧ b < W.heap.size ∧ Cells W b off (secsV S)
theorem SecSrc.kept {W W' : World} {v : Value} {S : List (List Int)} (h : SecSrc W v S) (hk : Kept W W') : SecSrc W' v S := by
  rcases h with h | ⟨b, off, cap, e, hc, hb, h⟩
  · exact .inl h
  · exact .inr ⟨b, off, cap, e, hc, Nat.lt_of_lt_of_le hb hk.size, Cells.kept h hk⟩
theorem secsV_cells {W : World} {b off : Nat} {S : List (List Int)} (hS : ∀ s ∈ S, s.length = 64) (h : Cells W b off (secsV S)) {k : Nat} (hk : k < S.length) : Cells W b (off + k * 64) (u8s S[k]) := fun j hj => by
  have hl := hS _ (List.getElem_mem hk)
  have hj2 : j < 64 := by rw [u8s_length, hl] at hj; exact hj
  have hlt : k * 64 + j < (secsV S).length := by rw [secsV_len S hS]; omega
  have h1 := h (k * 64 + j) hlt
  rw [show off + k * 64 + j = off + (k * 64 + j) by omega, h1]
  have h2 := secsV_at S hS (k * 64 + j) (by omega)
  rw [show (k * 64 + j) / 64 = k by omega, show (k * 64 + j) % 64 = j by omega, List.getD_eq_getElem?_getD, List.getElem?_eq_getElem hk, Option.getD_some, List.getElem?_eq_getElem hlt, List.getElem?_eq_getElem hj] at h2
  exact h2
theorem SecSrc.sl {W : World} {v : Value} {S : List (List Int)} (h : SecSrc W v S) (hS : ∀ s ∈ S, s.length = 64) : SecSl W v S := by
  rcases h with ⟨rfl, rfl⟩ | ⟨b, off, cap, rfl, hc, hb, h⟩
  · exact ⟨none, 0, rfl, fun k hk => by cases hk⟩
  · exact ⟨_, cap, rfl, fun k hk => ⟨b, off, rfl, hb, secsV_cells hS h hk⟩⟩
theorem SecSrc.form {W : World} {v : Value} {S : List (List Int)} (h : SecSrc W v S) : ∃ oa cap, v = .slice oa S.length cap := by
  rcases h with ⟨rfl, rfl⟩ | ⟨b, off, cap, rfl, _⟩
  · exact ⟨_, _, rfl⟩
  · exact ⟨_, _, rfl⟩
theorem SecSrc.src {W : World} {v : Value} {S : List (List Int)} (h : SecSrc W v S) (hS : ∀ s ∈ S, s.length = 64) : Src W 64 v S.length (secsV S) := by
  rcases h with ⟨rfl, rfl⟩ | ⟨b, off, cap, rfl, hc, hb, h⟩
  · exact Src.nil
  · exact Src.of_cells h (secsV_len S hS) hc
theorem ty_secsS : ElemT Tryz.prog 56 43 64 64 := by
  refine ⟨Tryz.underlying56, ?_, by decide⟩
  have h1 := secs_info'
  cases hi : Tryz.prog.info? 43 with
  | none => simp [hi] at h1
  | some i =>
    simp only [hi, Option.map_some, Option.some.injEq, Prod.mk.injEq] at h1
    exact ⟨i, _, rfl, h1.1, h1.2.1, h1.2.2, by decide⟩
theorem secsV_one (S : List (List Int)) : ∀ u ∈ secsV S, u.oneCell' = true := fun u hu => by
  obtain ⟨s, _, hs⟩ := List.mem_flatMap.1 hu
  exact u8s_one s u hs
theorem ownsRow_form1 {W : World} {base e size k : Nat} {v : Value} {xs : List Value} (h : W.ownsRow base e size v k xs) : ∃ oa cap, v = .slice oa k cap := by
  rcases h.2 with ⟨rfl, rfl⟩ | ⟨g, cap, cur, rfl, _⟩
  · exact ⟨_, _, rfl⟩
  · exact ⟨_, _, rfl⟩
/-- writes one behind the other, those to lost places counted -/
def BankT.fullL (T : BankT) : List ((Int × Int) × List Int) → Nat → BankT × Int
  | [], gone => (T, if 1 < gone then 5 else 0)
  | (p, s) :: l, gone => if lostB (T.write p.1 p.2 s).2 then BankT.fullL (T.write p.1 p.2 s).1 l (gone + 1) else if (T.write p.1 p.2 s).2 ≠ 0 then T.write p.1 p.2 s else BankT.fullL (T.write p.1 p.2 s).1 l gone
section
variable {w0 W W' : World} {R R' : Nat → Prop} {q : Nat} {T : BankT}
theorem BK.fresh (h : BK w0 R W q T) (hk : Kept W W') (hR : ∀ k, R' k → W.heap.size ≤ k ∧ k < W'.heap.size) : BK w0 (fun k => R k ∨ R' k) W' q T := by
  obtain ⟨Y, h0, h⟩ := h
  have h' := (h.kept hk).1
  refine ⟨Y, h0, ⟨h'.d, h'.keeps, h'.own, fun k hk' => ?_⟩⟩
  rcases hk' with hk' | hk'
  · exact h'.off k hk'
  · exact ⟨(hR k hk').2, fun hi => by have := h.d.lt hi; have := (hR k hk').1; omega⟩
end
section
variable {w0 W : World} {R : Nat → Prop} {q : Nat} {T : BankT}
set_option maxHeartbeats 2000000
set_option maxRecDepth 100000
theorem st_WriteFull (h : BK w0 R W q T) (hi : T.Inv) (hl0 : T.l.length ≠ 0) (hcl : T.clock < 900000000) (hwr : T.writes < 900000000) {v : Value} {L : List (Int × Int)} (hv : ESl W v L) (hN : Near L) (hl9 : L.length ≤ 900) (t : Nat) (h2 : 2 ≤ L.length) (ht : t < 8)
    {sv : Value} {S : List (List Int)} (hsv : SecSrc W sv S) (hS : ∀ s ∈ S, IsSec s) (hSl : S.length + 1 = L.length) :
    Calls Tryz.prog 19 #[.pointer (some ⟨q, 0, none⟩), v, .int .i64 (t : Int), sv] W fun e w' =>
      e = .returned (.int .i64 (T.fullL ((dataS L t (-1) ++ [plcAt L t (holdN L.length t)]).zip (S ++ [xorL S])) 0).2) ∧ BK w0 R w' q (T.fullL ((dataS L t (-1) ++ [plcAt L t (holdN L.length t)]).zip (S ++ [xorL S])) 0).1 ∧ SameR R W w' := by
  have HB0 := Lib.hid h; have HV0 := Lib.hid hv; have HN := Lib.hid hN; have HSV0 := Lib.hid hsv; have HSS := Lib.hid hS
  have HI := Lib.hid hi
  have HIU := Lib.hid (And.intro hl0 (And.intro hcl hwr))
  have hlen := hN.1
  obtain ⟨oa, cap, hvv⟩ : ∃ oa cap, v = .slice oa L.length cap := by obtain ⟨oa, cap, e, _⟩ := hv; exact ⟨oa, cap, e⟩
  subst hvv
  obtain ⟨sa, scap, hss⟩ := hsv.form
  subst hss
  have hr := fun W => st_right oa L.length cap hlen (t : Int) W
  rw [show rightX L.length (t : Int) = 0 by unfold rightX; rw [if_neg (by omega), if_neg (by omega)]] at hr
  have HR := Lib.hid hr
  have HD := Lib.hid fun (W : World) (he : ESl W (.slice oa L.length cap) L) => st_Data he hN h2 t ht
  have HHO := Lib.hid fun W => st_holder L.length t (by omega) hlen (by omega) W
  have HPL := Lib.hid fun (W : World) (he : ESl W (.slice oa L.length cap) L) => st_place he hN (holdN_lt (w := L.length) (by omega) t) t (by omega)
  obtain ⟨PL, hPL⟩ : ∃ PL, dataS L t (-1) ++ [plcAt L t (holdN L.length t)] = PL := ⟨_, rfl⟩
  obtain ⟨XS, hXS⟩ : ∃ XS, S ++ [xorL S] = XS := ⟨_, rfl⟩
  have HPP : Hid (evals (dataS L t (-1)) ++ [.int .i64 (plcAt L t (holdN L.length t)).1, .int .i64 (plcAt L t (holdN L.length t)).2] = evals PL) := Lib.hid (by rw [← hPL, evals_append]; rfl)
  have HXX : Hid (secsV S ++ u8s (xorL S) = secsV XS) := Lib.hid (by rw [← hXS]; simp [secsV])
  have HXI : Hid (∀ s ∈ XS, IsSec s) := Lib.hid (by
    intro s hs
    rw [← hXS, List.mem_append, List.mem_singleton] at hs
    rcases hs with hs | rfl
    · exact hS s hs
    · exact xorL_sec hS)
  have HLN : Hid (PL.length = L.length ∧ XS.length = L.length ∧ (dataS L t (-1)).length + 1 = L.length) := Lib.hid (by
    have e1 := dataS_len (L := L) (by omega) t
    refine ⟨by rw [← hPL, List.length_append, e1, List.length_singleton]; omega, by rw [← hXS, List.length_append, List.length_singleton]; omega, by omega⟩)
  obtain ⟨T', rc, hres⟩ : ∃ T' rc, T.fullL (PL.zip XS) 0 = (T', rc) := ⟨_, _, rfl⟩
  rw [hPL, hXS, hres]
  have HRES := Lib.hid hres
  generalize (plcAt L t (holdN L.length t)).1 = px at *
  generalize (plcAt L t (holdN L.length t)).2 = py at *
  generalize holdN L.length t = hd at *
  have hSn : ((S.length : Int) != (L.length : Int) - 1) = false := by simp; omega
  clear h hi hl0 hcl hwr hN hv hsv hr hPL hXS hres hS
  go_enter Tryz.func19, Tryz.ntmps19
  go_wp2_with fail
  refine Calls.mono (HR.out _) ?_
  rintro e w' ⟨rfl, rfl⟩
  go_wp2_with fail
  refine Calls.mono (HD.out _ HV0.out) ?_
  rintro e w1 ⟨r, rfl, hrow, hk1⟩
  have HK1 := Lib.hid hk1; have HW1 := Lib.hid hrow
  clear hk1 hrow HR HD
  go_wp2_with fail
  refine Calls.mono (HHO.out _) ?_
  rintro e w' ⟨rfl, rfl⟩
  go_wp2_with fail
  refine Calls.mono (HPL.out _ (HV0.out.kept HK1.out)) ?_
  rintro e w2 ⟨rfl, hk2⟩
  have HK2 := Lib.hid (HK1.out.trans hk2); have HW2 := Lib.hid (ownsRow_kept HW1.out hk2)
  clear hk2 HK1 HW1 HHO HPL
  go_wp2_with (refine stop_at (o := ⟨some 44, _, _, _, _, _⟩) ?_)
  refine Stop.mk ?_
  obtain ⟨ht', ⟨i0, z0, hi, hz, hsz', hby, hzs⟩, hpos⟩ := ty_places2
  refine wpList_append_own_wide _ rfl _ _ 39 rfl W.heap.size 47 i0 z0 2 16 ht' hi hz hsz' hby hzs (by decide) r (dataS L t (-1)).length (evals (dataS L t (-1))) rfl (HW2.out.alloc _) ⟨w2.heap.size, 0, none⟩ 1 1 [.int .i64 px, .int .i64 py] rfl rfl (two_new _ _ _ _) (evals_one [(px, py)]) (by have : maxLen = 9223372036854775807 := rfl; have := HLN.out.2.2; omega) (by have := HLN.out.2.2; omega) (by have := HK2.out.size; rw [World.size_alloc]; omega) ?_
  intro v4 w4 hown hgrow _
  have hk4 : Kept W w4 := (HK2.out.alloc _).grown hgrow (fun j ej => row_ge HW2.out ej)
  rw [HPP.out] at hown
  obtain ⟨g4, c4, rfl⟩ := ownsRow_succ hown
  have HW4 := Lib.hid hown; have HK4 := Lib.hid hk4
  clear hown hgrow hk4 HW2 HK2 HPP ht' hi hz hsz' hby hzs hpos
  have hn4 : (dataS L t (-1)).length + 1 = L.length := HLN.out.2.2
  simp only [hn4] at HW4 ⊢
  clear hn4
  go_wp2_with (refine stop_at (o := ⟨some 47, _, _, _, _, _⟩) ?_)
  refine Stop.mk ?_
  have hS1 : 1 ≤ S.length := by omega
  have HSV4 := Lib.hid (HSV0.out.kept (HK4.out.alloc (.cells #[] 43)))
  refine wpList_append_app _ rfl _ _ rfl ty_secsS W.heap.size _ 0 [] rfl (.inr ⟨rfl, _, rfl, by simp, by simp⟩) _ S.length (secsV S) rfl (HSV4.out.src (fun s hs => (HSS.out s hs).1)) (secsV_one S) (by have : maxLen = 9223372036854775807 := rfl; omega) (by omega) (by have := HK4.out.size; rw [World.size_alloc]; omega) ?_
  intro v6 w6 _ hg6 hb6 hown
  have hk6 : Kept W w6 := Below.trans (HK4.out.alloc (.cells #[] 43)) hb6
  have hw4 : w6.ownsRow W.heap.size 47 2 (.slice (some ⟨g4, 0, none⟩) L.length c4) L.length (evals PL) := by
    refine (HW4.out.alloc _).kept hg6 (.inr fun e => ?_)
    obtain ⟨_, _, _, e2, _, hh, _⟩ := HW4.out.2.resolve_left (fun h => by omega)
    cases e2
    have h1 := (Array.getElem?_eq_some_iff.1 hh).1
    have e3 : (some g4 : Option Nat) = some w4.heap.size := e
    injection e3 with e3
    omega
  have HK6 := Lib.hid hk6; have HO6 := Lib.hid (hown (.inl (by omega))); have HSV6 := Lib.hid (HSV0.out.kept hk6)
  have HW6 := Lib.hid hw4
  clear hk6 hb6 hown hw4 HSV4 HK4 HW4
  obtain ⟨oa6, cap6, hv6⟩ : ∃ oa6 cap6, v6 = .slice oa6 S.length cap6 := by
    obtain ⟨g, cap, e⟩ := ownsRow_form1 HO6.out
    exact ⟨_, _, by rw [e, Nat.zero_add]⟩
  subst hv6
  go_wp2_with fail
  refine Calls.mono (parity_Build (HSV6.out.sl (fun s hs => (HSS.out s hs).1)) HSS.out (by omega)) ?_
  rintro e w7 ⟨rfl, hk7⟩
  have HK7 := Lib.hid (HK6.out.trans hk7); have HO7 := Lib.hid (ownsRow_kept HO6.out hk7); have HW7 := Lib.hid (ownsRow_kept HW6.out hk7)
  have HXL := Lib.hid (xorL_sec HSS.out)
  clear hk7 HK6 HO6 HW6 HSV6
  go_wp2_with (refine stop_at (o := ⟨some 50, _, _, _, _, _⟩) ?_)
  refine Stop.mk ?_
  refine wpList_secs rfl 1 _ rfl [xorL S] rfl (by decide) (by decide) (fun s hs => by rw [List.mem_singleton.1 hs]; exact HXL.out.1) (by simp [Act.eval, List.zipIdx, secV]) ?_
  intro w8 hz hs8 hk8
  have HZ8 := hz; have HK8 := Lib.hid (HK7.out.trans hk8); have HO8 := Lib.hid (ownsRow_kept HO7.out hk8); have HW8 := Lib.hid (ownsRow_kept HW7.out hk8)
  generalize w7.heap.size = G at *
  clear hz hs8 hk8 HK7 HO7 HW7
  go_wp2_with (refine stop_at (o := ⟨some 51, _, _, _, _, _⟩) ?_)
  refine Stop.mk ?_
  obtain ⟨ht', ⟨i1, z1, hi, hz, hsz', hby, hzs⟩, hpos⟩ := ty_secsS
  refine wpList_append_own_wide _ rfl _ _ 56 rfl W.heap.size 43 i1 z1 64 64 ht' hi hz hsz' hby hzs (by decide) _ (0 + S.length) ([] ++ secsV S) rfl HO8.out ⟨G, 0, none⟩ 1 1 (u8s (xorL S)) rfl (by rw [u8s_length, HXL.out.1]) (fun j u hu => by
    have h1 := cell_of_row w8 G j _ _ _ HZ8.out
    rw [Addr.add_mid, Nat.zero_add, h1]
    simpa [secsV] using hu) (u8s_one _) (by have : maxLen = 9223372036854775807 := rfl; omega) (by omega) HK8.out.size ?_
  intro v9 w9 hown hgrow _
  have hk9 : Kept W w9 := HK8.out.grown hgrow (fun j ej => row_ge HO8.out ej)
  have hw9 : w9.ownsRow W.heap.size 47 2 (.slice (some ⟨g4, 0, none⟩) L.length c4) L.length (evals PL) := by
    refine HW8.out.kept hgrow (.inr fun e => ?_)
    obtain ⟨_, _, _, e2, _, hh, _⟩ := HW8.out.2.resolve_left (fun h => by omega)
    cases e2
    exact own_other HO8.out hh (by decide) e.symm
  rw [List.nil_append, HXX.out] at hown
  have hn9 : 0 + S.length + 1 = L.length := by omega
  simp only [hn9] at hown
  obtain ⟨g9, c9, rfl⟩ : ∃ g9 c9, v9 = .slice (some ⟨g9, 0, none⟩) L.length c9 := by
    rcases hown.2 with ⟨_, h0⟩ | ⟨g, cap, cur, e, _⟩
    · omega
    · exact ⟨g, cap, e⟩
  have hg4 : W.heap.size ≤ g4 ∧ g4 < w9.heap.size := ⟨row_ge hw9 rfl, by
    obtain ⟨_, _, _, e2, _, hh, _⟩ := hw9.2.resolve_left (fun h => by omega)
    cases e2; exact (Array.getElem?_eq_some_iff.1 hh).1⟩
  have hg9 : W.heap.size ≤ g9 ∧ g9 < w9.heap.size := ⟨row_ge hown rfl, by
    obtain ⟨_, _, _, e2, _, hh, _⟩ := hown.2.resolve_left (fun h => by omega)
    cases e2; exact (Array.getElem?_eq_some_iff.1 hh).1⟩
  have hC4 : Cells w9 g4 0 (evals PL) := by
    rcases owns_form hw9 with ⟨e, _⟩ | ⟨g, cap, e, _, _, _, hc⟩
    · cases e
    · cases e; exact hc
  have hC9 : Cells w9 g9 0 (secsV XS) := by
    rcases owns_form hown with ⟨e, _⟩ | ⟨g, cap, e, _, _, _, hc⟩
    · cases e
    · cases e; exact hc
  have HB9 := Lib.hid (HB0.out.fresh (R' := fun k => k = g4 ∨ k = g9) hk9 (fun k hk => by rcases hk with rfl | rfl; exact hg4; exact hg9))
  have HSR9 : Hid (SameR R W w9) := Lib.hid (HB0.out.kept hk9).2
  have HC4 := Lib.hid hC4; have HC9 := Lib.hid hC9
  have HW0 := Lib.hid HB0.out.keeps.size
  have HG := Lib.hid (And.intro hg4 hg9)
  have HPX : Hid (PL.length = L.length ∧ XS.length = L.length) := Lib.hid ⟨HLN.out.1, HLN.out.2.1⟩
  clear hown hgrow hk9 hw9 hn9 hg4 hg9 hC4 hC9 HO8 HW8 HK8 HZ8 HXX HXL HSS HSV0 HB0 HV0 HLN ht' hi hz hsz' hby hzs hpos
  go_wp2
  go_loopw [13, 54] (fun gn i wr => ∃ (k gone : Nat) (T1 : BankT), k ≤ L.length ∧ gone ≤ k ∧ i = .int .i64 k ∧ gn = .int .i64 gone ∧ Hid (T1.fullL ((PL.zip XS).drop k) gone = (T', rc)) ∧ Hid (T1.Inv ∧ T1.l.length = T.l.length ∧ T1.clock ≤ T.clock + k ∧ T1.writes ≤ T.writes + k) ∧ Hid (BK w0 (fun k => R k ∨ (k = g4 ∨ k = g9)) wr q T1) ∧ Hid (SameR (fun k => R k ∨ (k = g4 ∨ k = g9)) w9 wr)) (fun _ i _ => L.length - (intOf i).toNat)
  case atStart => exact ⟨0, 0, T, Nat.zero_le _, Nat.le_refl _, rfl, rfl, Lib.hid (by rw [List.drop_zero]; exact HRES.out), Lib.hid ⟨HI.out, rfl, by omega, by omega⟩, HB9, Lib.hid (SameR.refl _ _)⟩
  case round =>
    obtain ⟨k, gone, T1, hk, hgk, rfl, rfl, HF, HI1, HB, HSR⟩ := hrel
    by_cases hlt : k < L.length
    · obtain ⟨hpl, hxl⟩ := HPX.out
      have hkp : k < PL.length := by omega
      have hkx : k < XS.length := by omega
      have hc4 := HSR.out.cells (B := g4) (.inr (.inl rfl)) HC4.out
      have hc9 := HSR.out.cells (B := g9) (.inr (.inr rfl)) HC9.out
      have hq := evals_at PL k hkp
      have hF := HF.out
      have hsx := HXI.out _ (List.getElem_mem hkx)
      have hcx := secsV_cells (fun s hs => (HXI.out s hs).1) hc9 hkx
      rw [show PL.getD k (0, 0) = PL[k] by rw [List.getD_eq_getElem?_getD, List.getElem?_eq_getElem hkp]; rfl] at hq
      rw [List.drop_eq_getElem_cons (by rw [List.length_zip]; omega), List.getElem_zip] at hF
      generalize XS[k] = sx at *
      generalize PL[k] = p at *
      obtain ⟨x, y⟩ := p
      have hcp : Cells wr g4 (k * 2) [.int .i64 x, .int .i64 y] := fun j hj => by
        have hj2 : j < 2 := hj
        have hh : j = 0 ∨ j = 1 := by omega
        rcases hh with rfl | rfl
        · obtain ⟨h1, e1⟩ := List.getElem?_eq_some_iff.1 hq.1
          have := hc4 (k * 2) h1
          rw [Nat.zero_add] at this
          show wr.cell? ⟨g4, k * 2 + 0, none⟩ = _
          rw [Nat.add_zero, this, e1]; rfl
        · obtain ⟨h1, e1⟩ := List.getElem?_eq_some_iff.1 hq.2
          have := hc4 (k * 2 + 1) h1
          rw [Nat.zero_add] at this
          rw [this, e1]; rfl
      have HCP := Lib.hid hcp; have HCX : Hid (Cells wr g9 (k * 64) (u8s sx)) := Lib.hid (by rw [Nat.zero_add] at hcx; exact hcx)
      have HSX := Lib.hid hsx
      obtain ⟨T2, c, hw⟩ : ∃ T2 c, T1.write x y sx = (T2, c) := ⟨_, _, rfl⟩
      have HF2 : Hid ((if lostB c then T2.fullL ((PL.zip XS).drop (k + 1)) (gone + 1) else if c ≠ 0 then (T2, c) else T2.fullL ((PL.zip XS).drop (k + 1)) gone) = (T', rc)) := Lib.hid (by
        unfold BankT.fullL at hF
        simp only [hw] at hF
        exact hF)
      have HWE := Lib.hid hw
      have HU1 : Hid T1.Use := Lib.hid ⟨HI1.out.1, by rw [HI1.out.2.1]; exact HIU.out.1, by have := HI1.out.2.2.1; have := HIU.out.2.1; omega, by have := HI1.out.2.2.2; have := HIU.out.2.2; omega⟩
      have HI2 : Hid (T2.Inv ∧ T2.l.length = T.l.length ∧ T2.clock ≤ T.clock + (k + 1 : Nat) ∧ T2.writes ≤ T.writes + (k + 1 : Nat)) := Lib.hid (by
        obtain ⟨r1, r2, r3⟩ := BankT.write_rest HI1.out.1.ok x y sx
        have r0 := HI1.out.1.write x y hsx
        rw [hw] at r0 r1 r2 r3
        have := HI1.out
        have r2' : T2.clock ≤ T1.clock + 1 := r2
        have r3' : T2.writes ≤ T1.writes + 1 := r3
        exact ⟨r0, r1.trans this.2.1, by omega, by omega⟩)
      clear hw hF hcp hcx hsx hc4 hc9 hq hkp hkx hpl hxl HF HI1
      go_wp2_with (refine stop_at (o := ⟨some 58, _, _, _, _, _⟩) ?_)
      refine Stop.mk ?_
      refine wpList_load_agg rfl _ rfl ty_plc g4 (k * 2) rfl [.int .i64 x, .int .i64 y] HCP.out rfl ?_
      go_wp2_with (refine stop_at (o := ⟨some 15, _, _, _, _, _⟩) ?_)
      refine Stop.mk ?_
      refine wpList_alloc_abs rfl 47 rfl [.int .i64 0, .int .i64 0] zero_plc ?_
      intro wa hz hsa hna hka
      have HPa := hz; have HBa := Lib.hid (HB.out.box hka hsa); have HCXa := Lib.hid (Cells.kept HCX.out hka)
      have HSRa := Lib.hid (HSR.out.trans (HB.out.kept hka).2)
      have HPS := Lib.hid HB.out.keeps.size
      have HBF : Hid (∀ b, (R b ∨ (b = g4 ∨ b = g9)) → b < wr.heap.size) := Lib.hid fun b hb => by
        obtain ⟨_, _, h⟩ := HB.out
        exact (h.off b hb).1
      generalize wr.heap.size = Pb at *
      clear hz hsa hna hka HB HCX HCP HSR
      go_wp2_with (refine stop_at (o := ⟨none, .store _ _ _, _, _, _, _⟩) ?_)
      refine Stop.mk ?_
      refine wpList_store_agg rfl _ _ rfl ty_plc Pb 0 rfl [.int .i64 x, .int .i64 y] rfl rfl (one_plc _ _) _ _ HPa.out (by decide) ?_
      intro wb hwb
      replace hwb := hwb.all rfl
      have hBb := HBa.out.wrote hwb (.inr rfl) (by have := HPS.out; omega)
      have HSRb : Hid (SameR (fun k => R k ∨ (k = g4 ∨ k = g9)) w9 wb) := Lib.hid (HSRa.out.trans fun b hb => hwb.oth b (by
        intro e
        subst e
        have h1 := HBF.out b hb
        omega))
      have HCXb : Hid (Cells wb g9 (k * 64) (u8s sx)) := Lib.hid (fun j hj => by
        rw [← HCXa.out j hj]
        exact World.cell?_of_block (a := ⟨g9, k * 64 + j, none⟩) (hwb.oth g9 (by have := HBF.out g9 (.inr (.inr rfl)); omega)))
      have HPb := Lib.hid hwb.blk; have HBb := Lib.hid hBb
      clear hwb hBb HBa HSRa HCXa HPa
      go_wp2
      refine wp_still_tail 6 (by kernel_rfl) (by kernel_rfl) fun ws hks hhs => ?_
      have HBs := Lib.hid (HBb.out.kept hks).1
      have HSRs := Lib.hid (HSRb.out.trans fun b hb => (HBb.out.kept hks).2 b (.inl hb))
      have HPs := Lib.hid (hks.block HPb.out); have HCXs := Lib.hid (Cells.kept HCXb.out hks)
      clear hks hhs HBb HSRb HCXb HPb
      simp only [List.take_succ_cons, List.take_zero, List.drop_succ_cons, List.drop_zero]
      iterate 1 still_step
      refine still_load_agg rfl _ rfl ty_plc Pb 0 rfl [.int .i64 x, .int .i64 y] (by simpa using Cells.of_block HPs.out) rfl ?_
      iterate 3 still_step
      refine still_load_agg rfl _ rfl ty_sec g9 (k * 64) rfl (u8s sx) HCXs.out (by rw [u8s_length, HSX.out.1]) ?_
      refine wpStill_nil ?_
      go_wp2_with fail
      refine Calls.mono (st_writeE HBs.out HU1.out x y HSX.out.1 HWE.out) ?_
      rintro e w5 ⟨rfl, hb5, hsr5⟩
      have HB5 := Lib.hid (hb5.less (fun k hk => .inl hk))
      have HSR5 := Lib.hid (HSRs.out.trans fun b hb => hsr5 b (.inl hb))
      clear hb5 hsr5 HBs HSRs HPs HCXs
      go_wp2_with fail
      refine Calls.mono (st_lost c _) ?_
      rintro e w6 ⟨rfl, rfl⟩
      by_cases hlost : lostB c = true
      · have hf3 := HF2.out
        rw [if_pos hlost] at hf3
        have HF3 := Lib.hid hf3
        rw [hlost]
        clear hf3 HF2
        go_wp2
        go_roundw
        case rel => exact ⟨k + 1, gone + 1, T2, hlt, by omega, by go_num, by go_num, HF3, HI2, HB5, HSR5⟩
        case measure => simp [intOf]; omega
      · have hl2 : lostB c = false := by simpa using hlost
        have hf3 := HF2.out
        rw [hl2, if_neg (by decide)] at hf3
        rw [hl2]
        by_cases hc0 : c = 0
        · rw [if_neg (fun h => h hc0)] at hf3
          have HF3 := Lib.hid hf3
          subst hc0
          clear hf3 HF2 hlost hl2
          go_wp2
          go_roundw
          case rel => exact ⟨k + 1, gone, T2, hlt, by omega, by go_num, by go_num, HF3, HI2, HB5, HSR5⟩
          case measure => simp [intOf]; omega
        · rw [if_pos hc0] at hf3
          obtain ⟨rfl, rfl⟩ : T2 = T' ∧ c = rc := by cases hf3; exact ⟨rfl, rfl⟩
          have hcb : (c == 0) = false := by simpa using hc0
          clear hf3 HF2
          go_wp2
          go_ret
          exact ⟨rfl, HB5.out.less (fun k hk => .inl hk), HSR9.out.trans fun b hb => HSR5.out b (.inl hb)⟩
    · have hkl : k = L.length := by omega
      subst hkl
      have hf3 := HF.out
      rw [List.drop_eq_nil_of_le (by rw [List.length_zip, HPX.out.1, HPX.out.2]; omega)] at hf3
      unfold BankT.fullL at hf3
      by_cases hg1 : 1 < gone
      · rw [if_pos hg1] at hf3
        obtain ⟨rfl, rfl⟩ : T1 = T' ∧ 5 = rc := by cases hf3; exact ⟨rfl, rfl⟩
        clear hf3 HF
        go_wp2
        go_ret
        exact ⟨rfl, HB.out.less (fun k hk => .inl hk), HSR9.out.trans fun b hb => HSR.out b (.inl hb)⟩
      · rw [if_neg hg1] at hf3
        obtain ⟨rfl, rfl⟩ : T1 = T' ∧ 0 = rc := by cases hf3; exact ⟨rfl, rfl⟩
        clear hf3 HF
        go_wp2
        go_ret
        exact ⟨rfl, HB.out.less (fun k hk => .inl hk), HSR9.out.trans fun b hb => HSR.out b (.inl hb)⟩
end
end Go.Proofs.YtglplhmclfekfaaGreat
