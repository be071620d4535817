/- bits.Map: what the memory of one reads as; in, Has, Count, Len. -/
import Derived.Test.YtglplhmclfekfaaDoorRule
import Derived.Test.YtglplhmclfekfaaDoorBits
namespace Go.Proofs.YtglplhmclfekfaaDoor
open Go.RowKit Go.ChangeMaps Go.MapKept
set_option linter.unusedVariables false
set_option linter.unusedSimpArgs false

def u64s (ws : List (BitVec 64)) : List Value := ws.map fun x => .int .u64 (x.toNat : Int)
theorem u64s_length (ws : List (BitVec 64)) : (u64s ws).length = ws.length := by simp [u64s]
def bmCells (ws : List (BitVec 64)) (n k : Nat) : List Value := u64s ws ++ [.int .i64 (n : Int), .int .i64 (k : Int)]
def cntS (n : Nat) (s : Nat → Bool) : Nat := ((List.range n).filter s).length
/-- Block p of w is a bits.Map of n places, of which those are taken that s tells. -/
def BMap (w : World) (p n : Nat) (s : Nat → Bool) : Prop :=
  n ≤ 65536 ∧ (∀ i, n ≤ i → s i = false) ∧ ∃ ws : List (BitVec 64), ws.length = 1024 ∧ w.heap[p]? = some (.cells (bmCells ws n (cntS n s)).toArray 76 (0, 0)) ∧ ∀ j (hj : j < ws.length) b, b < 64 → ws[j].getLsbD b = s (64 * j + b)
section
variable {w : World} {p n k : Nat} {s : Nat → Bool} {t : TypeId}
theorem BMap.lt (h : BMap w p n s) : p < w.heap.size := by
  obtain ⟨_, _, ws, _, hb, _⟩ := h
  exact (Array.getElem?_eq_some_iff.1 hb).1
theorem BMap.same {w' : World} (h : BMap w p n s) (hb : w'.heap[p]? = w.heap[p]?) : BMap w' p n s := by
  obtain ⟨h1, h2, ws, h3, h4, h5⟩ := h
  exact ⟨h1, h2, ws, h3, hb.trans h4, h5⟩
theorem bm_n {ws : List (BitVec 64)} (hl : ws.length = 1024) (hb : w.heap[p]? = some (.cells (bmCells ws n k).toArray t (0, 0))) : w.cell? ⟨p, 1024, none⟩ = some (.int .i64 (n : Int)) := by
  rw [cell_of_row _ _ _ _ _ _ hb]; simp [bmCells, u64s, hl]
theorem bm_k {ws : List (BitVec 64)} (hl : ws.length = 1024) (hb : w.heap[p]? = some (.cells (bmCells ws n k).toArray t (0, 0))) : w.cell? ⟨p, 1025, none⟩ = some (.int .i64 (k : Int)) := by
  rw [cell_of_row _ _ _ _ _ _ hb]; simp [bmCells, u64s, hl]
theorem bm_w {ws : List (BitVec 64)} (hb : w.heap[p]? = some (.cells (bmCells ws n k).toArray t (0, 0))) {j : Nat} (hj : j < ws.length) : w.cell? ⟨p, j, none⟩ = some (.int .u64 (ws[j].toNat : Int)) := by
  rw [cell_of_row _ _ _ _ _ _ hb, List.getElem?_toArray, bmCells, List.getElem?_append_left (by rw [u64s_length]; exact hj)]; simp [u64s, hj]
theorem bit_and1 (x : BitVec 64) (b : Nat) : bits .and .u64 ((x.toNat : Int) / 2 ^ b) 1 = if x.getLsbD b then 1 else 0 := by
  have e : ((x.toNat : Int) / 2 ^ b) = ((x.toNat / 2 ^ b : Nat) : Int) := by norm_cast
  have hlt : x.toNat / 2 ^ b < 2 ^ 64 := Nat.lt_of_le_of_lt (Nat.div_le_self _ _) x.isLt
  rw [e]
  show IntKind.u64.wrap ((BitVec.ofInt 64 ((x.toNat / 2 ^ b : Nat) : Int) &&& BitVec.ofInt 64 1).toNat : Int) = _
  have h1 : (BitVec.ofInt 64 ((x.toNat / 2 ^ b : Nat) : Int)).toNat = x.toNat / 2 ^ b := by
    generalize x.toNat / 2 ^ b = y at hlt
    rw [BitVec.toNat_ofInt]; omega
  rw [BitVec.toNat_and, h1, show (BitVec.ofInt 64 1).toNat = 1 from rfl, Nat.and_one_is_mod]
  have h2 : x.getLsbD b = decide (x.toNat / 2 ^ b % 2 = 1) := by
    rw [BitVec.getLsbD, Nat.testBit_eq_decide_div_mod_eq]
  rw [h2]
  have h3 : x.toNat / 2 ^ b % 2 = 0 ∨ x.toNat / 2 ^ b % 2 = 1 := by omega
  rcases h3 with h3 | h3 <;> rw [h3] <;> rfl

set_option maxHeartbeats 1000000
set_option maxRecDepth 100000
theorem bits_in (h : BMap w p n s) (i : Int) : Calls Tryd.prog 46 #[.pointer (some ⟨p, 0, none⟩), .int .i64 i] w fun e w' => e = .returned (.bool (decide (0 ≤ i) && decide (i < n))) ∧ w = w' := by
  obtain ⟨hn, _, ws, hl, hb, _⟩ := h
  have cn := bm_n hl hb
  clear hb
  by_cases h0 : 0 ≤ i
  · go_enter Tryd.func46, Tryd.ntmps46
    go_wp2
    go_ret
    refine ⟨ret_bool ?_, rfl⟩
    simp [h0]
  · go_enter Tryd.func46, Tryd.ntmps46
    go_wp2
    go_ret
    refine ⟨ret_bool ?_, rfl⟩
    simp [h0]; omega
theorem bits_in_t (h : BMap w p n s) (i : Nat) (hi : i < n) : Calls Tryd.prog 46 #[.pointer (some ⟨p, 0, none⟩), .int .i64 (i : Int)] w fun e w' => e = .returned (.bool true) ∧ w = w' :=
  (bits_in h (i : Int)).mono fun e w' ⟨he, hw⟩ => ⟨by rw [he]; simp; omega, hw⟩
theorem bits_Len (h : BMap w p n s) : Calls Tryd.prog 28 #[.pointer (some ⟨p, 0, none⟩)] w fun e w' => e = .returned (.int .i64 (n : Int)) ∧ w = w' := by
  obtain ⟨hn, _, ws, hl, hb, _⟩ := h
  have cn := bm_n hl hb
  clear hb
  go_enter Tryd.func28, Tryd.ntmps28
  go_wp2
  go_ret
  exact ⟨rfl, rfl⟩
theorem bits_Count (h : BMap w p n s) : Calls Tryd.prog 29 #[.pointer (some ⟨p, 0, none⟩)] w fun e w' => e = .returned (.int .i64 (cntS n s : Int)) ∧ w = w' := by
  obtain ⟨hn, _, ws, hl, hb, _⟩ := h
  have ck := bm_k hl hb
  clear hb
  go_enter Tryd.func29, Tryd.ntmps29
  go_wp2
  go_ret
  exact ⟨rfl, rfl⟩
theorem bits_Has (h : BMap w p n s) (i : Nat) (hi : i < n) : Calls Tryd.prog 32 #[.pointer (some ⟨p, 0, none⟩), .int .i64 (i : Int)] w fun e w' => e = .returned (.bool (s i)) ∧ w = w' := by
  have HA := h
  obtain ⟨hn, _, ws, hl, hb, hat⟩ := h
  have hj : i / 64 < ws.length := by omega
  have cw := bm_w hb hj
  have hs := hat (i / 64) hj (i % 64) (by omega)
  rw [show 64 * (i / 64) + i % 64 = i from by omega] at hs
  have hq : (i : Int) / 64 = ((i / 64 : Nat) : Int) := by omega
  have hr : (i : Int) % 64 = ((i % 64 : Nat) : Int) := by omega
  have hb64 : i % 64 < 64 := by omega
  have hb1 := bit_and1 ws[i / 64] (i % 64)
  rw [hs] at hb1
  have hj' : i / 64 < 1024 := by omega
  have HS := Lib.hid hs; clear hs
  generalize ws[i / 64] = x at *
  generalize i / 64 = j at *
  generalize i % 64 = b at *
  have hi0 : (0 : Int) ≤ (i : Int) := by omega
  have hx := x.isLt
  clear hb hat
  go_enter Tryd.func32, Tryd.ntmps32
  go_wp2_with (go_at_call 46; refine (bits_in_t HA i hi).mono ?_; rintro e w' ⟨rfl, rfl⟩)
  all_goals
    go_ret
    refine ⟨ret_bool ?_, rfl⟩
    simp [*]
end
end Go.Proofs.YtglplhmclfekfaaDoor
