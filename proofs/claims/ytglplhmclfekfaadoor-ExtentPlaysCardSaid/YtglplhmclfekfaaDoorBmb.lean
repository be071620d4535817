/- bits.Map: TakeAt, Free, New. -/
import Derived.Test.YtglplhmclfekfaaDoorBma
namespace Go.Proofs.YtglplhmclfekfaaDoor
open Go.RowKit Go.ChangeMaps Go.MapKept
set_option linter.unusedVariables false
set_option linter.unusedSimpArgs false

def setS (s : Nat → Bool) (i : Nat) (v : Bool) : Nat → Bool := fun j => if j = i then v else s j
theorem cnt_split (n i : Nat) (s : Nat → Bool) (hi : i < n) : cntS n s = (if s i then 1 else 0) + ((List.range n).filter fun j => s j && j != i).length := by
  unfold cntS
  induction n with
  | zero => omega
  | succ n ih =>
    rw [List.range_succ, List.filter_append, List.length_append, List.filter_append, List.length_append]
    by_cases h : i = n
    · subst h
      have e : (List.range i).filter (fun j => s j && j != i) = (List.range i).filter s := by
        apply List.filter_congr
        intro j hj
        have : j ≠ i := by have := List.mem_range.1 hj; omega
        simp [this]
      rw [e]
      cases h : s i <;> simp [h]; omega
    · rw [ih (by omega)]
      have : n ≠ i := fun e => h e.symm
      cases h : s n <;> simp [h, this]; omega
theorem cnt_set (n i : Nat) (s : Nat → Bool) (v : Bool) (hi : i < n) : cntS n (setS s i v) + (if s i then 1 else 0) = cntS n s + (if v then 1 else 0) := by
  rw [cnt_split n i s hi, cnt_split n i (setS s i v) hi]
  have e : (List.range n).filter (fun j => setS s i v j && j != i) = (List.range n).filter (fun j => s j && j != i) := by
    apply List.filter_congr
    intro j _
    unfold setS
    by_cases h : j = i <;> simp [h]
  rw [e]
  simp [setS]; omega
theorem cnt_le (n : Nat) (s : Nat → Bool) : cntS n s ≤ n := by
  unfold cntS
  have := List.length_filter_le s (List.range n)
  simpa using this
theorem ofInt64_toNat (x : BitVec 64) : BitVec.ofInt 64 (x.toNat : Int) = x := by
  apply BitVec.eq_of_toNat_eq
  rw [BitVec.toNat_ofInt]
  have := x.isLt
  omega
theorem pow2_64 (b : Nat) (hb : b < 64) : ((1#64 <<< b).toNat : Int) = 2 ^ b := by
  have : (2 : Nat) ^ b < 2 ^ 64 := Nat.pow_lt_pow_right (by decide) hb
  rw [BitVec.toNat_shiftLeft]
  simp only [BitVec.toNat_ofNat, Nat.shiftLeft_eq]
  rw [show (1 % 2 ^ 64 : Nat) = 1 from rfl, Nat.one_mul, Nat.mod_eq_of_lt this]
  norm_cast
def p2 (b : Nat) : Int := 2 ^ b
theorem wrap_p2 (b : Nat) (hb : b < 64) : IntKind.u64.wrap (2 ^ b) = p2 b := by
  have hp : (2 : Nat) ^ b < 2 ^ 64 := Nat.pow_lt_pow_right (by decide) hb
  have e : ((2 : Int) ^ b) = ((2 ^ b : Nat) : Int) := by norm_cast
  unfold p2
  rw [e, IntKind.wrap_u64]
  generalize 2 ^ b = y at hp
  omega
theorem bits_or (x : BitVec 64) (b : Nat) (hb : b < 64) : bits .or .u64 (x.toNat : Int) (p2 b) = ((x ||| 1#64 <<< b).toNat : Int) := by
  unfold p2
  rw [← pow2_64 b hb]
  show IntKind.u64.wrap ((BitVec.ofInt 64 (x.toNat : Int) ||| BitVec.ofInt 64 ((1#64 <<< b).toNat : Int)).toNat : Int) = _
  rw [ofInt64_toNat, ofInt64_toNat]
  generalize x ||| 1#64 <<< b = y
  have := y.isLt
  simp [IntKind.wrap, IntKind.signed, IntKind.bits]; omega
theorem bits_andNot (x : BitVec 64) (b : Nat) (hb : b < 64) : bits .andNot .u64 (x.toNat : Int) (p2 b) = ((x &&& ~~~(1#64 <<< b)).toNat : Int) := by
  unfold p2
  rw [← pow2_64 b hb]
  show IntKind.u64.wrap ((BitVec.ofInt 64 (x.toNat : Int) &&& ~~~(BitVec.ofInt 64 ((1#64 <<< b).toNat : Int))).toNat : Int) = _
  rw [ofInt64_toNat, ofInt64_toNat]
  generalize x &&& ~~~(1#64 <<< b) = y
  have := y.isLt
  simp [IntKind.wrap, IntKind.signed, IntKind.bits]; omega
theorem lsb_or (x : BitVec 64) (b c : Nat) (hb : b < 64) (hc : c < 64) : (x ||| 1#64 <<< b).getLsbD c = (if c = b then true else x.getLsbD c) := by
  rw [BitVec.getLsbD_or, BitVec.getLsbD_shiftLeft]
  by_cases h : c = b
  · subst h; simp [hc]
  · simp only [h, if_false]
    have : (1#64).getLsbD (c - b) = false ∨ c < b := by
      by_cases h2 : c < b
      · exact .inr h2
      · left; rw [BitVec.getLsbD_one]; simp; omega
    rcases this with h2 | h2 <;> simp [h2]
theorem lsb_andNot (x : BitVec 64) (b c : Nat) (hb : b < 64) (hc : c < 64) : (x &&& ~~~(1#64 <<< b)).getLsbD c = (if c = b then false else x.getLsbD c) := by
  rw [BitVec.getLsbD_and, BitVec.getLsbD_not, BitVec.getLsbD_shiftLeft]
  by_cases h : c = b
  · subst h; simp [hc]
  · simp only [h, if_false]
    have : (1#64).getLsbD (c - b) = false ∨ c < b := by
      by_cases h2 : c < b
      · exact .inr h2
      · left; rw [BitVec.getLsbD_one]; simp; omega
    rcases this with h2 | h2 <;> simp [h2, hc]
section
variable {w : World} {p n k : Nat} {s : Nat → Bool} {t : TypeId}
/-- the words, one of them set -/
theorem words_set {ws : List (BitVec 64)} (hat : ∀ j (hj : j < ws.length) b, b < 64 → ws[j].getLsbD b = s (64 * j + b)) (i : Nat) (hi : i / 64 < ws.length) (v : Bool) (y : BitVec 64)
    (hy : ∀ c, c < 64 → y.getLsbD c = if c = i % 64 then v else ws[i / 64].getLsbD c) :
    ∀ j (hj : j < (ws.set (i / 64) y).length) b, b < 64 → (ws.set (i / 64) y)[j].getLsbD b = setS s i v (64 * j + b) := by
  intro j hj b hb
  rw [List.getElem_set]
  unfold setS
  split
  · rename_i e; subst e
    rw [hy b hb, hat _ hi b hb]
    have : (b = i % 64) ↔ (64 * (i / 64) + b = i) := by omega
    simp only [this]
  · rename_i e
    have : ¬ (64 * j + b = i) := by omega
    rw [if_neg this]
    exact hat j (by simpa using hj) b hb
theorem bmCells_set (ws : List (BitVec 64)) (n k j : Nat) (y : BitVec 64) (hj : j < ws.length) : (bmCells ws n k).set j (.int .u64 (y.toNat : Int)) = bmCells (ws.set j y) n k := by
  unfold bmCells
  rw [List.set_append_left _ _ (by rw [u64s_length]; exact hj)]
  simp [u64s, List.map_set]
theorem bmCells_k (ws : List (BitVec 64)) (n k k' : Nat) (hl : ws.length = 1024) : (bmCells ws n k).set 1025 (.int .i64 (k' : Int)) = bmCells ws n k' := by
  unfold bmCells
  rw [List.set_append_right _ _ (by rw [u64s_length]; omega), u64s_length, hl]
  rfl
theorem size_u64 : (Tryd.prog.info? 73).map (·.size) = some 1 := by kernel_rfl
set_option maxHeartbeats 1000000
set_option maxRecDepth 100000
theorem bits_TakeAt_ok (h : BMap w p n s) (i : Nat) (hi : i < n) (hs : s i = false) : Calls Tryd.prog 33 #[.pointer (some ⟨p, 0, none⟩), .int .i64 (i : Int)] w fun e w' => e = .returned (.int .i64 0) ∧ BMap w' p n (setS s i true) ∧ But (fun k => k = p) w w' := by
  have HA := h
  obtain ⟨hn, hno, ws, hl, hb, hat⟩ := h
  have hj : i / 64 < ws.length := by omega
  have cw := bm_w hb hj
  have ck := bm_k hl hb
  have hq : (i : Int) / 64 = ((i / 64 : Nat) : Int) := by omega
  have hr : (i : Int) % 64 = ((i % 64 : Nat) : Int) := by omega
  have hb64 : i % 64 < 64 := by omega
  have hor := bits_or ws[i / 64] (i % 64) hb64
  have hi0 : (0 : Int) ≤ (i : Int) := by omega
  have hj' : i / 64 < 1024 := by omega
  have hhas := bits_Has HA i hi
  rw [hs] at hhas
  have HHAS := Lib.hid hhas; clear hhas
  have HAT := Lib.hid hat; clear hat
  have HB := Lib.hid hb; clear hb
  have HS := Lib.hid hs; clear hs
  have HNO := Lib.hid hno; clear hno
  generalize hx : ws[i / 64] = x at *
  have HX := Lib.hid hx; clear hx
  generalize hjd : i / 64 = j at *
  have HJ := Lib.hid hjd; clear hjd
  generalize hbd : i % 64 = b at *
  have HBD := Lib.hid hbd; clear hbd
  have hkn := cnt_le n s
  generalize hcd : cntS n s = c at *
  have HCD := Lib.hid hcd; clear hcd
  go_enter Tryd.func33, Tryd.ntmps33
  go_wp2_with (first
    | (go_at_call 46; refine (bits_in_t HA i hi).mono ?_; rintro e w' ⟨rfl, rfl⟩)
    | (go_at_call 32; refine HHAS.out.mono ?_; rintro e w' ⟨rfl, rfl⟩))
  refine wp_still_tail 14 (by kernel_rfl) (by kernel_rfl) fun ws' hks hhs => ?_
  have cw := hks.cell' cw
  have hb' := hks.block HB.out
  have hwj : IntKind.i64.wrap (j : Int) = (j : Int) := IntWalk.i64_in _ (by omega)
  have hwb : IntKind.i64.wrap (b : Int) = (b : Int) := IntWalk.i64_in _ (by omega)
  have hj0 : (0 : Int) ≤ (j : Int) := by omega
  have hj1 : (j : Int) < 1024 := by omega
  have hb0 : (0 : Int) ≤ (b : Int) := by omega
  simp only [List.take_succ_cons, List.take_zero, List.drop_succ_cons, List.drop_zero]
  have hrt : (i : Int).tmod 64 = (b : Int) := by rw [Int.tmod_eq_emod_of_nonneg hi0]; exact hr
  have hsh := wrap_p2 b hb64
  iterate 14 still_step
  refine wpStill_nil ?_
  refine wpList_set_cell rfl _ _ rfl size_u64 p j rfl (.int .u64 ((x ||| 1#64 <<< b).toNat : Int)) rfl rfl rfl (bmCells ws n c) 76 hb' (by rw [bmCells, List.length_append, u64s_length]; omega) ?_
  intro w1 hw1
  rw [bmCells_set _ _ _ _ _ hj] at hw1
  have HB1 := Lib.hid hw1.blk
  have ck := bm_k (by rw [List.length_set]; exact hl) hw1.blk
  have K1 : But (fun k => k = p) w w1 := (But.kept hks).trans (But.wrote hw1 rfl)
  clear hw1 cw hb' hsh hor
  go_wp2_with (refine wpList_set_cell (o := ⟨none, .store _ _ _, _, _, _, _⟩) rfl _ _ rfl size_int p 1025 rfl (.int .i64 ((c : Int) + 1)) rfl rfl rfl (bmCells (ws.set j (x ||| 1#64 <<< b)) n c) 76 HB1.out (by rw [bmCells, List.length_append, u64s_length, List.length_set]; simp; omega) ?_; intro w2 hw2)
  go_ret
  have e : (c : Int) + 1 = ((c + 1 : Nat) : Int) := by omega
  rw [e, bmCells_k _ _ _ _ (by rw [List.length_set]; exact hl)] at hw2
  have hcnt := cnt_set n i s true hi
  rw [HS.out] at hcnt
  simp at hcnt
  refine ⟨rfl, ⟨hn, fun m hm => ?_, ws.set j (x ||| 1#64 <<< b), by rw [List.length_set]; exact hl, ?_, ?_⟩, K1.trans (But.wrote hw2 rfl)⟩
  · unfold setS
    rw [if_neg (by omega)]; exact HNO.out m hm
  · rw [hcnt, HCD.out]; exact hw2.blk
  · have h := words_set HAT.out i (by rw [HJ.out]; exact hj) true (x ||| 1#64 <<< b) (fun c hc => by
      rw [lsb_or x b c hb64 hc, HBD.out]
      have := HX.out
      simp only [HJ.out, this])
    simp only [HJ.out] at h
    exact h
end
end Go.Proofs.YtglplhmclfekfaaDoor
