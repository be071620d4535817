/- StripeHomes: the plain part and the walk. -/
import Derived.Test.YtkcemkphehocgaaStj
namespace Go.Proofs.Ytkcemkphehocgaa
open Go.RowKit
set_option linter.unusedVariables false
set_option linter.unusedSimpArgs false

/-- the number of the slot that is at a place -/
def slotOf (w k t : Nat) : Nat := t * (w - 1) + (if holdN w t < k then k - 1 else k)
theorem slotOf_slot {w s : Nat} (hw : 2 ≤ w) : slotOf w (slotK w (s / (w - 1)) (s % (w - 1))) (s / (w - 1)) = s := by
  have h := Nat.div_add_mod s (w - 1)
  rw [Nat.mul_comm] at h
  unfold slotOf slotK
  generalize s / (w - 1) = t at *
  generalize s % (w - 1) = j at *
  split <;> split <;> omega
theorem slot_of {w k t s : Nat} (hw : 2 ≤ w) (hk : k < w) (hn : k ≠ holdN w t) (h : slotOf w k t = s) : s / (w - 1) = t ∧ slotK w t (s % (w - 1)) = k := by
  have hh := holdN_lt (w := w) (by omega) t
  unfold slotOf at h
  have hj : (if holdN w t < k then k - 1 else k) < w - 1 := by split <;> omega
  generalize hjj : (if holdN w t < k then k - 1 else k) = j at *
  have h1 : s / (w - 1) = t := by
    rw [← h, Nat.mul_comm, Nat.mul_add_div (by omega), Nat.div_eq_of_lt hj]; omega
  have h2 : s % (w - 1) = j := by
    rw [← h, Nat.mul_comm, Nat.mul_add_mod, Nat.mod_eq_of_lt hj]
  refine ⟨h1, ?_⟩
  rw [h2]
  unfold slotK
  split at hjj <;> split <;> omega
def seenB (w s r k t : Nat) : Bool := decide (k < w ∧ t < 8 ∧ ((k ≠ holdN w t ∧ slotOf w k t < s) ∨ (k = holdN w t ∧ t < r)))
structure SeenI (l : List Bool) (w s r : Nat) : Prop where
  len : l.length = 96
  at_ : ∀ k t, k < 12 → t < 8 → l.getD (k * 8 + t) false = seenB w s r k t
theorem getD_setB (l : List Bool) (i j : Nat) (hi : i < l.length) : (l.set i true).getD j false = if j = i then true else l.getD j false := by
  by_cases e : j = i
  · subst e; rw [if_pos rfl, List.getD_eq_getElem?_getD, List.getElem?_set_self hi]; rfl
  · rw [if_neg e, List.getD_eq_getElem?_getD, List.getD_eq_getElem?_getD, List.getElem?_set_ne (Ne.symm e)]
theorem SeenI.start (w : Nat) : SeenI (List.replicate 96 false) w 0 0 := ⟨by simp, fun k t hk ht => by
  rw [List.getD_eq_getElem?_getD, List.getElem?_replicate, if_pos (by omega)]
  symm
  unfold seenB
  simp⟩
theorem SeenI.home {l : List Bool} {w s : Nat} (h : SeenI l w s 0) (hw : 2 ≤ w) (hw2 : w ≤ 12) (hs : s < 8 * (w - 1)) :
    l.getD (slotK w (s / (w - 1)) (s % (w - 1)) * 8 + s / (w - 1)) false = false ∧ SeenI (l.set (slotK w (s / (w - 1)) (s % (w - 1)) * 8 + s / (w - 1)) true) w (s + 1) 0 := by
  have ht : s / (w - 1) < 8 := by rw [Nat.div_lt_iff_lt_mul (by omega)]; omega
  have hk := slotK_lt (w := w) (t := s / (w - 1)) (Nat.mod_lt s (show 0 < w - 1 by omega))
  have hne := slotK_ne w (s / (w - 1)) (s % (w - 1))
  have hso := slotOf_slot (s := s) hw
  have hinj : ∀ k t, k < w → k ≠ holdN w t → slotOf w k t = s → s / (w - 1) = t ∧ slotK w t (s % (w - 1)) = k := fun k t a b c => slot_of hw a b c
  generalize s / (w - 1) = T at *
  generalize hKK : slotK w T (s % (w - 1)) = K at *
  refine ⟨?_, ⟨by simpa using h.len, fun k t hk' ht' => ?_⟩⟩
  · rw [h.at_ _ _ (by omega) ht]
    unfold seenB
    rw [hso]
    simp
  · rw [getD_setB _ _ _ (by rw [h.len]; omega), h.at_ k t hk' ht']
    by_cases e : k * 8 + t = K * 8 + T
    · have e1 : k = K := by omega
      have e2 : t = T := by omega
      rw [if_pos e, e1, e2]
      symm
      unfold seenB
      rw [hso, decide_eq_true_eq]
      exact ⟨hk, ht, .inl ⟨hne, by omega⟩⟩
    · rw [if_neg e]
      unfold seenB
      by_cases hkw : k < w
      · by_cases hh : k = holdN w t
        · simp [hh]
        · have : slotOf w k t ≠ s := fun h2 => by
            obtain ⟨a, b⟩ := hinj k t hkw hh h2
            subst a
            rw [hKK] at b
            subst b
            exact e rfl
          have h3 : slotOf w k t < s + 1 ↔ slotOf w k t < s := by omega
          simp only [h3]
      · simp [hkw]
theorem SeenI.par {l : List Bool} {w r : Nat} (h : SeenI l w (8 * (w - 1)) r) (hw : 2 ≤ w) (hw2 : w ≤ 12) (hr : r < 8) :
    l.getD (holdN w r * 8 + r) false = false ∧ SeenI (l.set (holdN w r * 8 + r) true) w (8 * (w - 1)) (r + 1) := by
  have hk := holdN_lt (w := w) (by omega) r
  refine ⟨?_, ⟨by simpa using h.len, fun k t hk' ht' => ?_⟩⟩
  · rw [h.at_ _ _ (by omega) hr]
    unfold seenB
    simp
  · rw [getD_setB _ _ _ (by rw [h.len]; omega), h.at_ k t hk' ht']
    by_cases e : k * 8 + t = holdN w r * 8 + r
    · have e1 : k = holdN w r := by omega
      have e2 : t = r := by omega
      rw [if_pos e, e1, e2]
      symm
      unfold seenB
      rw [decide_eq_true_eq]
      exact ⟨hk, hr, .inr ⟨rfl, by omega⟩⟩
    · rw [if_neg e]
      unfold seenB
      by_cases hh : k = holdN w t
      · have : t ≠ r := fun h2 => by subst h2; rw [hh] at e; exact e rfl
        have h3 : t < r + 1 ↔ t < r := by omega
        simp only [h3]
      · simp [hh]
def cntP (w r k : Nat) : Nat := ((List.range r).filter fun t => decide (holdN w t = k)).length
theorem cntP_succ (w r k : Nat) : cntP w (r + 1) k = cntP w r k + if holdN w r = k then 1 else 0 := by
  unfold cntP
  rw [List.range_succ, List.filter_append, List.length_append]
  by_cases e : holdN w r = k <;> simp [e]
theorem cntP_le (w r k : Nat) : cntP w r k ≤ r := by
  unfold cntP
  exact Nat.le_trans (List.length_filter_le _ _) (by simp)
structure ParI (l : List Int) (w r : Nat) : Prop where
  len : l.length = 12
  at_ : ∀ k, k < 12 → l.getD k 0 = (cntP w r k : Int)
theorem ParI.start (w : Nat) : ParI (List.replicate 12 0) w 0 := ⟨by simp, fun k hk => by
  rw [List.getD_eq_getElem?_getD, List.getElem?_replicate, if_pos hk]; rfl⟩
theorem ParI.step {l : List Int} {w r : Nat} (h : ParI l w r) (hw : 2 ≤ w) (hw2 : w ≤ 12) : ParI (l.set (holdN w r) ((cntP w r (holdN w r) : Int) + 1)) w (r + 1) := by
  have hk := holdN_lt (w := w) (by omega) r
  refine ⟨by simpa using h.len, fun k hk' => ?_⟩
  rw [cntP_succ]
  by_cases e : holdN w r = k
  · subst e
    rw [if_pos rfl, List.getD_eq_getElem?_getD, List.getElem?_set_self (by rw [h.len]; omega)]
    simp
  · rw [if_neg e, List.getD_eq_getElem?_getD, List.getElem?_set_ne e, ← List.getD_eq_getElem?_getD, h.at_ k hk']
    simp
theorem spread : ∀ w, w < 13 → 2 ≤ w → ∀ i, i < w → ∀ k, k < w → cntP w 8 i ≤ cntP w 8 k + 1 := by decide +kernel
def extL (n : Nat) (a : Int) : List (Int × Int) := (List.range n).map fun (i : Nat) => ((i : Int), a)
theorem extL_len (n : Nat) (a : Int) : (extL n a).length = n := by simp [extL]
theorem extL_succ (n : Nat) (a : Int) : extL (n + 1) a = extL n a ++ [((n : Int), a)] := by simp [extL, List.range_succ]
theorem extL_at {n k : Nat} (a : Int) (hk : k < n) : (extL n a).getD k (0, 0) = ((k : Int), a) := by
  rw [List.getD_eq_getElem?_getD, extL, List.getElem?_map, List.getElem?_range hk]; rfl
theorem extL_plc {n k : Nat} (a : Int) (t : Nat) (hk : k < n) : plcAt (extL n a) t k = ((k : Int), a + (t : Int)) := by
  unfold plcAt
  rw [extL_at a hk]
theorem extL_near {n : Nat} (hn : n ≤ 12) : Near (extL n 100) := ⟨by rw [extL_len]; omega, fun k hk => by
  rw [extL_len] at hk
  rw [extL_at 100 hk]
  exact ⟨by show (-1000000 : Int) ≤ 100; decide, by show (100 : Int) ≤ 1000000; decide⟩⟩
theorem split_slot {n s : Nat} (h2 : 2 ≤ n) (hs : s < 8 * (n - 1)) : splitX n (s : Int) = (((s / (n - 1) : Nat) : Int), ((slotK n (s / (n - 1)) (s % (n - 1)) : Nat) : Int), 0) := by
  unfold splitX
  rw [if_neg (by omega), if_neg (by omega), Int.toNat_natCast]
theorem home_slot {n s : Nat} (h2 : 2 ≤ n) (hs : s < 8 * (n - 1)) : homeX (extL n 100) (s : Int) = ((((slotK n (s / (n - 1)) (s % (n - 1)) : Nat) : Int), 100 + ((s / (n - 1) : Nat) : Int)), 0) := by
  have hk := slotK_lt (w := n) (t := s / (n - 1)) (Nat.mod_lt s (show 0 < n - 1 by omega))
  unfold homeX
  rw [extL_len, split_slot h2 hs]
  simp only [if_true, Int.toNat_natCast]
  rw [extL_plc 100 _ hk]
theorem par_slot {n t : Nat} (h2 : 2 ≤ n) (ht : t < 8) : parityX (extL n 100) (t : Int) = (((holdN n t : Int), 100 + (t : Int)), 0) := by
  have hk := holdN_lt (w := n) (by omega) t
  unfold parityX
  rw [extL_len, show rightX n (t : Int) = 0 by unfold rightX; rw [if_neg (by omega), if_neg (by omega)], if_pos rfl, Int.toNat_natCast, extL_plc 100 _ hk]
def bvals (l : List Bool) : List Value := l.map .bool
theorem bvals_len (l : List Bool) : (bvals l).length = l.length := by simp [bvals]
theorem bvals_set (l : List Bool) (i : Nat) (b : Bool) : (bvals l).set i (.bool b) = bvals (l.set i b) := by simp [bvals]
theorem bvals_at {l : List Bool} {W : World} {b : Nat} {t : TypeId} (h : W.heap[b]? = some (.cells (bvals l).toArray t (0, 0))) {k : Nat} (hk : k < l.length) : W.cell? ⟨b, k, none⟩ = some (.bool (l.getD k false)) := by
  have := Cells.of_block h k (by rw [bvals_len]; exact hk)
  rw [Nat.zero_add] at this
  rw [this]
  simp [bvals, List.getD_eq_getElem?_getD, List.getElem?_eq_getElem hk]
theorem zero_seen (w : World) : (zeroValue 85).run Try.prog w = .ok (.agg (bvals (List.replicate 96 false)).toArray) w := by kernel_rfl
theorem zero_par (w : World) : (zeroValue 86).run Try.prog w = .ok (.agg (ints (List.replicate 12 0)).toArray) w := by kernel_rfl
theorem ints_atS {l : List Int} {W : World} {b : Nat} {t : TypeId} (h : W.heap[b]? = some (.cells (ints l).toArray t (0, 0))) {k : Nat} (hk : k < l.length) : W.cell? ⟨b, k, none⟩ = some (.int .i64 (l.getD k 0)) := by
  have := Cells.of_block h k (by rw [ints_length]; exact hk)
  rw [Nat.zero_add] at this
  rw [this]
  simp [ints, List.getD_eq_getElem?_getD, List.getElem?_eq_getElem hk]
theorem ints_setS (l : List Int) (k : Nat) (x : Int) : (ints l).set k (.int .i64 x) = ints (l.set k x) := by simp [ints]
section
variable {w : World}
set_option maxHeartbeats 4000000
set_option maxRecDepth 100000
theorem law_shomes (a0 : Int) (w : World) : Calls Try.prog 7 #[.int .i64 a0] w fun e w' => e = .returned (.bool true) ∧ Kept w w' := by
  obtain ⟨y, hy, hyl⟩ := and_low a0 16 (by decide) (m := 65535) (by decide)
  have hyl' : y < 65536 := hyl
  obtain ⟨n, hn, hn1, hn2⟩ : ∃ n : Nat, (2 : Int) + (y : Int) % 11 = (n : Int) ∧ 2 ≤ n ∧ n ≤ 12 := ⟨2 + y % 11, by omega, by omega, by omega⟩
  have hsl := fun W => st_Slots (n : Int) (by omega) (by omega) W
  simp only [if_neg (show ¬ (n : Int) < 2 by omega)] at hsl
  have HSL := Lib.hid hsl
  have HNR := Lib.hid (extL_near hn2)
  clear hyl hsl
  go_enter Try.func7, Try.ntmps7
  go_wp2_with fail
  refine Calls.mono (law_shown13 _) ?_
  rintro e w1 ⟨rfl, hk1⟩
  have HK1 := Lib.hid hk1
  clear hk1
  go_wp2
  try simp only [hn]
  clear hn hy hyl'
  go_loopw [4, 5] (fun v i wr => ∃ k : Nat, k ≤ n ∧ i = .int .i64 k ∧ Hid (wr.ownsRow w1.heap.size 83 2 v k (evals (extL k 100))) ∧ Hid (Kept w1 wr)) (fun _ i _ => n - (intOf i).toNat)
  case atStart => exact ⟨0, Nat.zero_le _, rfl, Lib.hid (World.ownsRow_nil _ _ _ _), Lib.hid (Kept.refl _)⟩
  case round =>
    obtain ⟨k, hk, rfl, HO, HK⟩ := hrel
    obtain ⟨oa, cap, rfl⟩ := ownsRow_form1 HO.out
    by_cases hlt : k < n
    · go_wp2_with (refine stop_at (o := ⟨some 31, _, _, _, _, _⟩) ?_)
      refine Stop.mk ?_
      obtain ⟨ht', ⟨i1, z1, hi, hz, hsz', hby, hzs⟩, hpos⟩ := ty_extsS
      refine wpList_append_own_wide _ rfl _ _ 74 rfl w1.heap.size 83 i1 z1 2 16 ht' hi hz hsz' hby hzs (by decide) _ k (evals (extL k 100)) rfl (HO.out.alloc _) ⟨wr.heap.size, 0, none⟩ 1 1 [.int .i64 (k : Int), .int .i64 100] rfl rfl (two_new _ _ _ _) (evals_one [((k : Int), 100)]) (by have : maxLen = 9223372036854775807 := rfl; omega) (by omega) (by have := HK.out.size; rw [World.size_alloc]; omega) ?_
      intro v4 w4 hown hgrow _
      have HK4 : Hid (Kept w1 w4) := Lib.hid ((HK.out.alloc _).grown hgrow (fun j ej => row_ge HO.out ej))
      have HO4 : Hid (w4.ownsRow w1.heap.size 83 2 v4 (k + 1) (evals (extL (k + 1) 100))) := Lib.hid (by rw [extL_succ, evals_append]; exact hown)
      clear hown hgrow HO HK ht' hi hz hsz' hby hzs hpos
      go_wp2
      go_roundw
      case rel => exact ⟨k + 1, hlt, by go_num, HO4, HK4⟩
      case measure => simp [intOf]; omega
    · have hk3 : k = n := by omega
      subst hk3
      have hC : ∃ g, oa = some ⟨g, 0, none⟩ ∧ g < wr.heap.size ∧ Cells wr g 0 (evals (extL k 100)) := by
        rcases owns_form HO.out with ⟨e, h0, _⟩ | ⟨g', cap', e, _, hgg, _, hc⟩
        · omega
        · cases e
          refine ⟨g', rfl, ?_, hc⟩
          obtain ⟨_, _, _, e2, _, hh, _⟩ := HO.out.2.resolve_left (fun h => by omega)
          cases e2; exact (Array.getElem?_eq_some_iff.1 hh).1
      obtain ⟨g, rfl, hgl, hC⟩ := hC
      have HES : Hid (∀ W : World, Cells W g 0 (evals (extL k 100)) → g < W.heap.size → ESl W (.slice (some ⟨g, 0, none⟩) k cap) (extL k 100)) := Lib.hid fun W h1 h2 => by
        have := ESl.of_cells (L := extL k 100) (cap := cap) h2 h1
        rw [extL_len] at this
        exact this
      have HC := Lib.hid hC; have HGL := Lib.hid hgl; have HKK := Lib.hid (HK1.out.trans HK.out)
      clear hC hgl HO HK hk hlt
      go_wp2_with (refine stop_at (o := ⟨some 6, _, _, _, _, _⟩) ?_)
      refine Stop.mk ?_
      refine wpList_alloc_abs rfl 85 rfl (bvals (List.replicate 96 false)) zero_seen ?_
      intro w3 hz hs hn3 hk3
      have HS3 := hz; have HC3 := Lib.hid (Cells.kept HC.out hk3); have HK3 := Lib.hid (HKK.out.trans hk3); have HGL3 := Lib.hid (Nat.lt_of_lt_of_le HGL.out hk3.size)
      have HWS := Lib.hid (And.intro HKK.out.size HGL.out)
      generalize wr.heap.size = SB at *
      clear hz hs hn3 hk3 HC HKK HGL
      go_wp2_with (refine stop_at (o := ⟨some 7, _, _, _, _, _⟩) ?_)
      refine Stop.mk ?_
      refine wpList_alloc_abs rfl 86 rfl (ints (List.replicate 12 0)) zero_par ?_
      intro w4 hz hs hn4 hk4
      have HP4 := hz; have HS4 := Lib.hid (hk4.block HS3.out); have HC4 := Lib.hid (Cells.kept HC3.out hk4); have HK4 := Lib.hid (HK3.out.trans hk4); have HGL4 := Lib.hid (Nat.lt_of_lt_of_le HGL3.out hk4.size)
      have HPS := Lib.hid (And.intro (Array.getElem?_eq_some_iff.1 HS3.out).1 (And.intro HGL3.out HK3.out.size))
      generalize w3.heap.size = PB at *
      clear hz hs hn4 hk4 HS3 HC3 HK3 HGL3
      go_wp2
      go_loopw [8, 9] (fun al sl wr => ∃ (s : Nat) (l : List Bool), s ≤ 8 * (k - 1) ∧ sl = .int .i64 s ∧ al = .int .i64 s ∧ Hid (SeenI l k s 0) ∧ Hid (wr.heap[SB]? = some (.cells (bvals l).toArray 85 (0, 0))) ∧ Hid (wr.heap[PB]? = some (.cells (ints (List.replicate 12 0)).toArray 86 (0, 0))) ∧ Hid (Cells wr g 0 (evals (extL k 100))) ∧ Hid (g < wr.heap.size) ∧ Hid (Kept w wr)) (fun _ sl _ => 8 * (k - 1) - (intOf sl).toNat)
      case atStart => exact ⟨0, _, Nat.zero_le _, rfl, rfl, Lib.hid (SeenI.start k), HS4, HP4, HC4, HGL4, HK4⟩
      case round =>
        obtain ⟨s, l, hs, rfl, rfl, HSI, HS, HP, HC, HGL, HK⟩ := hrel
        go_wp2_with fail
        refine Calls.mono (HSL.out _) ?_
        rintro e w' ⟨rfl, rfl⟩
        by_cases hlt : s < 8 * (k - 1)
        · obtain ⟨hf, hsi⟩ := HSI.out.home hn1 hn2 hlt
          have hhm := st_Home (HES.out _ HC.out HGL.out) HNR.out (s : Int)
          rw [home_slot hn1 hlt] at hhm
          have htd : s / (k - 1) < 8 := by rw [Nat.div_lt_iff_lt_mul (by omega)]; omega
          have hkk := slotK_lt (w := k) (t := s / (k - 1)) (Nat.mod_lt s (show 0 < k - 1 by omega))
          have hkm : ((k : Int) - 1) = ((k - 1 : Nat) : Int) := by omega
          have hdv : (s : Int) / ((k - 1 : Nat) : Int) = ((s / (k - 1) : Nat) : Int) := (Int.natCast_ediv s (k - 1)).symm
          have HLT : Hid ((s : Int) < 8 * ((k : Int) - 1)) := Lib.hid (by omega)
          generalize slotK k (s / (k - 1)) (s % (k - 1)) = kk at *
          generalize s / (k - 1) = t at *
          have HHM := Lib.hid hhm; have HSI2 := Lib.hid hsi
          have hlt2 : (s : Int) < 8 * ((k : Int) - 1) := HLT.out
          clear hhm hsi HSI
          have hll : l.length = 96 := by have := HSI2.out.len; rwa [List.length_set] at this
          have pf := bvals_at HS.out (k := kk * 8 + t) (by omega)
          rw [hf] at pf
          have HLL := Lib.hid hll
          clear hll hf
          have hks : (kk : Int) < (k : Int) := by omega
          have hA1 : decide ((100 : Int) + (t : Int) < 100) = false := by simp; omega
          have hA2 : decide ((108 : Int) ≤ 100 + (t : Int)) = false := by simp; omega
          have hA3 : decide ((k : Int) ≤ (kk : Int)) = false := by simp; omega
          have hA4 : decide (k ≤ kk) = false := by simp; omega
          have hA0 : decide ((kk : Int) < 0) = false := by simp
          have hk12 : (kk : Int) < 12 := by omega
          have ht8 : (t : Int) < 8 := by omega
          have ht9 : (100 : Int) + (t : Int) - 100 = (t : Int) := by omega
          have ht10 : IntKind.i64.wrap (t : Int) = (t : Int) := by rw [IntKind.wrap_i64]; omega
          have hm1 : 1 ≤ k - 1 := by omega
          generalize hmm : k - 1 = m at *
          have HMM := Lib.hid hmm
          clear hmm
          go_wp2_with fail
          refine Calls.mono HHM.out ?_
          rintro e w5 ⟨rfl, hk5⟩
          have HS5 := Lib.hid (hk5.block HS.out); have HP5 := Lib.hid (hk5.block HP.out); have HC5 := Lib.hid (Cells.kept HC.out hk5); have HGL5 := Lib.hid (Nat.lt_of_lt_of_le HGL.out hk5.size); have HK5 := Lib.hid (HK.out.trans hk5)
          have pf5 := hk5.cell' pf
          clear hk5 HS HP HC HGL HK HHM pf
          go_wp2_with (refine stop_at (o := ⟨some 10, _, _, _, _, _⟩) ?_)
          refine Stop.mk ?_
          refine wpList_new_row rfl rfl _ _ rfl rfl ty_plc _ zero_plc rfl [.int .i64 (kk : Int), .int .i64 (100 + (t : Int))] rfl rfl (one_plc _ _) rfl ?_
          intro w6 hz hs6 hk6
          have p0 : w6.cell? ⟨w5.heap.size, 0, none⟩ = some (.int .i64 (kk : Int)) := cell_of_row _ _ 0 _ _ _ hz.out
          have p1 : w6.cell? ⟨w5.heap.size, 1, none⟩ = some (.int .i64 (100 + (t : Int))) := cell_of_row _ _ 1 _ _ _ hz.out
          have HS6 := Lib.hid (hk6.block HS5.out); have HP6 := Lib.hid (hk6.block HP5.out); have HC6 := Lib.hid (Cells.kept HC5.out hk6); have HGL6 := Lib.hid (Nat.lt_of_lt_of_le HGL5.out hk6.size); have HK6 := Lib.hid (HK5.out.trans hk6)
          have pf6 := hk6.cell' pf5
          generalize w5.heap.size = Pb at *
          clear hz hs6 hk6 HS5 HP5 HC5 HGL5 HK5 pf5
          go_upto_region 15 with fail
          go_quiet (fail)
          have hkd : Kept w6 (w6.drewN nq) := (Kept.refl _).drewN _
          have p0' := hkd.cell' p0; have p1' := hkd.cell' p1
          have HS7 := Lib.hid (hkd.block HS6.out); have HP7 := Lib.hid (hkd.block HP6.out); have HC7 := Lib.hid (Cells.kept HC6.out hkd); have HGL7 := Lib.hid (Nat.lt_of_lt_of_le HGL6.out hkd.size); have HK7 := Lib.hid (HK6.out.trans hkd)
          generalize w6.drewN nq = w7 at *
          clear hkd p0 p1 HS6 HP6 HC6 HGL6 HK6 pf6
          go_wp2
          refine wp_still_tail 7 (by kernel_rfl) (by kernel_rfl) fun ws hks hhs => ?_
          have q0 := hks.cell' p0'; have q1 := hks.cell' p1'
          have HS8 := Lib.hid (hks.block HS7.out); have HP8 := Lib.hid (hks.block HP7.out); have HC8 := Lib.hid (Cells.kept HC7.out hks); have HGL8 := Lib.hid (Nat.lt_of_lt_of_le HGL7.out hks.size); have HK8 := Lib.hid (HK7.out.trans hks)
          clear HS7 HP7 HC7 HGL7 HK7 p0' p1'
          simp only [List.take_succ_cons, List.take_zero, List.drop_succ_cons, List.drop_zero]
          iterate 7 still_step
          refine wpStill_nil ?_
          refine wpList_set_cell rfl _ _ rfl size_bool SB (kk * 8 + t) rfl (.bool true) rfl rfl rfl _ _ HS8.out (by rw [bvals_len, HLL.out]; omega) ?_
          intro w9 hw9
          rw [bvals_set] at hw9
          have HS9 := Lib.hid hw9.blk
          have HP9 := Lib.hid ((hw9.oth _ (by have := HPS.out; omega)).trans HP8.out)
          have HC9 : Hid (Cells w9 g 0 (evals (extL k 100))) := Lib.hid (fun j hj => (World.cell?_of_block (hw9.oth g (by have := HWS.out; omega))).trans (HC8.out j hj))
          have HGL9 : Hid (g < w9.heap.size) := Lib.hid (by rw [hw9.size]; exact HGL8.out)
          have HK9 : Hid (Kept w w9) := Lib.hid (hw9.kept HK8.out HWS.out.1)
          clear hw9 HS8 HP8 HC8 HGL8 HK8 q0 q1 hhs hks
          go_wp2
          go_roundw
          case rel => exact ⟨s + 1, _, by omega, by go_num, by go_num, HSI2, HS9, HP9, HC9, HGL9, HK9⟩
          case measure => simp [intOf]; omega
        · have hse : s = 8 * (k - 1) := by omega
          have HSI0 : Hid (SeenI l k (8 * (k - 1)) 0) := Lib.hid (by rw [← hse]; exact HSI.out)
          have HSE : Hid ((s : Int) = 8 * ((k : Int) - 1)) := Lib.hid (by omega)
          have hlt3 : ¬ (s : Int) < 8 * ((k : Int) - 1) := by omega
          clear hse HSI hlt
          go_wp2
          go_loopw [8, 12] (fun al tl wr => ∃ (r : Nat) (l : List Bool) (pl : List Int), r ≤ 8 ∧ tl = .int .i64 r ∧ al = .int .i64 ((s : Int) + r) ∧ Hid (SeenI l k (8 * (k - 1)) r) ∧ Hid (ParI pl k r) ∧ Hid (wr.heap[SB]? = some (.cells (bvals l).toArray 85 (0, 0))) ∧ Hid (wr.heap[PB]? = some (.cells (ints pl).toArray 86 (0, 0))) ∧ Hid (Cells wr g 0 (evals (extL k 100))) ∧ Hid (g < wr.heap.size) ∧ Hid (Kept w wr)) (fun _ tl _ => 8 - (intOf tl).toNat)
          case atStart => exact ⟨0, _, _, Nat.zero_le _, rfl, by simp, HSI0, Lib.hid (ParI.start k), HS, HP, HC, HGL, HK⟩
          case round =>
            clear HSI0 HS HP HC HGL HK
            obtain ⟨r, l3, pl, hr, rfl, rfl, HSI, HPI, HS, HP, HC, HGL, HK⟩ := hrel
            by_cases hrl : r < 8
            · obtain ⟨hf, hsi⟩ := HSI.out.par hn1 hn2 hrl
              have hpar := st_Parity (HES.out _ HC.out HGL.out) HNR.out (r : Int)
              rw [par_slot hn1 hrl] at hpar
              have hpi := HPI.out.step hn1 hn2
              have hpv := HPI.out.at_ (holdN k r) (by have := holdN_lt (w := k) (by omega) r; omega)
              have hcn := cntP_le k r (holdN k r)
              have hkk := holdN_lt (w := k) (by omega) r
              generalize cntP k r (holdN k r) = cn at *
              generalize holdN k r = kk at *
              have hll : l3.length = 96 := by have := hsi.len; rwa [List.length_set] at this
              have hpll : pl.length = 12 := HPI.out.len
              have HHM := Lib.hid hpar; have HSI2 := Lib.hid hsi; have HPI2 := Lib.hid hpi
              clear hpar hsi hpi HSI HPI
              have pf := bvals_at HS.out (k := kk * 8 + r) (by omega)
              rw [hf] at pf
              have pg := ints_atS HP.out (k := kk) (by omega)
              rw [hpv] at pg
              have HLL := Lib.hid hll; have HPL := Lib.hid hpll
              clear hll hpll hf hpv
              have hks : (kk : Int) < (k : Int) := by omega
              have hA1 : decide ((k : Int) ≤ (kk : Int)) = false := by simp; omega
              have hA4 : decide (k ≤ kk) = false := by simp; omega
              have hA0 : decide ((kk : Int) < 0) = false := by simp
              have hk12 : (kk : Int) < 12 := by omega
              have hr8 : (r : Int) < 8 := by omega
              go_wp2_with fail
              refine Calls.mono HHM.out ?_
              rintro e w5 ⟨rfl, hk5⟩
              have HS5 := Lib.hid (hk5.block HS.out); have HP5 := Lib.hid (hk5.block HP.out); have HC5 := Lib.hid (Cells.kept HC.out hk5); have HGL5 := Lib.hid (Nat.lt_of_lt_of_le HGL.out hk5.size); have HK5 := Lib.hid (HK.out.trans hk5)
              have pf5 := hk5.cell' pf; have pg5 := hk5.cell' pg
              clear hk5 HS HP HC HGL HK HHM pf pg
              go_wp2_with (refine stop_at (o := ⟨some 13, _, _, _, _, _⟩) ?_)
              refine Stop.mk ?_
              refine wpList_new_row rfl rfl _ _ rfl rfl ty_plc _ zero_plc rfl [.int .i64 (kk : Int), .int .i64 (100 + (r : Int))] rfl rfl (one_plc _ _) rfl ?_
              intro w6 hz hs6 hk6
              have p0 : w6.cell? ⟨w5.heap.size, 0, none⟩ = some (.int .i64 (kk : Int)) := cell_of_row _ _ 0 _ _ _ hz.out
              have p1 : w6.cell? ⟨w5.heap.size, 1, none⟩ = some (.int .i64 (100 + (r : Int))) := cell_of_row _ _ 1 _ _ _ hz.out
              have HS6 := Lib.hid (hk6.block HS5.out); have HP6 := Lib.hid (hk6.block HP5.out); have HC6 := Lib.hid (Cells.kept HC5.out hk6); have HGL6 := Lib.hid (Nat.lt_of_lt_of_le HGL5.out hk6.size); have HK6 := Lib.hid (HK5.out.trans hk6)
              have pf6 := hk6.cell' pf5; have pg6 := hk6.cell' pg5
              have HPB : Hid (w5.heap.size ≠ SB ∧ w5.heap.size ≠ PB) := Lib.hid ⟨by have := (Array.getElem?_eq_some_iff.1 HS5.out).1; omega, by have := (Array.getElem?_eq_some_iff.1 HP5.out).1; omega⟩
              generalize w5.heap.size = Pb at *
              clear hz hs6 hk6 HS5 HP5 HC5 HGL5 HK5 pf5 pg5
              go_wp2_with (refine stop_at (o := ⟨none, .store _ _ _, _, _, _, _⟩) ?_)
              refine Stop.mk ?_
              refine wpList_set_cell rfl _ _ rfl size_bool SB (kk * 8 + r) rfl (.bool true) rfl rfl rfl _ _ HS6.out (by rw [bvals_len, HLL.out]; omega) ?_
              intro w9 hw9
              rw [bvals_set] at hw9
              have HS9 := Lib.hid hw9.blk
              have HP9 := Lib.hid ((hw9.oth PB (by have := HPS.out; omega)).trans HP6.out)
              have HC9 : Hid (Cells w9 g 0 (evals (extL k 100))) := Lib.hid (fun j hj => (World.cell?_of_block (hw9.oth g (by have := HWS.out; omega))).trans (HC6.out j hj))
              have HGL9 : Hid (g < w9.heap.size) := Lib.hid (by rw [hw9.size]; exact HGL6.out)
              have HK9 : Hid (Kept w w9) := Lib.hid (hw9.kept HK6.out HWS.out.1)
              have p09 := (World.cell?_of_block (hw9.oth Pb HPB.out.1)).trans p0
              have pg9 := (World.cell?_of_block (hw9.oth PB (by have := HPS.out; omega))).trans pg6
              clear hw9 HS6 HP6 HC6 HGL6 HK6 p0 p1 pf6 pg6
              go_wp2_with (refine stop_at (o := ⟨none, .store _ _ _, _, _, _, _⟩) ?_)
              refine Stop.mk ?_
              refine wpList_set_cell rfl _ _ rfl size_int PB kk rfl (.int .i64 ((cn : Int) + 1)) rfl rfl rfl _ _ HP9.out (by rw [ints_length, HPL.out]; omega) ?_
              intro w10 hw10
              rw [ints_setS] at hw10
              have HS10 := Lib.hid ((hw10.oth SB (by have := HPS.out; omega)).trans HS9.out)
              have HP10 := Lib.hid hw10.blk
              have HC10 : Hid (Cells w10 g 0 (evals (extL k 100))) := Lib.hid (fun j hj => (World.cell?_of_block (hw10.oth g (by have := HPS.out; omega))).trans (HC9.out j hj))
              have HGL10 : Hid (g < w10.heap.size) := Lib.hid (by rw [hw10.size]; exact HGL9.out)
              have HK10 : Hid (Kept w w10) := Lib.hid (hw10.kept HK9.out HPS.out.2.2)
              clear hw10 HS9 HP9 HC9 HGL9 HK9 p09 pg9
              go_wp2
              go_roundw
              case rel => exact ⟨r + 1, _, _, by omega, by go_num, by go_num, HSI2, HPI2, HS10, HP10, HC10, HGL10, HK10⟩
              case measure => simp [intOf]; omega
            · have hr8 : r = 8 := by omega
              subst hr8
              have HALL : Hid ((s : Int) + ((8 : Nat) : Int) = 8 * (k : Int)) := Lib.hid (by have := HSE.out; omega)
              have HPV : Hid (∀ i, i < k → pl.getD i 0 = (cntP k 8 i : Int)) := Lib.hid fun i hi => HPI.out.at_ i (by omega)
              have HPL := Lib.hid HPI.out.len
              have HPC : Hid (∀ i j, i < k → j < k → cntP k 8 i ≤ cntP k 8 j + 1) := Lib.hid fun i j hi hj => spread k (by omega) hn1 i hi j hj
              clear HSI HPI HS HC HGL hr hrl hlt3
              go_wp2
              go_loopw [15] (fun il wr => ∃ i : Nat, i ≤ k ∧ il = .int .i64 i ∧ Hid (wr.heap[PB]? = some (.cells (ints pl).toArray 86 (0, 0))) ∧ Hid (Kept w wr)) (fun il _ => k - (intOf il).toNat)
              case atStart => exact ⟨0, Nat.zero_le _, rfl, HP, HK⟩
              case round =>
                clear HP HK
                obtain ⟨i, hi, rfl, HP, HK⟩ := hrel
                by_cases hil : i < k
                · go_wp2
                  go_loopw [16] (fun jl wr => ∃ j : Nat, j ≤ k ∧ jl = .int .i64 j ∧ Hid (wr.heap[PB]? = some (.cells (ints pl).toArray 86 (0, 0))) ∧ Hid (Kept w wr)) (fun jl _ => k - (intOf jl).toNat)
                  case atStart => exact ⟨0, Nat.zero_le _, rfl, HP, HK⟩
                  case round =>
                    clear HP HK
                    obtain ⟨j, hj, rfl, HP, HK⟩ := hrel
                    by_cases hjl : j < k
                    · have pi := ints_atS HP.out (k := i) (by rw [HPL.out]; omega)
                      have pj := ints_atS HP.out (k := j) (by rw [HPL.out]; omega)
                      rw [HPV.out i hil] at pi
                      rw [HPV.out j hjl] at pj
                      have hc := HPC.out i j hil hjl
                      have hci := cntP_le k 8 i
                      have hcj := cntP_le k 8 j
                      generalize cntP k 8 i = ci at *
                      generalize cntP k 8 j = cj at *
                      have hA1 : decide ((cj : Int) + 1 < (ci : Int)) = false := by simp; omega
                      have hi12 : (i : Int) < 12 := by omega
                      have hj12 : (j : Int) < 12 := by omega
                      go_upto_region 34 with fail
                      go_quiet (fail)
                      have HP2 := Lib.hid (((Kept.refl wr).drewN nq).block HP.out); have HK2 := Lib.hid (HK.out.drewN nq)
                      clear HP HK pi pj
                      go_wp2
                      go_roundw
                      case rel => exact ⟨j + 1, by omega, by go_num, HP2, HK2⟩
                      case measure => simp [intOf]; omega
                    · have hA1 : ¬ (j : Int) < (k : Int) := by omega
                      go_wp2
                      go_roundw
                      case rel => exact ⟨i + 1, by omega, by go_num, HP, HK⟩
                      case measure => simp [intOf]; omega
                · have hA1 : ¬ (i : Int) < (k : Int) := by omega
                  have hA2 : (s : Int) + 8 = 8 * (k : Int) := HALL.out
                  have hA3 : ((8 * (k : Int)) == (k : Int) * 8) = true := by rw [Int.mul_comm]; simp
                  go_wp2
                  go_ret
                  exact ⟨rfl, HK.out⟩
end
end Go.Proofs.Ytkcemkphehocgaa
