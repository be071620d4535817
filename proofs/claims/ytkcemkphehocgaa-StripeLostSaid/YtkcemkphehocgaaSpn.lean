/- StripeLost's walk. -/
import Derived.Test.YtkcemkphehocgaaSpm
import Derived.Test.YtkcemkphehocgaaSpg
import Derived.Test.YtkcemkphehocgaaIsr
namespace Go.Proofs.Ytkcemkphehocgaa
open Go.RowKit
set_option linter.unusedVariables false
set_option linter.unusedSimpArgs false

theorem ty_intsS : ElemT Try.prog 87 3 1 8 := by
  refine ⟨Try.underlying87, ?_, by decide⟩
  have h1 : (Try.prog.info? 3).map (fun i => (i.zero, i.size, i.bytes)) = some (some (.int .i64 0), 1, 8) := by kernel_rfl
  cases hi : Try.prog.info? 3 with
  | none => simp [hi] at h1
  | some i =>
    simp [hi] at h1
    exact ⟨i, _, rfl, h1.1, h1.2.1, h1.2.2, rfl⟩
theorem one_new (w : World) (x : Value) (t : TypeId) : ∀ j u, [x][j]? = some u → (w.alloc (.cells #[x] t)).cell? ((⟨w.heap.size, 0, none⟩ : Addr).add j) = some u := fun j u hj => by
  have h := cell_of_row (w.alloc (.cells #[x] t)) w.heap.size j #[x] t (0, 0) (World.alloc_heap_new w _)
  rw [Addr.add_mid, Nat.zero_add, h]
  simpa using hj
theorem row_block {W : World} {base e n : Nat} {v : Value} {xs : List Value} (h : W.ownsRow base e 1 v n xs) (hn : n ≠ 0) : ∃ g c sp, v = .slice (some ⟨g, 0, none⟩) n c ∧ base ≤ g ∧ g < W.heap.size ∧ W.heap[g]? = some (.cells (xs ++ sp).toArray e (0, 0)) ∧ n ≤ c := by
  rcases h.2 with ⟨_, h0⟩ | ⟨g, cap, cur, rfl, hbg, hh, hn, hcm, hcs, htk⟩
  · exact absurd h0 hn
  · refine ⟨g, cap, cur.toList.drop xs.length, rfl, hbg, (Array.getElem?_eq_some_iff.1 hh).1, ?_, hn⟩
    have : xs ++ cur.toList.drop xs.length = cur.toList := by
      conv => lhs; arg 1; rw [← htk]
      rw [show xs.length = n by rw [h.1, Nat.mul_one], Nat.mul_one]
      exact List.take_append_drop _ _
    rw [this]
    simpa using hh
def lostN (k : Nat) : List Int := (List.range k).map fun (i : Nat) => (i : Int) + 1
theorem lostN_len (k : Nat) : (lostN k).length = k := by simp [lostN]
theorem lostN_succ (k : Nat) : ints (lostN (k + 1)) = ints (lostN k) ++ [.int .i64 ((k : Int) + 1)] := by simp [lostN, ints, List.range_succ]
theorem lostN_at {k j : Nat} (h : j < k) : (lostN k).getD j 0 = (j : Int) + 1 := by
  rw [← getElem_getD (by rw [lostN_len]; exact h)]
  simp [lostN]
theorem int_app {W : World} {b : Nat} {t : TypeId} {la : List Int} {sp : List Value} (h : W.heap[b]? = some (.cells (ints la ++ sp).toArray t (0, 0))) {k : Nat} (hk : k < la.length) : W.cell? ⟨b, k, none⟩ = some (.int .i64 (la.getD k 0)) := by
  have hl : k < (ints la ++ sp).length := by rw [List.length_append, ints_length]; omega
  have := Cells.of_block h k (by simpa using hl)
  rw [Nat.zero_add] at this
  rw [this]
  congr 1
  show (ints la ++ sp)[k] = _
  rw [List.getElem_append_left (by rw [ints_length]; exact hk), ← getElem_getD hk]
  simp [ints]
theorem ints_app_set (la : List Int) (sp : List Value) {k : Nat} (hk : k < la.length) (x : Int) : (ints la ++ sp).set k (.int .i64 x) = ints (la.set k x) ++ sp := by
  rw [List.set_append_left _ _ (by rw [ints_length]; exact hk)]
  simp [ints]
theorem par_row {n t : Nat} (h2 : 2 ≤ n) (ht : t < 8) : parityX (rowL n) (t : Int) = (((holdN n t : Int), (holdN n t : Int) + (t : Int)), 0) := by
  unfold parityX
  rw [rowL_len, show rightX n (t : Int) = 0 by unfold rightX; rw [if_neg (by omega), if_neg (by omega)], if_pos rfl, Int.toNat_natCast, rowL_plc t (holdN_lt (by omega) t)]
/-- what lives of a stripe on the first disks -/
def aliveL (C : Nat → List Int) (f m τ k : Nat) : List (List Int) := ((List.range k).filter fun c => decide (¬ (c = f ∧ m ≤ τ))).map C
theorem aliveL_le (C : Nat → List Int) (f m τ k : Nat) : (aliveL C f m τ k).length ≤ k := by
  unfold aliveL
  rw [List.length_map]
  exact Nat.le_trans (List.length_filter_le _ _) (by simp)
theorem aliveL_dead (C : Nat → List Int) {f m τ k : Nat} (h : k = f ∧ m ≤ τ) : aliveL C f m τ (k + 1) = aliveL C f m τ k := by
  unfold aliveL
  rw [List.range_succ, List.filter_append, List.map_append]
  simp [h]
theorem aliveL_live (C : Nat → List Int) {f m τ k : Nat} (h : ¬ (k = f ∧ m ≤ τ)) : aliveL C f m τ (k + 1) = aliveL C f m τ k ++ [C k] := by
  unfold aliveL
  rw [List.range_succ, List.filter_append, List.map_append, List.filter_cons_of_pos (p := fun c => decide (¬ (c = f ∧ m ≤ τ))) (decide_eq_true h)]
  rfl
theorem aliveL_all (C : Nat → List Int) {f m τ n : Nat} (h : m ≤ τ) : aliveL C f m τ n = ((List.range n).filter fun c => decide (c ≠ f)).map C := by
  unfold aliveL
  congr 1
  exact List.filter_congr (fun c _ => by simp [h])
theorem aliveL_none (C : Nat → List Int) {f m τ n : Nat} (h : ∀ c, c < n → ¬ (c = f ∧ m ≤ τ)) : aliveL C f m τ n = (List.range n).map C := by
  unfold aliveL
  congr 1
  rw [List.filter_eq_self]
  intro c hc
  exact decide_eq_true (h c (List.mem_range.1 hc))
theorem sl_of_owns {W : World} {base e n : Nat} {v : Value} {L : List (List Int)} {xs : List Value} (h : W.ownsRow base e 64 v n xs) (hx : secsV L = xs) (hL : ∀ s ∈ L, s.length = 64) : SecSl W v L := by
  subst hx
  have hn : n = L.length := by have := h.1; rw [secsV_len L hL] at this; omega
  subst hn
  by_cases h0 : L.length = 0
  · obtain ⟨oa, cap, rfl⟩ := ownsRow_form1 h
    exact ⟨oa, cap, rfl, fun k hk => by omega⟩
  · obtain ⟨g, c, rfl, _, hg, hC, hc⟩ := row_form h h0
    exact SecSrc.sl (.inr ⟨g, 0, c, rfl, hc, hg, hC⟩) hL
theorem secs_of {L : List (List Int)} {r : List Int} (h : ∀ s ∈ L, IsSec s) (hr : IsSec r) : ∀ s ∈ L ++ [r], IsSec s := fun s hs => by
  rw [List.mem_append, List.mem_singleton] at hs
  rcases hs with hs | rfl
  · exact h s hs
  · exact hr
section
variable {w : World}
set_option maxHeartbeats 2000000
set_option maxRecDepth 100000
theorem parity_Check {v : Value} {L : List (List Int)} (h : SecSl w v L) (hs : ∀ s ∈ L, IsSec s) (hn : L.length ≤ 100000) :
    Calls Try.prog 65 #[v] w fun e w' => e = .returned (.bool (xorL L == zeroB)) ∧ Kept w w' := by
  have HA := Lib.hid (parity_all h hs hn)
  have HX := Lib.hid (xorL_sec hs)
  obtain ⟨oa, cap, rfl, _⟩ := h
  clear hs
  generalize xorL L = x at *
  go_enter Try.func65, Try.ntmps65
  go_wp2_with fail
  refine Calls.mono HA.out ?_
  rintro e w1 ⟨rfl, hk⟩
  have HK := Lib.hid hk
  clear hk HA
  go_wp2_with (refine stop_at (o := ⟨some 5, _, _, _, _, _⟩) ?_)
  refine Stop.mk ?_
  refine wpList_zero_sec rfl rfl ?_
  go_wp2_with (refine stop_at (o := ⟨some 6, _, _, _, _, _⟩) ?_)
  refine Stop.mk ?_
  refine wpList_eq_sec rfl _ _ rfl x zeroB rfl rfl HX.out.1 zeroB_length ?_
  go_wp2
  go_ret
  exact ⟨rfl, HK.out⟩
end
section
variable {w0 W : World} {R : Nat → Prop} {q : Nat} {T : BankT}
theorem bk_FailAt_out (h : BK w0 R W q T) (h0 : T.l.length ≠ 0) {d : Int} (hd : d < 0 ∨ (T.l.length : Int) ≤ d) (n : Int) : Calls Try.prog 21 #[.pointer (some ⟨q, 0, none⟩), .int .i64 d, .int .i64 n] W fun e w' => e = .returned (.tuple #[]) ∧ W = w' := by
  obtain ⟨Y, rfl, h⟩ := h
  have hi := Lib.hid (bank_is_f h.d h0 hd)
  clear h hd
  go_enter Try.func21, Try.ntmps21
  go_wp2_with fail
  refine Calls.mono hi.out ?_
  rintro e w' ⟨rfl, rfl⟩
  go_wp2
  go_end0
  exact ⟨rfl, rfl⟩
theorem st_FailAt13 {n f m : Nat} (h : BK w0 R W q (addZ 20 n)) (hn0 : n ≠ 0) (hn : n ≤ 31) (hf : f ≤ n) (hm : m < 128) :
    Calls Try.prog 21 #[.pointer (some ⟨q, 0, none⟩), .int .i64 (f : Int), .int .i64 (m : Int)] W fun e w' => e = .returned (.tuple #[]) ∧ ∃ T1, BK w0 R w' q T1 ∧ SameR R W w' ∧ T1.Use ∧ (0 < m → Dying T1 n f m 0) ∧ (m = 0 → ∃ T2 c, T1.failC (f : Int) = (T2, c) ∧ Dying T2 n f m 0) := by
  by_cases hfn : f < n
  · obtain ⟨T1, e1, u1, d1, d2⟩ := Dying.start_at (m := m) hn hfn (by omega)
    have hc := bk_FailAt h (k := f) (by rw [addZ_len]; exact hfn) (m : Int)
    rw [e1] at hc
    exact hc.mono fun e w' ⟨he, hb, hr⟩ => ⟨he, T1, hb, hr, u1, d1, fun h0 => by obtain ⟨T2, e2, d⟩ := d2 h0; exact ⟨T2, 0, e2, d⟩⟩
  · have hfn2 : f = n := by omega
    subst hfn2
    have hs := addZ_still (z := 20) (k := f) (by decide) hn
    have hz := addZ_rest 20 f
    have hD : Dying (addZ 20 f) f f m 0 := ⟨hs.live, fun c hc => by rw [hs.dead c hc]; simp; omega, fun c hc => by rw [hs.fail c hc, if_neg (by omega)], by rw [hz.2.2.2]; rfl, by rw [hz.2.2.1]; decide⟩
    have hc := bk_FailAt_out h (by rw [addZ_len]; exact hn0) (d := (f : Int)) (.inr (by rw [addZ_len]; omega)) (m : Int)
    refine hc.mono fun e w' ⟨he, hw⟩ => ?_
    subst hw
    refine ⟨he, _, h, SameR.refl _ _, hD.use hn0 (by decide), fun _ => hD, fun _ => ⟨addZ 20 f, 8, ?_, hD⟩⟩
    unfold BankT.failC
    rw [if_pos (by rw [addZ_len]; omega)]
end
section
variable {w : World}
set_option maxHeartbeats 4000000
set_option maxRecDepth 100000
theorem law_slost (a0 a1 a2 : Int) (v : Value) (l : List Int) (w : World) (hs : ISrc w v l) : Calls Try.prog 11 #[.int .i64 a0, .int .i64 a1, .int .i64 a2, v] w fun e w' => e = .returned (.bool true) ∧ Kept w w' := by
  have HSRCL := Lib.hid hs
  obtain ⟨oap, capp, rfl, _⟩ := hs
  obtain ⟨y0, hy0, _⟩ := and_low a0 16 (by decide) (m := 65535) (by decide)
  obtain ⟨y1, hy1, hb1⟩ := and_low a1 16 (by decide) (m := 65535) (by decide)
  obtain ⟨y2, hy2, hb2⟩ := and_low a2 7 (by decide) (m := 127) (by decide)
  have hyl2 : y2 < 128 := hb2
  obtain ⟨m, hn, hm1, hm2⟩ : ∃ m : Nat, (2 : Int) + (y0 : Int) % 5 = ((m + 1 : Nat) : Int) ∧ 1 ≤ m ∧ m ≤ 5 := ⟨1 + y0 % 5, by omega, by omega, by omega⟩
  obtain ⟨n, hnm⟩ : ∃ n, n = m + 1 := ⟨_, rfl⟩
  rw [← hnm] at hn
  have hn3 : 2 ≤ n := by omega
  have hn6 : n ≤ 6 := by omega
  obtain ⟨f, hf, hfl⟩ : ∃ f : Nat, (y1 : Int) % ((n : Int) + 1) = (f : Int) ∧ f ≤ n := ⟨y1 % (n + 1), by have := Int.natCast_emod y1 (n + 1); simp only [Int.natCast_add, Int.natCast_one] at this; exact this.symm, Nat.le_of_lt_succ (Nat.mod_lt _ (by omega))⟩
  have hnm1 : (n : Int) - 1 = (m : Int) := by omega
  have hn1 : n - 1 = m := by omega
  have HY1 := Lib.hid (And.intro hy1 (And.intro hf hb1)); have HY2 := Lib.hid (And.intro hy2 hb2); have HN := Lib.hid hn; have HNM := Lib.hid hnm; have HN1 := Lib.hid hn1
  have HNR := Lib.hid (near_row (n := n) (by omega))
  have HSL := Lib.hid fun W => (st_Slots (n : Int) (by omega) (by omega) W)
  clear hy1 hy2 hf hb1 hb2 hn hn1
  have hnm' : n = m + 1 := hnm
  clear hnm hnm'
  have hnge : m < n := by have := HNM.out; omega
  have hnle : n ≤ m + 1 := by have := HNM.out; omega
  go_enter Try.func11, Try.ntmps11
  go_wp2_with fail
  refine Calls.mono (law_shown13 _) ?_
  rintro e w1 ⟨rfl, hk1⟩
  have hlaid := s_laid n (by omega) w w1 (fun k => k ∈ ([] : List Nat)) hk1 (fun _ h => by cases h)
  have hn := HN.out
  go_wp2_with fail
  try simp only [hn]
  clear hn
  refine Calls.mono hlaid ?_
  rintro e w2 ⟨q, rfl, hb, _⟩
  have HB2 := Lib.hid hb
  clear hb hlaid hk1 hy0
  go_wp2_with fail
  refine Calls.mono (s_row n (by omega) _) ?_
  rintro e w3 ⟨v, rfl, hrow, hk⟩
  obtain ⟨g, c, rfl, hg1, hg2, hC, _⟩ := row_form hrow (by omega)
  have HB3 := Lib.hid (BK.push HB2.out hk g hg1 hg2)
  have HC3 := Lib.hid hC; have HGL3 := Lib.hid hg2
  have HES : Hid (∀ W : World, Cells W g 0 (evals (rowL n)) → g < W.heap.size → ESl W (.slice (some ⟨g, 0, none⟩) n c) (rowL n)) := Lib.hid fun W h1 h2 => by
    have := ESl.of_cells (L := rowL n) (cap := c) h2 h1
    rw [rowL_len] at this
    exact this
  clear hrow hk hg1 hg2 hC HB2
  have hsl := HSL.out w3
  rw [if_neg (show ¬ (n : Int) < 2 by omega), hnm1] at hsl
  go_wp2_with fail
  refine Calls.mono hsl ?_
  rintro e w' ⟨rfl, rfl⟩
  clear hsl
  go_wp2
  go_loopw [13, 14] (fun v i wr => ∃ k : Nat, k ≤ 8 * m ∧ i = .int .i64 k ∧ Hid (wr.ownsRow w3.heap.size 3 1 v k (ints (lostN k))) ∧ Hid (Kept w3 wr)) (fun _ i _ => 8 * m - (intOf i).toNat)
  case atStart => exact ⟨0, Nat.zero_le _, rfl, Lib.hid (World.ownsRow_nil _ _ _ _), Lib.hid (Kept.refl _)⟩
  case round =>
    obtain ⟨k, hk, rfl, HO, HK⟩ := hrel
    obtain ⟨oa', cap', rfl⟩ := ownsRow_form1 HO.out
    by_cases hlt : k < 8 * m
    · skip
      have hlt2 : (k : Int) < 8 * (m : Int) := by omega
      go_wp2_with (refine stop_at (o := ⟨some 65, _, _, _, _, _⟩) ?_)
      refine Stop.mk ?_
      obtain ⟨ht', ⟨i1, z1, hi, hz, hsz', hby, hzs⟩, hpos⟩ := ty_intsS
      refine wpList_append_own_wide _ rfl _ _ 87 rfl w3.heap.size 3 i1 z1 1 8 ht' hi hz hsz' hby hzs (by decide) _ k (ints (lostN k)) rfl (HO.out.alloc _) ⟨wr.heap.size, 0, none⟩ 1 1 [.int .i64 ((k : Int) + 1)] rfl rfl (one_new _ _ _) (by intro u hu; simp at hu; subst hu; rfl) (by have : maxLen = 9223372036854775807 := rfl; omega) (by omega) (by have := HK.out.size; rw [World.size_alloc]; omega) ?_
      intro v9 w9 hown hgrow _
      have HK9 : Hid (Kept w3 w9) := Lib.hid ((HK.out.alloc _).grown hgrow (fun j ej => row_ge HO.out ej))
      have HO9 : Hid (w9.ownsRow w3.heap.size 3 1 v9 (k + 1) (ints (lostN (k + 1)))) := Lib.hid (by rw [lostN_succ]; exact hown)
      clear hown hgrow HK HO ht' hi hz hsz' hby hzs hpos hlt2
      go_wp2
      go_roundw
      case rel => exact ⟨k + 1, hlt, by go_num, HO9, HK9⟩
      case measure => simp [intOf]; omega
    · have hkm : k = 8 * m := by omega
      have hlt2 : ¬ (k : Int) < 8 * (m : Int) := by omega
      obtain ⟨g2, cap2, sp, hse, hg1, hg2, hblk, hcap⟩ := row_block HO.out (by omega)
      cases hse
      have hk2 := HK.out
      have hlal : (lostN k).length = 8 * m := by rw [lostN_len]; exact hkm
      have HB4 := Lib.hid (BK.push HB3.out hk2 g2 hg1 hg2); have HC4 := Lib.hid (Cells.kept HC3.out hk2); have HGL4 := Lib.hid (Nat.lt_of_lt_of_le HGL3.out hk2.size); have HL4 := Lib.hid hblk
      have GE_g2 : Hid (w.heap.size ≤ g2) := Lib.hid (Nat.le_trans HB3.out.keeps.size hg1)
      have hla0 : ∀ j, j < 8 * m → (lostN k).getD j 0 = (j : Int) + 1 := fun j hj => lostN_at (by omega)
      have NE_g2 : Hid (g ≠ g2) := Lib.hid (by have := HGL3.out; omega)
      generalize lostN k = la at *
      have HLA0 := Lib.hid hla0
      clear hg1 hg2 hblk hk2 HB3 HC3 HGL3 HO HK hla0
      have hkge : 8 * m ≤ k := by omega
      clear hkm hlt
      obtain ⟨w4, hw4⟩ : ∃ w4, w4 = wr := ⟨_, rfl⟩
      subst hw4
      obtain ⟨hy1, hf, hb1⟩ := HY1.out
      obtain ⟨hy2, hb2⟩ := HY2.out
      go_wp2_with fail
      try simp only [hf]
      try simp only [hy2]
      go_wp2_with fail
      refine Calls.mono (st_FailAt13 HB4.out (by omega) (by omega) hfl hyl2) ?_
      rintro e w5 ⟨rfl, T1, hb, hr, u1, d1, d2⟩
      have HB5 := Lib.hid hb
      have HC5 := Lib.hid (hr.cells (B := g) (by simp) HC4.out)
      have HGL5 := Lib.hid ((BK.lt_of hb (B := g) (by simp)))
      have HL5 := Lib.hid ((hr g2 (by simp)).trans HL4.out)
      have HU1 := Lib.hid u1; have HD1 := Lib.hid d1; have HD2 := Lib.hid d2
      clear HB4 HC4 HGL4 HL4 hb hr u1 d1 d2 hy1 hf hb1
      go_upto_if 78 with fail
      go_cut [] (fun wc => ∃ T : BankT, Hid (Dying T n f y2 0) ∧ Hid (BK w (fun k => k ∈ ([g2, g] : List Nat)) wc q T) ∧ Hid (Cells wc g 0 (evals (rowL n))) ∧ Hid (g < wc.heap.size) ∧ Hid (wc.heap[g2]? = some (.cells (ints la ++ sp).toArray 3 (0, 0))))
      case first =>
        by_cases h0 : y2 = 0
        · skip
          obtain ⟨T2, c2, e2, hdy⟩ := HD2.out h0
          have HE := Lib.hid e2; have HDY := Lib.hid hdy
          clear e2 hdy
          have t1 : ((y2 : Int) == 0) = true := by simp [h0]
          have t2 : (y2 == 0) = true := by simp [h0]
          obtain ⟨hy1, hf, hb1⟩ := HY1.out
          go_wp2_with fail
          try simp only [hf]
          clear hy1 hf hb1
          go_wp2_with fail
          have hc := bk_Fail HB5.out HU1.out (f : Int)
          rw [HE.out] at hc
          refine Calls.mono (hc) ?_
          rintro e w6 ⟨rfl, hb, hr⟩
          have HB6 : Hid (BK w (fun k => k ∈ ([g2, g] : List Nat)) w6 q T2) := Lib.hid hb
          have HC6 := Lib.hid (hr.cells (B := g) (by simp) HC5.out)
          have HGL6 := Lib.hid ((BK.lt_of hb (B := g) (by simp)))
          have HL6 := Lib.hid ((hr g2 (by simp)).trans HL5.out)
          clear HB5 HC5 HGL5 HL5 hb hr hc HE
          go_wp2
          go_meet
          case rel => exact ⟨T2, HDY, HB6, HC6, HGL6, HL6⟩
        · have t1 : ((y2 : Int) == 0) = false := by simp; omega
          have t2 : (y2 == 0) = false := by simpa using h0
          go_wp2
          go_meet
          case rel => exact ⟨T1, Lib.hid (HD1.out (by omega)), HB5, HC5, HGL5, HL5⟩
      case rest =>
        clear hy2 hb2 HU1 HD1 HD2
        clear HB5 HC5 HGL5 HL5
        obtain ⟨T, HDY, HB6, HC6, HGL6, HL6⟩ := hcut
        obtain ⟨w6, hw6⟩ : ∃ w6, w6 = wc := ⟨_, rfl⟩
        subst hw6
        clear HY1 HY2
        go_wp2
        go_loopw [16] (fun i wr => ∃ (tt : Nat) (T : BankT), tt ≤ 8 ∧ i = .int .i64 tt ∧ Hid (Dying T n f y2 (n * tt)) ∧ Hid (Holds T n f y2 (n * tt) tt (lost_D n la)) ∧ Hid (BK w (fun k => k ∈ ([g2, g] : List Nat)) wr q T) ∧ Hid (Cells wr g 0 (evals (rowL n))) ∧ Hid (g < wr.heap.size) ∧ Hid (wr.heap[g2]? = some (.cells (ints la ++ sp).toArray 3 (0, 0)))) (fun i _ => 8 - (intOf i).toNat)
        case atStart => exact ⟨0, T, by decide, rfl, HDY, Lib.hid (Holds.start _ _ _ _ _ _), HB6, HC6, HGL6, HL6⟩
        case round =>
          clear HB6 HC6 HGL6 HL6
          clear HDY
          obtain ⟨tt, T, htt, rfl, HD, HH, HB7, HC7, HGL7, HL7⟩ := hrel
          obtain ⟨w7, hw7⟩ : ∃ w7, w7 = wr := ⟨_, rfl⟩
          subst hw7
          by_cases hlt : tt < 8
          · skip
            obtain ⟨T2, e2, i2, r2⟩ := HD.out.row (by omega) (by omega) hlt (S := lost_D n la tt) (by rw [lost_D_len]; omega) (lost_D_sec n la tt)
            have HE := Lib.hid e2; have HD2 : Hid (Dying T2 n f y2 (n * (tt + 1))) := Lib.hid (by rw [Nat.mul_succ]; exact i2); have HH2 : Hid (Holds T2 n f y2 (n * (tt + 1)) (tt + 1) (lost_D n la)) := Lib.hid (by rw [Nat.mul_succ]; exact HH.out.row (by omega) hlt r2)
            have HP : Hid (n * tt ≤ 1000) := Lib.hid (Nat.le_trans (Nat.mul_le_mul (show n ≤ 6 by omega) (show tt ≤ 8 by omega)) (by decide))
            have HI := Lib.hid HD.out.live.inv; have HT := Lib.hid (And.intro (show T.l.length ≠ 0 by rw [HD.out.live.len]; omega) (And.intro (show T.clock < 900000000 by have := HD.out.clk; have := HP.out; omega) (show T.writes < 900000000 by have := HD.out.wri; have := HP.out; omega)))
            clear e2 i2 r2 HD HH HP
            obtain ⟨p, hp, hpl⟩ : ∃ p : Nat, (tt : Int) * (m : Int) = (p : Int) ∧ p ≤ 7 * m := ⟨tt * m, by rw [Int.natCast_mul], Nat.mul_le_mul_right _ (by omega)⟩
            have hd8 : decide ((tt : Int) < 8) = true := by simp; omega
            have HPN : Hid (tt * (n - 1) = p) := Lib.hid (by
              rw [HN1.out]
              have : ((tt * m : Nat) : Int) = (p : Int) := by rw [Int.natCast_mul]; exact hp
              omega)
            go_wp2
            go_loopw [17, 18] (fun v i wr => ∃ (j : Nat), j ≤ m ∧ i = .int .i64 j ∧ Hid (wr.ownsRow w7.heap.size 34 64 v j (secsV ((lost_D n la tt).take j))) ∧ Hid (Kept w7 wr)) (fun _ i _ => m - (intOf i).toNat)
            case atStart => exact ⟨0, Nat.zero_le _, rfl, Lib.hid (World.ownsRow_nil _ _ _ _), Lib.hid (Kept.refl _)⟩
            case round =>
              obtain ⟨j, hj, rfl, HO, HK⟩ := hrel
              obtain ⟨oa', cap', rfl⟩ := ownsRow_form1 HO.out
              by_cases hjl : j < m
              · skip
                obtain ⟨ix, hix, hixl⟩ : ∃ ix : Nat, (p : Int) + (j : Int) = (ix : Int) ∧ ix < 8 * m := ⟨p + j, by omega, by omega⟩
                have hixk : ix < k := by omega
                have hixk2 : (ix : Int) < 8 * (m : Int) := by omega
                have pc := int_app (HK.out.block HL7.out) (k := ix) (by omega)
                obtain ⟨xv, hxv⟩ : ∃ xv, la.getD ix 0 = xv := ⟨_, rfl⟩
                have HTK : Hid (secsV ((lost_D n la tt).take (j + 1)) = secsV ((lost_D n la tt).take j) ++ u8s (secN xv)) := Lib.hid (by
                  have hl : j < (lost_D n la tt).length := by rw [lost_D_len, HN1.out]; exact hjl
                  rw [List.take_succ_eq_append_getElem hl]
                  have : (lost_D n la tt)[j] = secN xv := by
                    simp only [lost_D, List.getElem_map, List.getElem_range, HPN.out]
                    rw [← hxv]; congr 2; omega
                  rw [this]; simp [secsV])
                rw [hxv] at pc
                clear hxv
                go_wp2_with fail
                refine Calls.mono (s_sector xv _) ?_
                rintro e w5 ⟨rfl, hk5⟩
                have HK5 := Lib.hid (HK.out.trans hk5); have HO5 := Lib.hid (ownsRow_kept HO.out hk5)
                clear hk5 HK HO pc
                go_wp2_with (refine stop_at (o := ⟨some 103, _, _, _, _, _⟩) ?_)
                refine Stop.mk ?_
                refine wpList_secs rfl 1 _ rfl [secN xv] rfl (by decide) (by decide) (fun s hs => by rw [List.mem_singleton.1 hs]; exact secN_len _) (by simp [Act.eval, List.zipIdx, secV]) ?_
                intro w6 hz hs hk6
                have HZ6 := hz; have HK6 := Lib.hid (HK5.out.trans hk6); have HO6 := Lib.hid (ownsRow_kept HO5.out hk6)
                generalize w5.heap.size = G at *
                clear hz hs hk6 HK5 HO5
                go_wp2_with (refine stop_at (o := ⟨some 104, _, _, _, _, _⟩) ?_)
                refine Stop.mk ?_
                obtain ⟨ht', ⟨i1, z1, hi, hz, hsz', hby, hzs⟩, hpos⟩ := ty_secsS
                refine wpList_append_own_wide _ rfl _ _ 58 rfl w7.heap.size 34 i1 z1 64 64 ht' hi hz hsz' hby hzs (by decide) _ j (secsV ((lost_D n la tt).take j)) rfl HO6.out ⟨G, 0, none⟩ 1 1 (u8s (secN xv)) rfl (by rw [u8s_length, secN_len]) (fun j' u hu => by
                  have h1 := cell_of_row w6 G j' _ _ _ HZ6.out
                  rw [Addr.add_mid, Nat.zero_add, h1]
                  simpa [secsV] using hu) (u8s_one _) (by have : maxLen = 9223372036854775807 := rfl; omega) (by omega) HK6.out.size ?_
                intro v9 w9 hown hgrow _
                have HK9 : Hid (Kept w7 w9) := Lib.hid (HK6.out.grown hgrow (fun j ej => row_ge HO6.out ej))
                have HO9 : Hid (w9.ownsRow w7.heap.size 34 64 v9 (j + 1) (secsV ((lost_D n la tt).take (j + 1)))) := Lib.hid (by rw [HTK.out]; exact hown)
                clear hown hgrow HK6 HO6 HZ6 ht' hi hz hsz' hby hzs hpos HTK hix hixl hixk hixk2
                go_wp2
                go_roundw
                case rel => exact ⟨j + 1, hjl, by go_num, HO9, HK9⟩
                case measure => simp [intOf]; omega
              · have hjm : j = m := by omega
                have hjl2 : ¬ (j : Int) < (m : Int) := by omega
                have hS : (lost_D n la tt).take j = lost_D n la tt := List.take_of_length_le (by rw [lost_D_len, HN1.out]; omega)
                have ho := HO.out
                rw [hS] at ho
                obtain ⟨sg, sc, hse, hs1, hs2, hsC, hsn⟩ := row_form ho (by omega)
                cases hse
                have HSRC : Hid (SecSrc wr (.slice (some ⟨sg, 0, none⟩) j cap') (lost_D n la tt)) := Lib.hid (.inr ⟨sg, 0, cap', by rw [lost_D_len, HN1.out, hjm], by rw [lost_D_len, HN1.out, ← hjm]; exact hsn, hs2, hsC⟩)
                have hk2 := HK.out
                clear hS ho hs1 hs2 hsC hsn HO HK hjl hjm
                have HB8 := Lib.hid ((HB7.out.kept hk2).1)
                have HC8 := Lib.hid (Cells.kept HC7.out hk2)
                have HGL8 := Lib.hid (Nat.lt_of_lt_of_le HGL7.out hk2.size)
                have HL8 := Lib.hid (hk2.block HL7.out)
                clear HB7 HC7 HGL7 HL7 hk2
                obtain ⟨w8, hw8⟩ : ∃ w8, w8 = wr := ⟨_, rfl⟩
                subst hw8
                go_wp2_with fail
                have hc := st_WriteFull HB8.out HI.out HT.out.1 HT.out.2.1 HT.out.2.2 (HES.out _ HC8.out HGL8.out) HNR.out (by rw [rowL_len]; omega) tt (by rw [rowL_len]; omega) hlt HSRC.out (lost_D_sec n la tt) (by rw [lost_D_len, rowL_len]; omega)
                rw [HE.out] at hc
                refine Calls.mono (hc) ?_
                rintro e w9 ⟨rfl, hb, hr⟩
                have HB9 : Hid (BK w (fun k => k ∈ ([g2, g] : List Nat)) w9 q T2) := Lib.hid hb
                have HC9 := Lib.hid (hr.cells (B := g) (by simp) HC8.out)
                have HGL9 := Lib.hid ((BK.lt_of hb (B := g) (by simp)))
                have HL9 := Lib.hid ((hr g2 (by simp)).trans HL8.out)
                clear HB8 HC8 HGL8 HL8 hb hr hc HE HI HT HSRC
                go_wp2
                go_roundw
                case rel => exact ⟨tt + 1, T2, hlt, by go_num, HD2, HH2, HB9, HC9, HGL9, HL9⟩
                case measure => simp [intOf]; omega
          · have ht8 : tt = 8 := by omega
            have HD8 : Hid (Dying T n f y2 (n * 8)) := Lib.hid (by rw [← ht8]; exact HD.out)
            have HH8 : Hid (Holds T n f y2 (n * 8) 8 (lost_D n la)) := Lib.hid (by have := HH.out; rw [ht8] at this; exact this)
            clear HD HH ht8
            have HD := HD8
            have HH := HH8
            clear HD8 HH8
            have ht8 : ¬ (tt : Int) < 8 := by omega
            go_upto_block 6 with fail
            go_cut [] (fun wc => ∃ (T : BankT) (la : List Int) (τ : Nat), la.length = 8 * m ∧ τ ≤ 200 ∧ Hid (Dying T n f y2 τ) ∧ Hid (Holds T n f y2 τ 8 (lost_D n la)) ∧ Hid (BK w (fun k => k ∈ ([g2, g] : List Nat)) wc q T) ∧ Hid (Cells wc g 0 (evals (rowL n))) ∧ Hid (g < wc.heap.size) ∧ Hid (wc.heap[g2]? = some (.cells (ints la ++ sp).toArray 3 (0, 0))))
            case first =>
              go_wp2
              go_loopw [19] (fun il wr => ∃ (i : Nat) (T : BankT) (la : List Int) (τ : Nat), i ≤ l.length ∧ i ≤ 30 ∧ il = .int .i64 i ∧ la.length = 8 * m ∧ τ = n * 8 + 2 * i ∧ Hid (Dying T n f y2 τ) ∧ Hid (Holds T n f y2 τ 8 (lost_D n la)) ∧ Hid (BK w (fun k => k ∈ ([g2, g] : List Nat)) wr q T) ∧ Hid (Cells wr g 0 (evals (rowL n))) ∧ Hid (g < wr.heap.size) ∧ Hid (wr.heap[g2]? = some (.cells (ints la ++ sp).toArray 3 (0, 0)))) (fun il _ => 30 - (intOf il).toNat)
              case atStart => exact ⟨0, T, la, n * 8, Nat.zero_le _, by decide, rfl, hlal, rfl, HD, HH, HB7, HC7, HGL7, HL7⟩
              case round =>
                clear HB7 HC7 HGL7 HL7
                clear HD HH HLA0 hlal
                obtain ⟨i, T, la, τ, hil, hi30, rfl, hlal, hτ, HD, HH, HB8, HC8, HGL8, HL8⟩ := hrel
                obtain ⟨w8, hw8⟩ : ∃ w8, w8 = wr := ⟨_, rfl⟩
                subst hw8
                have hτ2 : τ ≤ 200 := by omega
                by_cases hlt : i < l.length
                · by_cases hlt30 : i < 30
                  · skip
                    obtain ⟨b, off, e, hcell⟩ := HSRCL.out.at i hlt
                    subst e
                    have pc := HB8.out.keeps.cell' hcell
                    clear hcell
                    obtain ⟨y3, hy3, hb3⟩ := and_low l[i] 16 (by decide) (m := 65535) (by decide)
                    obtain ⟨s, hs, hsl⟩ : ∃ s : Nat, (y3 : Int) % (8 * (m : Int)) = (s : Int) ∧ s < 8 * m := ⟨y3 % (8 * m), by have := Int.natCast_emod y3 (8 * m); simp only [Int.natCast_mul] at this; exact this.symm, Nat.mod_lt _ (by omega)⟩
                    generalize l[i] = xi at *
                    have hs3 : s < 8 * (n - 1) := by rw [HN1.out]; exact hsl
                    have htd : s / (n - 1) < 8 := by rw [Nat.div_lt_iff_lt_mul (by omega)]; omega
                    have hjd : s % (n - 1) < n - 1 := Nat.mod_lt _ (by omega)
                    have hkk := slotK_lt (w := n) (t := s / (n - 1)) hjd
                    have hhd := holdN_lt (w := n) (by omega) (s / (n - 1))
                    have hdm : s / (n - 1) * (n - 1) + s % (n - 1) = s := by rw [Nat.mul_comm]; exact Nat.div_add_mod s (n - 1)
                    have hdv : (s : Int) / (m : Int) = ((s / (n - 1) : Nat) : Int) := by rw [HN1.out]; exact (Int.natCast_ediv s m).symm
                    have hhm := fun W (he : ESl W (.slice (some ⟨g, 0, none⟩) n c) (rowL n)) => st_Home he HNR.out (s : Int)
                    rw [home_row (by omega) hs3] at hhm
                    have hpm := fun W (he : ESl W (.slice (some ⟨g, 0, none⟩) n c) (rowL n)) => st_Parity he HNR.out ((s / (n - 1) : Nat) : Int)
                    rw [par_row (by omega) htd] at hpm
                    have hsp : splitX (rowL n).length (s : Int) = (((s / (n - 1) : Nat) : Int), ((slotK n (s / (n - 1)) (s % (n - 1)) : Nat) : Int), 0) := by rw [rowL_len]; exact split_slotN (by omega) hs3
                    obtain ⟨p, ps, hpl, T1, c1, e1, i1, k1, r1, l1, T2, c2, e2, d2, h2⟩ := HD.out.plug (by omega) (by omega) (by rw [HN1.out]; exact hlal) HH.out htd hjd (1000 + (i : Int))
                    rw [hdm] at h2
                    have HU := Lib.hid (HD.out.use (by omega) (by omega)); have HU1 : Hid T1.Use := Lib.hid ⟨i1, by rw [l1]; omega, by omega, by omega⟩
                    generalize s % (n - 1) = j at *
                    generalize s / (n - 1) = t at *
                    generalize slotK n t j = k3 at *
                    generalize holdN n t = hd at *
                    have HHM := Lib.hid hhm; have HPM := Lib.hid hpm; have HSP := Lib.hid hsp; have HPS := Lib.hid ps; have HPL := Lib.hid hpl; have HE1 := Lib.hid e1; have HE2 := Lib.hid e2; have HD2 := Lib.hid d2; have HH2 := Lib.hid h2; have HTD := Lib.hid htd
                    clear hhm hpm hsp ps hpl e1 e2 d2 h2 HD HH hjd hdm hs3 i1 k1 r1 l1
                    have hi2 : (i : Int) < 30 := by omega
                    go_wp2_with fail
                    try simp only [hy3]
                    try simp only [hs]
                    clear pc hs hy3
                    go_wp2_with fail
                    refine Calls.mono (s_sector (1000 + (i : Int)) _) ?_
                    rintro e w9 ⟨rfl, hk⟩
                    have HB9 := Lib.hid ((HB8.out.kept hk).1)
                    have HC9 := Lib.hid (Cells.kept HC8.out hk)
                    have HGL9 := Lib.hid (Nat.lt_of_lt_of_le HGL8.out hk.size)
                    have HL9 := Lib.hid (hk.block HL8.out)
                    clear HB8 HC8 HGL8 HL8 hk 
                    go_wp2_with fail
                    have hc := st_Plug HB9.out HU.out (HES.out _ HC9.out HGL9.out) HNR.out (by rw [rowL_len]; omega) (s : Int) t k3 (by rw [rowL_len]; omega) HTD.out (by rw [rowL_len]; exact hkk) HSP.out (secN_sec (1000 + (i : Int)))
                    rw [HPL.out] at hc
                    refine Calls.mono (hc) ?_
                    rintro e w10 ⟨rfl, hk⟩
                    have HB10 := Lib.hid ((HB9.out.kept hk).1)
                    have HC10 := Lib.hid (Cells.kept HC9.out hk)
                    have HGL10 := Lib.hid (Nat.lt_of_lt_of_le HGL9.out hk.size)
                    have HL10 := Lib.hid (hk.block HL9.out)
                    clear HB9 HC9 HGL9 HL9 hk hc HPL HSP
                    go_wp2_with (refine stop_at (o := ⟨some 21, _, _, _, _, _⟩) ?_)
                    refine Stop.mk ?_
                    refine wpList_new_row rfl rfl _ _ rfl rfl ty_sec (u8s zeroB) zero_sec (by rw [u8s_length, zeroB_length]) (u8s (p)) rfl (by rw [u8s_length, HPS.out.1]) (u8s_one _) rfl ?_
                    intro w11 hz hs hk
                    have HP11 := hz
                    have HB11 := Lib.hid (BK.push HB10.out hk _ (Nat.le_refl _) hs)
                    have HC11 := Lib.hid (Cells.kept HC10.out hk)
                    have HGL11 := Lib.hid (Nat.lt_of_lt_of_le HGL10.out hk.size)
                    have HL11 := Lib.hid (hk.block HL10.out)
                    have GE_Pb := Lib.hid (HB10.out.keeps.size)
                    generalize w10.heap.size = Pb at *
                    clear HB10 HC10 HGL10 HL10 hz hs hk 
                    go_wp2_with fail
                    refine Calls.mono (HHM.out _ (HES.out _ HC11.out HGL11.out)) ?_
                    rintro e w12 ⟨rfl, hk⟩
                    have HB12 := Lib.hid ((HB11.out.kept hk).1)
                    have HC12 := Lib.hid (Cells.kept HC11.out hk)
                    have HGL12 := Lib.hid (Nat.lt_of_lt_of_le HGL11.out hk.size)
                    have HL12 := Lib.hid (hk.block HL11.out)
                    have HP12 := Lib.hid (hk.block HP11.out)
                    clear HB11 HC11 HGL11 HL11 HP11 hk HHM
                    go_wp2_with (refine stop_at (o := ⟨some 23, _, _, _, _, _⟩) ?_)
                    refine Stop.mk ?_
                    refine wpList_new_row rfl rfl _ _ rfl rfl ty_plc _ zero_plc rfl [.int .i64 ((k3 : Int)), .int .i64 ((k3 : Int) + (t : Int))] rfl rfl (one_plc _ _) rfl ?_
                    intro w13 hz hs hk
                    have HH13 := hz
                    have HB13 := Lib.hid (BK.push HB12.out hk _ (Nat.le_refl _) hs)
                    have HC13 := Lib.hid (Cells.kept HC12.out hk)
                    have HGL13 := Lib.hid (Nat.lt_of_lt_of_le HGL12.out hk.size)
                    have HL13 := Lib.hid (hk.block HL12.out)
                    have HP13 := Lib.hid (hk.block HP12.out)
                    have GE_Hb := Lib.hid (HB12.out.keeps.size)
                    generalize w12.heap.size = Hb at *
                    clear HB12 HC12 HGL12 HL12 HP12 hz hs hk 
                    go_wp2_with fail
                    try simp only [hdv]
                    refine Calls.mono (HPM.out _ (HES.out _ HC13.out HGL13.out)) ?_
                    rintro e w14 ⟨rfl, hk⟩
                    have HB14 := Lib.hid ((HB13.out.kept hk).1)
                    have HC14 := Lib.hid (Cells.kept HC13.out hk)
                    have HGL14 := Lib.hid (Nat.lt_of_lt_of_le HGL13.out hk.size)
                    have HL14 := Lib.hid (hk.block HL13.out)
                    have HP14 := Lib.hid (hk.block HP13.out)
                    have HH14 := Lib.hid (hk.block HH13.out)
                    clear HB13 HC13 HGL13 HL13 HP13 HH13 hk HPM hdv
                    go_wp2_with (refine stop_at (o := ⟨some 25, _, _, _, _, _⟩) ?_)
                    refine Stop.mk ?_
                    refine wpList_new_row rfl rfl _ _ rfl rfl ty_plc _ zero_plc rfl [.int .i64 ((hd : Int)), .int .i64 ((hd : Int) + (t : Int))] rfl rfl (one_plc _ _) rfl ?_
                    intro w15 hz hs hk
                    have HQ15 := hz
                    have HB15 := Lib.hid (BK.push HB14.out hk _ (Nat.le_refl _) hs)
                    have HC15 := Lib.hid (Cells.kept HC14.out hk)
                    have HGL15 := Lib.hid (Nat.lt_of_lt_of_le HGL14.out hk.size)
                    have HL15 := Lib.hid (hk.block HL14.out)
                    have HP15 := Lib.hid (hk.block HP14.out)
                    have HH15 := Lib.hid (hk.block HH14.out)
                    have GE_Qb := Lib.hid (HB14.out.keeps.size)
                    generalize w14.heap.size = Qb at *
                    clear HB14 HC14 HGL14 HL14 HP14 HH14 hz hs hk 
                    go_upto_region 38 with fail
                    have hkd : Kept w15 w15.drew := (Kept.refl _).drew
                    have hA : BK w (fun k => k ∈ ([Qb, Hb, Pb, g2, g] : List Nat)) w15.drew q T ∧ Cells w15.drew g 0 (evals (rowL n)) ∧ g < w15.drew.heap.size ∧ w15.drew.heap[g2]? = some (.cells (ints la ++ sp).toArray 3 (0, 0)) ∧ w15.drew.heap[Pb]? = some (.cells ((u8s (p))).toArray 34 (0, 0)) ∧ w15.drew.heap[Hb]? = some (.cells ([.int .i64 ((k3 : Int)), .int .i64 ((k3 : Int) + (t : Int))]).toArray 32 (0, 0)) ∧ w15.drew.heap[Qb]? = some (.cells ([.int .i64 ((hd : Int)), .int .i64 ((hd : Int) + (t : Int))]).toArray 32 (0, 0)) := ⟨(HB15.out.kept hkd).1, Cells.kept HC15.out hkd, Nat.lt_of_lt_of_le HGL15.out hkd.size, hkd.block HL15.out, hkd.block HP15.out, hkd.block HH15.out, hkd.block HQ15.out⟩
                    clear hkd HB15 HC15 HGL15 HL15 HP15 HH15 HQ15
                    have hS := hA.2.2.2.2.2.1
                    refine wp_region_calm ?_
                    refine wp_region_E (fun W => W.heap[Hb]? = some (.cells [Value.int .i64 (k3 : Int), .int .i64 ((k3 : Int) + (t : Int))].toArray 32 (0, 0))) 100 (by kernel_rfl) ?_
                    refine wpAnyE_take (i := 0) (v := ?_) (listed' := #[true, false, false, false, false, false]) (by rfl) (by kernel_rfl) (by kernel_rfl) calm_put hS (by rfl) ?_ ?_
                    rotate_left
                    · intro W hW; clear hW; go_simp; try (with_reducible rfl)
                    simp only [Act.put, List.getElem_toArray, List.getElem_cons_succ, List.getElem_cons_zero, List.setIfInBounds_toArray, List.set_cons_zero, List.set_cons_succ]
                    refine wpAnyE_take (i := 1) (v := .agg #[.int .i64 (k3 : Int), .int .i64 ((k3 : Int) + (t : Int))]) (listed' := #[true, true, false, false, false, false]) (by rfl) (by kernel_rfl) (by kernel_rfl) calm_put hS (by rfl) ?_ ?_
                    · intro W hW; skip; exact exec_load_plc _ rfl Hb rfl [.int .i64 (k3 : Int), .int .i64 ((k3 : Int) + (t : Int))] rfl (by simpa using Cells.of_block hW)
                    simp only [Act.put, List.getElem_toArray, List.getElem_cons_succ, List.getElem_cons_zero, List.setIfInBounds_toArray, List.set_cons_zero, List.set_cons_succ]
                    refine wpAnyE_take (i := 2) (v := ?_) (listed' := #[true, true, true, false, false, false]) (by rfl) (by kernel_rfl) (by kernel_rfl) calm_put hS (by rfl) ?_ ?_
                    rotate_left
                    · intro W hW; clear hW; go_simp; try (with_reducible rfl)
                    simp only [Act.put, List.getElem_toArray, List.getElem_cons_succ, List.getElem_cons_zero, List.setIfInBounds_toArray, List.set_cons_zero, List.set_cons_succ]
                    refine wpAnyE_take (i := 3) (v := ?_) (listed' := #[true, true, true, true, false, false]) (by rfl) (by kernel_rfl) (by kernel_rfl) calm_put hS (by rfl) ?_ ?_
                    rotate_left
                    · intro W hW; clear hW; go_simp; try (with_reducible rfl)
                    simp only [Act.put, List.getElem_toArray, List.getElem_cons_succ, List.getElem_cons_zero, List.setIfInBounds_toArray, List.set_cons_zero, List.set_cons_succ]
                    refine wpAnyE_one (i := 4) (listed' := #[true, true, true, true, true, false]) (by rfl) (by kernel_rfl) (by kernel_rfl) (by rfl) (fun K hK => ?_)
                    simp only [Act.put, List.getElem_toArray, List.getElem_cons_succ, List.getElem_cons_zero, List.setIfInBounds_toArray, List.set_cons_zero, List.set_cons_succ]
                    go_wp2_with fail
                    refine Calls.mono (s_sector (1000 + (i : Int)) _) ?_
                    rintro e ws ⟨rfl, hks⟩
                    have hA2 : BK w (fun k => k ∈ ([Qb, Hb, Pb, g2, g] : List Nat)) ws q T ∧ Cells ws g 0 (evals (rowL n)) ∧ g < ws.heap.size ∧ ws.heap[g2]? = some (.cells (ints la ++ sp).toArray 3 (0, 0)) ∧ ws.heap[Pb]? = some (.cells ((u8s (p))).toArray 34 (0, 0)) ∧ ws.heap[Hb]? = some (.cells ([.int .i64 ((k3 : Int)), .int .i64 ((k3 : Int) + (t : Int))]).toArray 32 (0, 0)) ∧ ws.heap[Qb]? = some (.cells ([.int .i64 ((hd : Int)), .int .i64 ((hd : Int) + (t : Int))]).toArray 32 (0, 0)) := ⟨(hA.1.kept hks).1, Cells.kept hA.2.1 hks, Nat.lt_of_lt_of_le hA.2.2.1 hks.size, hks.block hA.2.2.2.1, hks.block hA.2.2.2.2.1, hks.block hA.2.2.2.2.2.1, hks.block hA.2.2.2.2.2.2⟩
                    have hS2 := hks.block hS
                    clear hks hA hS
                    have hS := hS2
                    clear hS2
                    refine hK _ _ (fun _ => hS) ?_; clear hK K
                    refine wpAnyE_one (i := 5) (listed' := #[true, true, true, true, true, true]) (by rfl) (by kernel_rfl) (by kernel_rfl) (by rfl) (fun K hK => ?_)
                    simp only [Act.put, List.getElem_toArray, List.getElem_cons_succ, List.getElem_cons_zero, List.setIfInBounds_toArray, List.set_cons_zero, List.set_cons_succ]
                    go_wp2_with fail
                    have hc := bk_Write hA2.1 HU.out (k3 : Int) ((k3 : Int) + (t : Int)) (secN_len (1000 + (i : Int)))
                    rw [HE1.out] at hc
                    refine Calls.mono hc ?_
                    rintro e wb ⟨rfl, hb, hr⟩
                    have hA3 : BK w (fun k => k ∈ ([Qb, Hb, Pb, g2, g] : List Nat)) wb q T1 ∧ Cells wb g 0 (evals (rowL n)) ∧ g < wb.heap.size ∧ wb.heap[g2]? = some (.cells (ints la ++ sp).toArray 3 (0, 0)) ∧ wb.heap[Pb]? = some (.cells ((u8s (p))).toArray 34 (0, 0)) ∧ wb.heap[Hb]? = some (.cells ([.int .i64 ((k3 : Int)), .int .i64 ((k3 : Int) + (t : Int))]).toArray 32 (0, 0)) ∧ wb.heap[Qb]? = some (.cells ([.int .i64 ((hd : Int)), .int .i64 ((hd : Int) + (t : Int))]).toArray 32 (0, 0)) := ⟨hb, hr.cells (B := g) (by simp) hA2.2.1, (BK.lt_of hb (B := g) (by simp)), (hr g2 (by simp)).trans hA2.2.2.2.1, (hr Pb (by simp)).trans hA2.2.2.2.2.1, (hr Hb (by simp)).trans hA2.2.2.2.2.2.1, (hr Qb (by simp)).trans hA2.2.2.2.2.2.2⟩
                    have hS2 := (hr Hb (by simp)).trans hS
                    clear hb hr hc HE1 hA2 hS
                    have hS := hS2
                    clear hS2
                    refine hK _ _ (fun _ => hS) ?_; clear hK K
                    refine wpAnyE_done (by kernel_rfl) ?_ _
                    refine calm_normal ?_
                    have HB16 := Lib.hid (hA3.1)
                    have HC16 := Lib.hid (hA3.2.1)
                    have HGL16 := Lib.hid (hA3.2.2.1)
                    have HL16 := Lib.hid (hA3.2.2.2.1)
                    have HP16 := Lib.hid (hA3.2.2.2.2.1)
                    have HH16 := Lib.hid (hA3.2.2.2.2.2.1)
                    have HQ16 := Lib.hid (hA3.2.2.2.2.2.2)
                    clear hA3 hS
                    generalize wb = w16 at *
                    go_wp2_with (refine stop_at (o := ⟨some 170, _, _, _, _, _⟩) ?_)
                    refine Stop.mk ?_
                    refine wpList_load_agg rfl _ rfl ty_plc Qb 0 rfl [.int .i64 (hd : Int), .int .i64 ((hd : Int) + (t : Int))] (by simpa using Cells.of_block HQ16.out) rfl ?_
                    go_wp2_with (refine stop_at (o := ⟨some 171, _, _, _, _, _⟩) ?_)
                    refine Stop.mk ?_
                    refine wpList_load_agg rfl _ rfl ty_sec Pb 0 rfl (u8s p) (by simpa using Cells.of_block HP16.out) (by rw [u8s_length, HPS.out.1]) ?_
                    go_wp2_with fail
                    have hc := bk_Write HB16.out HU1.out (hd : Int) ((hd : Int) + (t : Int)) HPS.out.1
                    rw [HE2.out] at hc
                    refine Calls.mono (hc) ?_
                    rintro e w17 ⟨rfl, hb, hr⟩
                    have HB17 : Hid (BK w (fun k => k ∈ ([Qb, Hb, Pb, g2, g] : List Nat)) w17 q T2) := Lib.hid hb
                    have HC17 := Lib.hid (hr.cells (B := g) (by simp) HC16.out)
                    have HGL17 := Lib.hid ((BK.lt_of hb (B := g) (by simp)))
                    have HL17 := Lib.hid ((hr g2 (by simp)).trans HL16.out)
                    have HP17 := Lib.hid ((hr Pb (by simp)).trans HP16.out)
                    have HH17 := Lib.hid ((hr Hb (by simp)).trans HH16.out)
                    have HQ17 := Lib.hid ((hr Qb (by simp)).trans HQ16.out)
                    clear HB16 HC16 HGL16 HL16 HP16 HH16 HQ16 hb hr hc HE2
                    clear HP17 HH17 HQ17
                    have hsk : s < k := by omega
                    have hsk2 : (s : Int) < 8 * (m : Int) := by omega
                    go_wp2_with (refine stop_at (o := ⟨none, .store _ _ _, _, _, _, _⟩) ?_)
                    refine Stop.mk ?_
                    refine wpList_set_cell rfl _ _ rfl size_int g2 s rfl (.int .i64 (1000 + (i : Int))) rfl rfl rfl _ _ HL17.out (by simp [ints_length, hlal]; omega) ?_
                    intro wz hw
                    rw [ints_app_set _ _ (by rw [hlal]; exact hsl)] at hw
                    have HBz := Lib.hid ((HB17.out.wrote hw (by simp) GE_g2.out).less (R' := fun k => k ∈ ([g2, g] : List Nat)) (fun k hk => by simp at hk ⊢; omega)); have HCz : Hid (Cells wz g 0 (evals (rowL n))) := Lib.hid (fun j hj => (World.cell?_of_block (hw.oth g NE_g2.out)).trans (HC17.out j hj)); have HGLz : Hid (g < wz.heap.size) := Lib.hid (by rw [hw.size]; exact HGL17.out); have HLz := Lib.hid hw.blk
                    clear hw HB17 HC17 HGL17 HL17
                    go_wp2
                    go_roundw
                    case rel => exact ⟨i + 1, T2, la.set s (1000 + (i : Int)), τ + 2, by omega, by omega, by go_num, by rw [List.length_set]; exact hlal, by omega, HD2, HH2, HBz, HCz, HGLz, HLz⟩
                    case measure => simp [intOf]; omega
                  · have t1 : ¬ (i : Int) < 30 := by omega
                    go_wp2
                    go_meet
                    case rel => exact ⟨T, la, τ, hlal, hτ2, HD, HH, HB8, HC8, HGL8, HL8⟩
                · go_wp2
                  go_meet
                  case rel => exact ⟨T, la, τ, hlal, hτ2, HD, HH, HB8, HC8, HGL8, HL8⟩
            case rest =>
              clear HB7 HC7 HGL7 HL7
              clear HD HH HLA0 hlal
              obtain ⟨T, la, τ, hlal, hτ, HD, HH, HB8, HC8, HGL8, HL8⟩ := hcut
              obtain ⟨w8, hw8⟩ : ∃ w8, w8 = wc := ⟨_, rfl⟩
              subst hw8
              have HUT := Lib.hid (HD.out.use (by omega) (by omega))
              have HDS : Hid (∀ tt, (lost_D n la tt).length + 1 = n ∧ ∀ s ∈ lost_D n la tt, IsSec s) := Lib.hid fun tt => ⟨by rw [lost_D_len]; omega, lost_D_sec n la tt⟩
              go_wp2
              go_loopw [27] (fun i wr => ∃ (s : Nat), s ≤ 8 * m ∧ i = .int .i64 s ∧ Hid (BK w (fun k => k ∈ ([g2, g] : List Nat)) wr q T) ∧ Hid (Cells wr g 0 (evals (rowL n))) ∧ Hid (g < wr.heap.size) ∧ Hid (wr.heap[g2]? = some (.cells (ints la ++ sp).toArray 3 (0, 0)))) (fun i _ => 8 * m - (intOf i).toNat)
              case atStart => exact ⟨0, Nat.zero_le _, rfl, HB8, HC8, HGL8, HL8⟩
              case round =>
                clear HB8 HC8 HGL8 HL8
                obtain ⟨s, hs, rfl, HB9, HC9, HGL9, HL9⟩ := hrel
                obtain ⟨w9, hw9⟩ : ∃ w9, w9 = wr := ⟨_, rfl⟩
                subst hw9
                by_cases hlt : s < 8 * m
                · skip
                  have hlt2 : (s : Int) < 8 * (m : Int) := by omega
                  have hsk : s < k := by omega
                  have hs3 : s < 8 * (n - 1) := by rw [HN1.out]; exact hlt
                  have hsp : splitX (rowL n).length (s : Int) = (((s / (n - 1) : Nat) : Int), ((slotK n (s / (n - 1)) (s % (n - 1)) : Nat) : Int), 0) := by rw [rowL_len]; exact split_slotN (by omega) hs3
                  have htd : s / (n - 1) < 8 := by rw [Nat.div_lt_iff_lt_mul (by omega)]; omega
                  have hjd : s % (n - 1) < n - 1 := Nat.mod_lt _ (by omega)
                  have hkk := slotK_lt (w := n) (t := s / (n - 1)) hjd
                  have hdm : s / (n - 1) * (n - 1) + s % (n - 1) = s := by rw [Nat.mul_comm]; exact Nat.div_add_mod s (n - 1)
                  have hrl := HD.out.readL (by omega) (by omega) HH.out HDS.out htd hjd
                  rw [lost_D_at la _ hjd, hdm] at hrl
                  obtain ⟨xv, hxv⟩ : ∃ xv, la.getD s 0 = xv := ⟨_, rfl⟩
                  rw [hxv] at hrl
                  generalize s % (n - 1) = j at *
                  generalize s / (n - 1) = t at *
                  generalize slotK n t j = k3 at *
                  have HSP := Lib.hid hsp; have HTD := Lib.hid htd; have HRL := Lib.hid hrl; have HXV := Lib.hid hxv
                  clear hsp htd hjd hrl hdm hs3 hxv
                  go_wp2_with fail
                  have hc := st_Read HB9.out HUT.out (HES.out _ HC9.out HGL9.out) HNR.out (by rw [rowL_len]; omega) (s : Int) t k3 (by rw [rowL_len]; omega) HTD.out (by rw [rowL_len]; exact hkk) HSP.out
                  rw [HRL.out] at hc
                  refine Calls.mono (hc) ?_
                  rintro e w10 ⟨rfl, hk⟩
                  have HB10 := Lib.hid ((HB9.out.kept hk).1)
                  have HC10 := Lib.hid (Cells.kept HC9.out hk)
                  have HGL10 := Lib.hid (Nat.lt_of_lt_of_le HGL9.out hk.size)
                  have HL10 := Lib.hid (hk.block HL9.out)
                  clear HB9 HC9 HGL9 HL9 hk hc HRL HSP HTD
                  go_wp2_with (refine stop_at (o := ⟨some 28, _, _, _, _, _⟩) ?_)
                  refine Stop.mk ?_
                  refine wpList_new_row rfl rfl _ _ rfl rfl ty_sec (u8s zeroB) zero_sec (by rw [u8s_length, zeroB_length]) (u8s (secN xv)) rfl (by rw [u8s_length, secN_len]) (u8s_one _) rfl ?_
                  intro w11 hz hs hk
                  have HS11 := hz
                  have HB11 := Lib.hid (BK.push HB10.out hk _ (Nat.le_refl _) hs)
                  have HC11 := Lib.hid (Cells.kept HC10.out hk)
                  have HGL11 := Lib.hid (Nat.lt_of_lt_of_le HGL10.out hk.size)
                  have HL11 := Lib.hid (hk.block HL10.out)
                  have GE_Sb := Lib.hid (HB10.out.keeps.size)
                  generalize w10.heap.size = Sb at *
                  clear HB10 HC10 HGL10 HL10 hz hs hk 
                  go_upto_region 45 with fail
                  have hS : Kept w11 w11.drew ∧ w11.drew.heap[Sb]? = some (.cells (u8s (secN xv)).toArray 34 (0, 0)) ∧ w11.drew.heap[g2]? = some (.cells (ints la ++ sp).toArray 3 (0, 0)) := ⟨(Kept.refl _).drew, HS11.out, HL11.out⟩
                  refine wp_region_calm ?_
                  refine wp_region_E (fun W => Kept w11 W ∧ W.heap[Sb]? = some (.cells (u8s (secN xv)).toArray 34 (0, 0)) ∧ W.heap[g2]? = some (.cells (ints la ++ sp).toArray 3 (0, 0))) 100 (by kernel_rfl) ?_
                  refine wpAnyE_take (i := 0) (v := .agg (u8s (secN xv)).toArray) (listed' := #[true, false, false, false, false, false, false, false, false, false, false]) (by rfl) (by kernel_rfl) (by kernel_rfl) calm_put hS (by rfl) ?_ ?_
                  · intro W hW; skip; exact exec_load_sec _ rfl Sb rfl (secN xv) (secN_len _) (by simpa using Cells.of_block hW.2.1)
                  simp only [Act.put, List.getElem_toArray, List.getElem_cons_succ, List.getElem_cons_zero, List.setIfInBounds_toArray, List.set_cons_zero, List.set_cons_succ]
                  refine wpAnyE_take (i := 1) (v := ?_) (listed' := #[true, true, false, false, false, false, false, false, false, false, false]) (by rfl) (by kernel_rfl) (by kernel_rfl) calm_put hS (by rfl) ?_ ?_
                  rotate_left
                  · intro W hW; clear hW; go_simp; try (with_reducible rfl)
                  simp only [Act.put, List.getElem_toArray, List.getElem_cons_succ, List.getElem_cons_zero, List.setIfInBounds_toArray, List.set_cons_zero, List.set_cons_succ]
                  refine wpAnyE_take (i := 2) (v := ?_) (listed' := #[true, true, true, false, false, false, false, false, false, false, false]) (by rfl) (by kernel_rfl) (by kernel_rfl) calm_put hS (by rfl) ?_ ?_
                  rotate_left
                  · intro W hW; clear hW; go_simp; try (with_reducible rfl)
                  simp only [Act.put, List.getElem_toArray, List.getElem_cons_succ, List.getElem_cons_zero, List.setIfInBounds_toArray, List.set_cons_zero, List.set_cons_succ]
                  refine wpAnyE_take (i := 3) (v := ?_) (listed' := #[true, true, true, true, false, false, false, false, false, false, false]) (by rfl) (by kernel_rfl) (by kernel_rfl) calm_put hS (by rfl) ?_ ?_
                  rotate_left
                  · intro W hW; clear hW; go_simp; try (with_reducible rfl)
                  simp only [Act.put, List.getElem_toArray, List.getElem_cons_succ, List.getElem_cons_zero, List.setIfInBounds_toArray, List.set_cons_zero, List.set_cons_succ]
                  refine wpAnyE_take (i := 4) (v := .int .i64 xv) (listed' := #[true, true, true, true, true, false, false, false, false, false, false]) (by rfl) (by kernel_rfl) (by kernel_rfl) calm_put hS (by rfl) ?_ ?_
                  · intro W hW; skip; have pc := int_app hW.2.2 (k := s) (by omega); rw [HXV.out] at pc; clear hW; go_simp; try (with_reducible rfl)
                  simp only [Act.put, List.getElem_toArray, List.getElem_cons_succ, List.getElem_cons_zero, List.setIfInBounds_toArray, List.set_cons_zero, List.set_cons_succ]
                  refine wpAnyE_one (i := 5) (listed' := #[true, true, true, true, true, true, false, false, false, false, false]) (by rfl) (by kernel_rfl) (by kernel_rfl) (by rfl) (fun K hK => ?_)
                  simp only [Act.put, List.getElem_toArray, List.getElem_cons_succ, List.getElem_cons_zero, List.setIfInBounds_toArray, List.set_cons_zero, List.set_cons_succ]
                  go_wp2_with fail
                  refine Calls.mono (s_sector xv _) ?_
                  rintro e wsec ⟨rfl, hks⟩
                  have hS := (⟨hS.1.trans hks, hks.block hS.2.1, hks.block hS.2.2⟩ : _ ∧ _ ∧ _)
                  clear hks
                  refine hK _ _ (fun _ => hS) ?_; clear hK K
                  refine wpAnyE_take (i := 6) (v := .bool false) (listed' := #[true, true, true, true, true, true, true, false, false, false, false]) (by rfl) (by kernel_rfl) (by kernel_rfl) calm_put hS (by rfl) ?_ ?_
                  · intro W hW; clear hW; exact exec_cmp_secN _ _ rfl (secN xv) (secN_len _) rfl rfl
                  simp only [Act.put, List.getElem_toArray, List.getElem_cons_succ, List.getElem_cons_zero, List.setIfInBounds_toArray, List.set_cons_zero, List.set_cons_succ]
                  refine wpAnyE_take (i := 7) (v := ?_) (listed' := #[true, true, true, true, true, true, true, true, false, false, false]) (by rfl) (by kernel_rfl) (by kernel_rfl) calm_put hS (by rfl) ?_ ?_
                  rotate_left
                  · intro W hW; clear hW; go_simp; try (with_reducible rfl)
                  simp only [Act.put, List.getElem_toArray, List.getElem_cons_succ, List.getElem_cons_zero, List.setIfInBounds_toArray, List.set_cons_zero, List.set_cons_succ]
                  refine wpAnyE_take (i := 8) (v := ?_) (listed' := #[true, true, true, true, true, true, true, true, true, false, false]) (by rfl) (by kernel_rfl) (by kernel_rfl) calm_put hS (by rfl) ?_ ?_
                  rotate_left
                  · intro W hW; clear hW; go_simp; try (with_reducible rfl)
                  simp only [Act.put, List.getElem_toArray, List.getElem_cons_succ, List.getElem_cons_zero, List.setIfInBounds_toArray, List.set_cons_zero, List.set_cons_succ]
                  refine wpAnyE_take (i := 9) (v := ?_) (listed' := #[true, true, true, true, true, true, true, true, true, true, false]) (by rfl) (by kernel_rfl) (by kernel_rfl) calm_put hS (by rfl) ?_ ?_
                  rotate_left
                  · intro W hW; clear hW; go_simp; try (with_reducible rfl)
                  simp only [Act.put, List.getElem_toArray, List.getElem_cons_succ, List.getElem_cons_zero, List.setIfInBounds_toArray, List.set_cons_zero, List.set_cons_succ]
                  refine wpAnyE_take (i := 10) (v := ?_) (listed' := #[true, true, true, true, true, true, true, true, true, true, true]) (by rfl) (by kernel_rfl) (by kernel_rfl) calm_put hS (by rfl) ?_ ?_
                  rotate_left
                  · intro W hW; clear hW; go_simp; try (with_reducible rfl)
                  simp only [Act.put, List.getElem_toArray, List.getElem_cons_succ, List.getElem_cons_zero, List.setIfInBounds_toArray, List.set_cons_zero, List.set_cons_succ]
                  refine wpAnyE_done (by kernel_rfl) ?_ _
                  refine calm_normal ?_
                  have hk2 := hS.1
                  have HB12 := Lib.hid ((HB11.out.kept hk2).1)
                  have HC12 := Lib.hid (Cells.kept HC11.out hk2)
                  have HGL12 := Lib.hid (Nat.lt_of_lt_of_le HGL11.out hk2.size)
                  have HL12 := Lib.hid (hk2.block HL11.out)
                  have HS12 := Lib.hid (hk2.block HS11.out)
                  clear hS
                  clear HB11 HC11 HGL11 HL11 HS11 hk2
                  generalize wsec = w12 at *
                  go_wp2
                  go_roundw
                  case rel => exact ⟨s + 1, hlt, by go_num, Lib.hid (HB12.out.less (fun k hk => by simp at hk ⊢; exact .inr hk)), HC12, HGL12, HL12⟩
                  case measure => simp [intOf]; omega
                · have hlt3 : ¬ (s : Int) < 8 * (m : Int) := by omega
                  go_wp2
                  go_loopw [30] (fun i wr => ∃ (t : Nat), t ≤ 8 ∧ i = .int .i64 t ∧ Hid (BK w (fun k => k ∈ ([g2, g] : List Nat)) wr q T) ∧ Hid (Cells wr g 0 (evals (rowL n))) ∧ Hid (g < wr.heap.size) ∧ Hid (wr.heap[g2]? = some (.cells (ints la ++ sp).toArray 3 (0, 0)))) (fun i _ => 8 - (intOf i).toNat)
                  case atStart => exact ⟨0, Nat.zero_le _, rfl, HB9, HC9, HGL9, HL9⟩
                  case round =>
                    clear hlt hlt3 hs
                    clear HB9 HC9 HGL9 HL9
                    obtain ⟨t, ht, rfl, HB10, HC10, HGL10, HL10⟩ := hrel
                    obtain ⟨w10, hw10⟩ : ∃ w10, w10 = wr := ⟨_, rfl⟩
                    subst hw10
                    by_cases hlt : t < 8
                    · skip
                      have hd8 : decide ((t : Int) < 8) = true := by simp; omega
                      obtain ⟨C, hC⟩ : ∃ C, cont n t (lost_D n la t) = C := ⟨_, rfl⟩
                      have hCS : ∀ c, c < n → IsSec (C c) := fun c hc => by rw [← hC]; exact cont_sec (HDS.out t).1 (HDS.out t).2 hc
                      have hrd : ∀ c, c < n → ¬ (c = f ∧ y2 ≤ τ) → T.read (c : Int) ((c : Int) + (t : Int)) = (C c, 0) := fun c hc hal => by rw [HD.out.plc (by omega) hlt hc, if_neg hal, HH.out t hlt c hc hal, hC]
                      have hall : xorL ((List.range n).map C) = zeroB := by rw [← hC]; exact xorL_all (by omega) (by omega) hlt (HDS.out t).1 (HDS.out t).2
                      have hrb : f < n → _ := fun hf => HD.out.rebuilt (by omega) (by omega) HH.out HDS.out hlt hf
                      rw [hC] at hrb
                      have HCS := Lib.hid hCS; have HRD := Lib.hid hrd; have HALL := Lib.hid hall; have HRB := Lib.hid hrb
                      clear hCS hrd hall hrb hC
                      have HDD : Hid (∀ c, c < n → (T.d c).dead = decide (c = f ∧ y2 ≤ τ)) := Lib.hid HD.out.dead
                      have HTL : Hid (T.l.length = n) := Lib.hid HD.out.live.len
                      go_wp2
                      go_loopw [31, 32, 33] (fun v gl i wr => ∃ (k3 : Nat) (gv : Int), k3 ≤ n ∧ i = .int .i64 k3 ∧ gl = .int .i64 gv ∧ Hid (gv = if f < k3 ∧ y2 ≤ τ then (f : Int) else -1) ∧ Hid (wr.ownsRow w10.heap.size 34 64 v (aliveL C f y2 τ k3).length (secsV (aliveL C f y2 τ k3))) ∧ Hid (Kept w10 wr)) (fun _ _ i _ => n - (intOf i).toNat)
                      case atStart => exact ⟨0, -1, Nat.zero_le _, rfl, rfl, Lib.hid (by rw [if_neg (by omega)]), Lib.hid (World.ownsRow_nil _ _ _ _), Lib.hid (Kept.refl _)⟩
                      case round =>
                        obtain ⟨k3, gv, hk3, rfl, rfl, HG, HO, HK⟩ := hrel
                        obtain ⟨oa', cap', rfl⟩ := ownsRow_form1 HO.out
                        have hal := aliveL_le C f y2 τ k3
                        by_cases hkl : k3 < n
                        · skip
                          have hdead := bk_Dead (HB10.out.kept HK.out).1 (k := k3) (by rw [HTL.out]; exact hkl)
                          rw [HDD.out k3 hkl] at hdead
                          by_cases ha : k3 = f ∧ y2 ≤ τ
                          · have hdt : decide (k3 = f ∧ y2 ≤ τ) = true := by simpa using ha
                            rw [hdt] at hdead
                            have HO2 : Hid (wr.ownsRow w10.heap.size 34 64 (.slice oa' (aliveL C f y2 τ k3).length cap') (aliveL C f y2 τ (k3 + 1)).length (secsV (aliveL C f y2 τ (k3 + 1)))) := Lib.hid (by rw [aliveL_dead C ha]; exact HO.out)
                            have HG2 : Hid ((k3 : Int) = if f < k3 + 1 ∧ y2 ≤ τ then (f : Int) else -1) := Lib.hid (by rw [if_pos ⟨by omega, ha.2⟩, ha.1])
                            clear ha hdt HO HG
                            go_wp2_with fail
                            refine Calls.mono hdead ?_
                            rintro e w' ⟨rfl, rfl⟩
                            clear hdead
                            go_wp2
                            go_roundw
                            case rel => exact ⟨k3 + 1, (k3 : Int), hkl, by go_num, rfl, HG2, HO2, HK⟩
                            case measure => simp [intOf]; omega
                          · have hdt : decide (k3 = f ∧ y2 ≤ τ) = false := by simpa using ha
                            rw [hdt] at hdead
                            have HG2 : Hid (gv = if f < k3 + 1 ∧ y2 ≤ τ then (f : Int) else -1) := Lib.hid (by
                              rw [HG.out]
                              by_cases h1 : f < k3 ∧ y2 ≤ τ
                              · rw [if_pos h1, if_pos ⟨by omega, h1.2⟩]
                              · rw [if_neg h1, if_neg (fun h2 => ha ⟨by omega, h2.2⟩)])
                            have HSU : Hid (aliveL C f y2 τ (k3 + 1) = aliveL C f y2 τ k3 ++ [C k3]) := Lib.hid (aliveL_live C ha)
                            have HRK := Lib.hid (HRD.out k3 hkl ha); have HCK := Lib.hid (HCS.out k3 hkl)
                            clear ha hdt HG
                            go_wp2_with fail
                            refine Calls.mono hdead ?_
                            rintro e w' ⟨rfl, rfl⟩
                            clear hdead
                            go_wp2_with fail
                            refine Calls.mono (st_read (HB10.out.kept HK.out).1 HUT.out (k3 : Int) ((k3 : Int) + (t : Int)) HRK.out) ?_
                            rintro e w5 ⟨rfl, _, hk5⟩
                            have HK5 := Lib.hid (HK.out.trans hk5); have HO5 := Lib.hid (ownsRow_kept HO.out hk5)
                            clear hk5 HK HO HRK
                            generalize C k3 = ck at *
                            go_wp2_with (refine stop_at (o := ⟨some 34, _, _, _, _, _⟩) ?_)
                            refine Stop.mk ?_
                            refine wpList_new_row rfl rfl _ _ rfl rfl ty_sec (u8s zeroB) zero_sec (by rw [u8s_length, zeroB_length]) (u8s ck) rfl (by rw [u8s_length, HCK.out.1]) (u8s_one _) rfl ?_
                            intro w6 hz hs hk6
                            have HX6 := hz; have HK6 := Lib.hid (HK5.out.trans hk6); have HO6 := Lib.hid (ownsRow_kept HO5.out hk6)
                            generalize w5.heap.size = Xb at *
                            clear hz hs hk6 HK5 HO5
                            go_wp2_with (refine stop_at (o := ⟨some 227, _, _, _, _, _⟩) ?_)
                            refine Stop.mk ?_
                            refine wpList_load_agg rfl _ rfl ty_sec Xb 0 rfl (u8s ck) (by simpa using Cells.of_block HX6.out) (by rw [u8s_length, HCK.out.1]) ?_
                            go_wp2_with (refine stop_at (o := ⟨some 228, _, _, _, _, _⟩) ?_)
                            refine Stop.mk ?_
                            refine wpList_secs rfl 1 _ rfl [ck] rfl (by decide) (by decide) (fun s hs => by rw [List.mem_singleton.1 hs]; exact HCK.out.1) (by simp [Act.eval, List.zipIdx, secV]) ?_
                            intro w7 hz hs hk7
                            have HZ7 := hz; have HK7 := Lib.hid (HK6.out.trans hk7); have HO7 := Lib.hid (ownsRow_kept HO6.out hk7)
                            generalize w6.heap.size = G at *
                            clear hz hs hk7 HK6 HO6 HX6
                            go_wp2_with (refine stop_at (o := ⟨some 229, _, _, _, _, _⟩) ?_)
                            refine Stop.mk ?_
                            obtain ⟨ht', ⟨i1, z1, hi, hz, hsz', hby, hzs⟩, hpos⟩ := ty_secsS
                            refine wpList_append_own_wide _ rfl _ _ 58 rfl w10.heap.size 34 i1 z1 64 64 ht' hi hz hsz' hby hzs (by decide) _ (aliveL C f y2 τ k3).length (secsV (aliveL C f y2 τ k3)) rfl HO7.out ⟨G, 0, none⟩ 1 1 (u8s (ck)) rfl (by rw [u8s_length, HCK.out.1]) (fun j' u hu => by
                              have h1 := cell_of_row w7 G j' _ _ _ HZ7.out
                              rw [Addr.add_mid, Nat.zero_add, h1]
                              simpa [secsV] using hu) (u8s_one _) (by have : maxLen = 9223372036854775807 := rfl; omega) (by omega) HK7.out.size ?_
                            intro v9 w9 hown hgrow _
                            have HK9 : Hid (Kept w10 w9) := Lib.hid (HK7.out.grown hgrow (fun j ej => row_ge HO7.out ej))
                            have HO9 : Hid (w9.ownsRow w10.heap.size 34 64 v9 (aliveL C f y2 τ (k3 + 1)).length (secsV (aliveL C f y2 τ (k3 + 1)))) := Lib.hid (by rw [HSU.out, List.length_append]; rw [show secsV (aliveL C f y2 τ k3 ++ [ck]) = secsV (aliveL C f y2 τ k3) ++ u8s ck by simp [secsV]]; exact hown)
                            clear hown hgrow HK7 HO7 HZ7 ht' hi hz hsz' hby hzs hpos HSU
                            go_wp2
                            go_roundw
                            case rel => exact ⟨k3 + 1, gv, hkl, by go_num, rfl, HG2, HO9, HK9⟩
                            case measure => simp [intOf]; omega
                        · have hkn : k3 = n := by omega
                          have hkl2 : ¬ (k3 : Int) < (n : Int) := by omega
                          have hk2 := HK.out
                          have HB11 := Lib.hid ((HB10.out.kept hk2).1)
                          have HC11 := Lib.hid (Cells.kept HC10.out hk2)
                          have HGL11 := Lib.hid (Nat.lt_of_lt_of_le HGL10.out hk2.size)
                          have HL11 := Lib.hid (hk2.block HL10.out)
                          by_cases hdd : f < n ∧ y2 ≤ τ
                          · skip
                            have hgv : gv = (f : Int) := by have := HG.out; rw [if_pos ⟨by omega, hdd.2⟩] at this; exact this
                            subst hgv
                            obtain ⟨b1, b2, b3⟩ := HRB.out hdd.1
                            have hA : aliveL C f y2 τ k3 = ((List.range n).filter fun c => decide (c ≠ f)).map C := by rw [hkn]; exact aliveL_all C hdd.2
                            rw [hA] at HO hal ⊢
                            generalize hLL : ((List.range n).filter fun c => decide (c ≠ f)).map C = LL at *
                            have HLS : Hid (∀ s ∈ LL, IsSec s) := Lib.hid (fun s hs => by rw [← hLL] at hs; obtain ⟨c, hc, rfl⟩ := List.mem_map.1 hs; exact HCS.out c (List.mem_range.1 (List.mem_filter.1 hc).1))
                            generalize hrv : xorL LL = rv at *
                            have HB1 := Lib.hid b1; have HB2 := Lib.hid b2; have HB3 := Lib.hid b3; have HF := Lib.hid hdd.1
                            have hfg : ¬ (f : Int) < 0 := by omega
                            clear b1 b2 b3 hA hrv hLL hdd HG hkl HK
                            have HO5 := HO; have HK5 := Lib.hid hk2
                            clear HO hk2
                            go_wp2_with fail
                            have hc := st_Rebuilt HB11.out HUT.out (HES.out _ HC11.out HGL11.out) HNR.out (by rw [rowL_len]; omega) f t (by rw [rowL_len]; omega) hlt (by rw [rowL_len]; exact HF.out)
                            rw [HB1.out] at hc
                            refine Calls.mono hc ?_
                            rintro e wq ⟨rfl, hkq⟩
                            have HKq := Lib.hid (HK5.out.trans hkq); have HOq := Lib.hid (ownsRow_kept HO5.out hkq)
                            clear hkq hc HK5 HO5
                            go_wp2_with (refine stop_at (o := ⟨some 36, _, _, _, _, _⟩) ?_)
                            refine Stop.mk ?_
                            refine wpList_new_row rfl rfl _ _ rfl rfl ty_sec (u8s zeroB) zero_sec (by rw [u8s_length, zeroB_length]) (u8s rv) rfl (by rw [u8s_length, HB2.out.1]) (u8s_one _) rfl ?_
                            intro w6 hz hs hk6
                            have HX6 := hz; have HK6 := Lib.hid (HKq.out.trans hk6); have HO6 := Lib.hid (ownsRow_kept HOq.out hk6)
                            generalize wq.heap.size = Xb at *
                            clear hz hs hk6 HKq HOq
                            go_wp2_with (refine stop_at (o := ⟨some 243, _, _, _, _, _⟩) ?_)
                            refine Stop.mk ?_
                            refine wpList_load_agg rfl _ rfl ty_sec Xb 0 rfl (u8s rv) (by simpa using Cells.of_block HX6.out) (by rw [u8s_length, HB2.out.1]) ?_
                            go_wp2_with (refine stop_at (o := ⟨some 244, _, _, _, _, _⟩) ?_)
                            refine Stop.mk ?_
                            refine wpList_secs rfl 1 _ rfl [rv] rfl (by decide) (by decide) (fun s hs => by rw [List.mem_singleton.1 hs]; exact HB2.out.1) (by simp [Act.eval, List.zipIdx, secV]) ?_
                            intro w7 hz hs hk7
                            have HZ7 := hz; have HK7 := Lib.hid (HK6.out.trans hk7); have HO7 := Lib.hid (ownsRow_kept HO6.out hk7)
                            generalize w6.heap.size = G at *
                            clear hz hs hk7 HK6 HO6 HX6
                            go_wp2_with (refine stop_at (o := ⟨some 245, _, _, _, _, _⟩) ?_)
                            refine Stop.mk ?_
                            obtain ⟨ht', ⟨i1, z1, hi, hz, hsz', hby, hzs⟩, hpos⟩ := ty_secsS
                            refine wpList_append_own_wide _ rfl _ _ 58 rfl w10.heap.size 34 i1 z1 64 64 ht' hi hz hsz' hby hzs (by decide) _ LL.length (secsV LL) rfl HO7.out ⟨G, 0, none⟩ 1 1 (u8s (rv)) rfl (by rw [u8s_length, HB2.out.1]) (fun j' u hu => by
                              have h1 := cell_of_row w7 G j' _ _ _ HZ7.out
                              rw [Addr.add_mid, Nat.zero_add, h1]
                              simpa [secsV] using hu) (u8s_one _) (by have : maxLen = 9223372036854775807 := rfl; omega) (by omega) HK7.out.size ?_
                            intro v9 w9 hown hgrow _
                            have HK9 : Hid (Kept w10 w9) := Lib.hid (HK7.out.grown hgrow (fun j ej => row_ge HO7.out ej))
                            have HSL9 : Hid (SecSl w9 v9 (LL ++ [rv])) := Lib.hid (sl_of_owns hown (by simp [secsV]) (fun s hs => (secs_of HLS.out HB2.out s hs).1))
                            clear hown hgrow HK7 HO7 HZ7 ht' hi hz hsz' hby hzs hpos
                            go_wp2_with fail
                            have hc := parity_Check HSL9.out (secs_of HLS.out HB2.out) (by rw [List.length_append, List.length_singleton]; omega)
                            rw [HB3.out] at hc
                            refine Calls.mono hc ?_
                            rintro e wx ⟨rfl, hkx⟩
                            have hkz : Kept w10 wx := HK9.out.trans hkx
                            clear hkx hc
                            have HBx := Lib.hid (HB10.out.kept hkz).1; have HCx := Lib.hid (Cells.kept HC10.out hkz); have HGLx := Lib.hid (Nat.lt_of_lt_of_le HGL10.out hkz.size); have HLx := Lib.hid (hkz.block HL10.out)
                            clear hkz
                            go_wp2
                            go_roundw
                            case rel => exact ⟨t + 1, hlt, by go_num, HBx, HCx, HGLx, HLx⟩
                            case measure => simp [intOf]; omega
                          · skip
                            have hgv : gv = -1 := by have := HG.out; rw [if_neg (fun h => hdd ⟨by omega, h.2⟩)] at this; exact this
                            subst hgv
                            have hA : aliveL C f y2 τ k3 = (List.range n).map C := by rw [hkn]; exact aliveL_none C (fun c hc h => hdd ⟨by omega, h.2⟩)
                            rw [hA] at HO hal ⊢
                            generalize hLL : (List.range n).map C = LL at *
                            have HLS : Hid (∀ s ∈ LL, IsSec s) := Lib.hid (fun s hs => by rw [← hLL] at hs; obtain ⟨c, hc, rfl⟩ := List.mem_map.1 hs; exact HCS.out c (List.mem_range.1 hc))
                            have HSL9 : Hid (SecSl wr _ LL) := Lib.hid (sl_of_owns HO.out rfl (fun s hs => (HLS.out s hs).1))
                            clear hA hLL hdd HG hkl HO
                            go_wp2_with fail
                            have hc := parity_Check HSL9.out HLS.out (by omega)
                            rw [HALL.out] at hc
                            refine Calls.mono hc ?_
                            rintro e wx ⟨rfl, hkx⟩
                            have hkz : Kept w10 wx := hk2.trans hkx
                            clear hkx hc
                            have HBx := Lib.hid (HB10.out.kept hkz).1; have HCx := Lib.hid (Cells.kept HC10.out hkz); have HGLx := Lib.hid (Nat.lt_of_lt_of_le HGL10.out hkz.size); have HLx := Lib.hid (hkz.block HL10.out)
                            clear hkz
                            go_wp2
                            go_roundw
                            case rel => exact ⟨t + 1, hlt, by go_num, HBx, HCx, HGLx, HLx⟩
                            case measure => simp [intOf]; omega
                    · have ht8 : t = 8 := by omega
                      subst ht8
                      have HKZ := Lib.hid HB10.out.keeps
                      go_wp2
                      go_ret
                      exact ⟨rfl, HKZ.out⟩
end
end Go.Proofs.Ytkcemkphehocgaa
