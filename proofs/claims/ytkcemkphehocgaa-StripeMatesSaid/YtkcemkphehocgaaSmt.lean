/- StripeMates: plain part and walk. -/
import Derived.Test.YtkcemkphehocgaaSto
import Derived.Test.YtkcemkphehocgaaSpg
import Derived.Test.YtkcemkphehocgaaIsr
namespace Go.Proofs.Ytkcemkphehocgaa
open Go.RowKit
set_option linter.unusedVariables false
set_option linter.unusedSimpArgs false

/-- the place of the k-th extent -/
def mVal (ps : List Int) (k : Nat) : Int := if h : k < ps.length then ps[k] % 1024 else 7
theorem mVal_in {ps : List Int} {k : Nat} (h : k < ps.length) {y : Nat} (hy : bits .and .i64 ps[k] 1023 = (y : Int)) : mVal ps k = (y : Int) := by
  unfold mVal
  rw [dif_pos h, ← hy]
  exact (i64_and_mask ps[k] 10 (by decide)).symm
theorem mVal_out {ps : List Int} {k : Nat} (h : ¬ k < ps.length) : mVal ps k = 7 := by unfold mVal; rw [dif_neg h]
theorem mVal_bd (ps : List Int) (k : Nat) : 0 ≤ mVal ps k ∧ mVal ps k < 1024 := by
  unfold mVal
  split <;> omega
def mExt (ps : List Int) (n : Nat) : List (Int × Int) := (List.range n).map fun (k : Nat) => ((k : Int), mVal ps k)
theorem mExt_len (ps : List Int) (n : Nat) : (mExt ps n).length = n := by simp [mExt]
theorem mExt_succ (ps : List Int) (k : Nat) : evals (mExt ps (k + 1)) = evals (mExt ps k) ++ [.int .i64 (k : Int), .int .i64 (mVal ps k)] := by
  simp [mExt, List.range_succ, evals]
theorem mExt_at (ps : List Int) {n k : Nat} (h : k < n) : (mExt ps n).getD k (0, 0) = ((k : Int), mVal ps k) := by
  rw [List.getD_eq_getElem?_getD, mExt, List.getElem?_map, List.getElem?_range h]; rfl
theorem mExt_near (ps : List Int) {n : Nat} (h : n ≤ 12) : Near (mExt ps n) := ⟨by rw [mExt_len]; omega, fun k hk => by
  rw [mExt_len] at hk
  have := mVal_bd ps k
  rw [mExt_at ps hk]
  exact ⟨by show (-1000000 : Int) ≤ mVal ps k; omega, by show mVal ps k ≤ 1000000; omega⟩⟩
theorem mExt_inj (ps : List Int) {n : Nat} : ∀ t i j, i < n → j < n → plcAt (mExt ps n) t i = plcAt (mExt ps n) t j → i = j := fun t i j hi hj h => by
  unfold plcAt at h
  rw [mExt_at ps hi, mExt_at ps hj] at h
  have := congrArg Prod.fst h
  simp only at this
  omega
theorem smates_facts {L : List (Int × Int)} {s m : Nat} (hL : L.length = m + 1) (hm : 1 ≤ m) (hs : s < 8 * m) (hinj : ∀ t i j, i < L.length → j < L.length → plcAt L t i = plcAt L t j → i = j) :
    ∃ (t j kk : Nat) (DA DK : List (Int × Int)) (p q : Int × Int), t < 8 ∧ j < m ∧ kk < L.length ∧ (s : Int) / (m : Int) = (t : Int) ∧ (s : Int) % (m : Int) = (j : Int) ∧ homeX L (s : Int) = (p, 0) ∧ parityX L (t : Int) = (q, 0) ∧
      splitX L.length (s : Int) = ((t : Int), (kk : Int), 0) ∧ dataS L t (-1) = DA ∧ dataS L t (kk : Int) = DK ∧ plcAt L t (holdN L.length t) = q ∧ DA.length = m ∧ DK.length + 1 = m ∧ DA.getD j (0, 0) = p ∧ DA.take j ++ DA.drop (j + 1) = DK ∧ p ≠ q := by
  have hn : L.length - 1 = m := by omega
  have hj : s % m < m := Nat.mod_lt _ (by omega)
  have ht : s / m < 8 := by rw [Nat.div_lt_iff_lt_mul (by omega)]; exact hs
  have hk : slotK L.length (s / m) (s % m) < L.length := slotK_lt (by omega)
  have hsp : splitX L.length (s : Int) = (((s / m : Nat) : Int), ((slotK L.length (s / m) (s % m) : Nat) : Int), 0) := by
    have := split_slotN (n := L.length) (s := s) (by omega) (by omega)
    rw [hn] at this; exact this
  have hda : (dataS L (s / m) (-1)).length = m := by rw [dataS_len (by omega), hn]
  have hsk := dataS_skip (L := L) (s / m) (j := s % m) (by omega)
  refine ⟨s / m, s % m, slotK L.length (s / m) (s % m), _, _, plcAt L (s / m) (slotK L.length (s / m) (s % m)), _, ht, hj, hk, (Int.natCast_ediv s m).symm, (Int.natCast_emod s m).symm, ?_, ?_, hsp, rfl, rfl, rfl, hda, ?_, ?_, ?_, fun e => slotK_ne L.length (s / m) (s % m) (hinj _ _ _ hk (holdN_lt (by omega) _) e)⟩
  · unfold homeX
    rw [hsp]
    simp only [if_true, Int.toNat_natCast]
  · unfold parityX
    have hr : rightX L.length ((s / m : Nat) : Int) = 0 := by
      generalize s / m = t at ht
      unfold rightX
      rw [if_neg (by omega), if_neg (by omega)]
    rw [hr, if_pos rfl, Int.toNat_natCast]
  · rw [hsk, List.length_eraseIdx, if_pos (by omega)]; omega
  · have := dataS_at (L := L) (by omega) (s / m) (j := s % m) (by omega)
    rw [List.getD_eq_getElem?_getD, this]; rfl
  · rw [hsk, List.eraseIdx_eq_take_drop_succ]
theorem ty_extA : AggT Try.prog 83 2 := ⟨⟨_, Try.underlying83, rfl⟩, by kernel_rfl⟩
theorem zero_extA (w : World) : (zeroValue 83).run Try.prog w = .ok (.agg [.int .i64 0, .int .i64 0].toArray) w := by kernel_rfl
theorem owns_lt {W : World} {base e size n : Nat} {v : Value} {xs : List Value} (h : W.ownsRow base e size v n xs) {g : Nat} (hg : v.ownBlock = some g) : g < W.heap.size := by
  rcases h.2 with ⟨rfl, _⟩ | ⟨g', cap, cur, rfl, _, hh, _⟩
  · simp [Value.ownBlock] at hg
  · simp only [Value.ownBlock, Option.some.injEq] at hg
    subst hg
    exact (Array.getElem?_eq_some_iff.1 hh).1
theorem eprefix {W : World} {g : Nat} {H : List (Int × Int)} (h : Cells W g 0 (evals H)) (k : Nat) : Cells W g 0 (evals (H.take k)) := by
  have e : evals H = evals (H.take k) ++ evals (H.drop k) := by rw [← evals_append, List.take_append_drop]
  intro j hj
  have h1 := h j (by rw [e, List.length_append]; omega)
  rw [h1]
  congr 1
  simp only [e]
  rw [List.getElem_append_left hj]
theorem esuffix {W : World} {g : Nat} {H : List (Int × Int)} (h : Cells W g 0 (evals H)) (k : Nat) (hk : k ≤ H.length) : Cells W g (k * 2) (evals (H.drop k)) := by
  have e : evals H = evals (H.take k) ++ evals (H.drop k) := by rw [← evals_append, List.take_append_drop]
  have hl : (evals (H.take k)).length = k * 2 := by rw [evals_length, List.length_take]; omega
  intro j hj
  have h1 := h (k * 2 + j) (by rw [e, List.length_append, hl]; omega)
  rw [Nat.zero_add] at h1
  rw [h1]
  congr 1
  simp only [e]
  rw [List.getElem_append_right (by omega)]
  simp only [hl, Nat.add_sub_cancel_left]
theorem esuffix_src {W : World} {g cap : Nat} {H : List (Int × Int)} (h : Cells W g 0 (evals H)) {k : Nat} (hk : k < H.length) (hc : H.length ≤ cap) :
    Src W 2 (.slice (if cap = k + 1 then some ⟨g, 0, none⟩ else some ⟨g, (k + 1) * 2, none⟩) (H.length - (k + 1)) (cap - (k + 1))) (H.length - (k + 1)) (evals (H.drop (k + 1))) := by
  have hl : (evals (H.drop (k + 1))).length = (H.length - (k + 1)) * 2 := by rw [evals_length, List.length_drop]
  by_cases e : cap = k + 1
  · rw [if_pos e]
    have hd : H.drop (k + 1) = [] := List.drop_eq_nil_of_le (by omega)
    exact Src.of_cells (by rw [hd]; intro j hj; simp [evals] at hj) hl (by omega)
  · rw [if_neg e]
    exact Src.of_cells (esuffix h (k + 1) (by omega)) hl (by omega)
theorem ESl.spliced {w6 w7 w8 : World} {base e : Nat} {v6 v7 v8 : Value} {D : List (Int × Int)} {j : Nat} (hj : j < D.length)
    (hA8 : App w8 base e 2 v8 (0 + j + (D.length - (j + 1))) ([] ++ evals (D.take j) ++ evals (D.drop (j + 1))))
    (hown7 : (0 < j ∨ w6.ownsRow base e 2 v6 0 []) → w7.ownsRow base e 2 v7 (0 + j) ([] ++ evals (D.take j)))
    (hown8 : (0 < D.length - (j + 1) ∨ w7.ownsRow base e 2 v7 (0 + j) ([] ++ evals (D.take j))) → w8.ownsRow base e 2 v8 (0 + j + (D.length - (j + 1))) ([] ++ evals (D.take j) ++ evals (D.drop (j + 1)))) :
    ESl w8 v8 (D.take j ++ D.drop (j + 1)) := by
  have hl : (D.take j ++ D.drop (j + 1)).length = 0 + j + (D.length - (j + 1)) := by simp; omega
  have he : [] ++ evals (D.take j) ++ evals (D.drop (j + 1)) = evals (D.take j ++ D.drop (j + 1)) := by rw [evals_append]; rfl
  rw [he] at hA8 hown8
  by_cases h : 0 < j ∨ 0 < D.length - (j + 1)
  · refine ESl.of_owns hl.symm (hown8 ?_)
    rcases h with h | h
    · exact .inr (hown7 (.inl h))
    · exact .inl h
  · have h0 : 0 + j + (D.length - (j + 1)) = 0 := by omega
    rw [h0] at hA8
    rw [h0] at hl
    obtain ⟨oa, cap, rfl⟩ : ∃ oa cap, v8 = .slice oa 0 cap := by
      rcases hA8 with ha | ⟨_, ao, rfl, _⟩
      · exact ownsRow_form1 ha
      · exact ⟨_, _, rfl⟩
    exact ⟨oa, cap, by rw [hl], fun k hk => by omega⟩
theorem plc_of_cells {W : World} {g : Nat} {H : List (Int × Int)} (h : Cells W g 0 (evals H)) {k : Nat} {p : Int × Int} (hk : H[k]? = some p) : Cells W g (k * 2) [.int .i64 p.1, .int .i64 p.2] := by
  obtain ⟨hl, e⟩ := List.getElem?_eq_some_iff.1 hk
  obtain ⟨h1, h2⟩ := evals_at H k hl
  have e0 : H.getD k (0, 0) = p := by rw [List.getD_eq_getElem?_getD, hk]; rfl
  rw [e0] at h1 h2
  intro j hj
  have hj2 : j < 2 := hj
  have : j = 0 ∨ j = 1 := by omega
  rcases this with rfl | rfl
  · obtain ⟨a, b⟩ := List.getElem?_eq_some_iff.1 h1
    have := h _ a
    rw [Nat.zero_add, b] at this
    exact this
  · obtain ⟨a, b⟩ := List.getElem?_eq_some_iff.1 h2
    have := h _ a
    rw [Nat.zero_add, b] at this
    exact this
theorem getElem?_of_getD {α : Type} {l : List α} {k : Nat} {d x : α} (h : k < l.length) (e : l.getD k d = x) : l[k]? = some x := by
  rw [List.getD_eq_getElem?_getD, List.getElem?_eq_getElem h] at e
  rw [List.getElem?_eq_getElem h]
  exact congrArg some e
section
variable {w : World}
set_option maxHeartbeats 4000000
set_option maxRecDepth 100000
theorem law_smates (a0 : Int) (v : Value) (ps : List Int) (w : World) (hs : ISrc w v ps) : Calls Try.prog 8 #[.int .i64 a0, v] w fun e w' => e = .returned (.bool true) ∧ Kept w w' := by
  have HSL := Lib.hid hs
  obtain ⟨oap, capp, rfl, _⟩ := hs
  obtain ⟨y, hy, _⟩ := and_low a0 16 (by decide) (m := 65535) (by decide)
  obtain ⟨m, hn, hm1, hm2⟩ : ∃ m : Nat, (2 : Int) + (y : Int) % 11 = ((m + 1 : Nat) : Int) ∧ 1 ≤ m ∧ m ≤ 11 := ⟨1 + y % 11, by omega, by omega, by omega⟩
  obtain ⟨n, hnm⟩ : ∃ n, n = m + 1 := ⟨_, rfl⟩
  rw [← hnm] at hn
  have hn2 : 2 ≤ n := by omega
  have hn12 : n ≤ 12 := by omega
  have hnm1 : (n : Int) - 1 = (m : Int) := by omega
  have HNM := Lib.hid hnm
  have hnge : m < n := by omega
  have hnle : n ≤ m + 1 := by omega
  have HSLOT := Lib.hid fun W => (st_Slots (n : Int) (by omega) (by omega) W)
  clear hnm
  go_enter Try.func8, Try.ntmps8
  go_wp2_with fail
  refine Calls.mono (law_shown13 _) ?_
  rintro e w1 ⟨rfl, hk1⟩
  have HK1 := Lib.hid hk1
  clear hk1
  go_wp2
  try simp only [hn]
  clear hn hy
  go_loopw [6, 7] (fun v i wr => ∃ k : Nat, k ≤ n ∧ i = .int .i64 k ∧ Hid (wr.ownsRow w1.heap.size 83 2 v k (evals (mExt ps k))) ∧ Hid (Kept w1 wr)) (fun _ i _ => n - (intOf i).toNat)
  case atStart => exact ⟨0, Nat.zero_le _, rfl, Lib.hid (World.ownsRow_nil _ _ _ _), Lib.hid (Kept.refl _)⟩
  case round =>
    obtain ⟨k, hk, rfl, HO, HK⟩ := hrel
    obtain ⟨oa', cap', rfl⟩ := ownsRow_form1 HO.out
    by_cases hlt : k < n
    · skip
      have HMS : Hid (evals (mExt ps (k + 1)) = evals (mExt ps k) ++ [.int .i64 (k : Int), .int .i64 (mVal ps k)]) := Lib.hid (mExt_succ ps k)
      go_wp2_with (refine stop_at (o := ⟨some 8, _, _, _, _, _⟩) ?_)
      refine Stop.mk ?_
      refine wpList_new_row rfl rfl _ _ rfl rfl ty_extA _ zero_extA rfl [.int .i64 (k : Int), .int .i64 7] rfl rfl (one_plc _ _) rfl ?_
      intro w3 hz hs hk3
      have HX3 := hz; have HK3 := Lib.hid (HK.out.trans hk3); have HO3 := Lib.hid (ownsRow_kept HO.out hk3)
      have HGE := Lib.hid HK.out.size
      have HNE : Hid (∀ g, Value.ownBlock (.slice oa' k cap') = some g → g ≠ wr.heap.size) := Lib.hid (fun g hg e => by have := owns_lt HO.out hg; omega)
      generalize wr.heap.size = Xb at *
      clear hz hs hk3 HK HO
      by_cases hin : k < ps.length
      · skip
        obtain ⟨b, off, e, hcell⟩ := HSL.out.at k hin
        subst e
        have pc := (HK1.out.trans HK3.out).cell' hcell
        clear hcell
        obtain ⟨y, hy, hyl⟩ := and_low ps[k] 10 (by decide) (m := 1023) (by decide)
        have HMV : Hid (mVal ps k = (y : Int)) := Lib.hid (mVal_in hin hy)
        generalize ps[k] = pk at *
        go_wp2_with (refine stop_at (o := ⟨none, .store _ _ _, _, _, _, _⟩) ?_)
        refine Stop.mk ?_
        try simp only [hy]
        refine wpList_set_cell rfl _ _ rfl size_int Xb 1 rfl (.int .i64 (y : Int)) rfl rfl rfl _ _ HX3.out (by simp) ?_
        intro w4 hw
        have HX4 : Hid (w4.heap[Xb]? = some (.cells [Value.int .i64 (k : Int), .int .i64 (y : Int)].toArray 83 (0, 0))) := Lib.hid hw.blk
        have HO4 := Lib.hid (own_same HO3.out (fun g hg => hw.oth g (HNE.out g hg)))
        have HK4 : Hid (Kept w1 w4) := Lib.hid (hw.kept HK3.out HGE.out)
        clear hw HX3 HO3 HK3 hy hyl pc
        go_wp2_with (refine stop_at (o := ⟨some 43, _, _, _, _, _⟩) ?_)
        refine Stop.mk ?_
        refine wpList_load_agg rfl _ rfl ty_extA Xb 0 rfl [.int .i64 (k : Int), .int .i64 ((y : Int))] (by simpa using Cells.of_block HX4.out) rfl ?_
        go_wp2_with (refine stop_at (o := ⟨some 45, _, _, _, _, _⟩) ?_)
        refine Stop.mk ?_
        obtain ⟨ht', ⟨i1, z1, hi, hz, hsz', hby, hzs⟩, hpos⟩ := ty_extsS
        refine wpList_append_own_wide _ rfl _ _ 74 rfl w1.heap.size 83 i1 z1 2 16 ht' hi hz hsz' hby hzs (by decide) _ k (evals (mExt ps k)) rfl (HO4.out.alloc _) ⟨w4.heap.size, 0, none⟩ 1 1 [.int .i64 (k : Int), .int .i64 ((y : Int))] rfl rfl (two_new _ _ _ _) (evals_one [((k : Int), (y : Int))]) (by have : maxLen = 9223372036854775807 := rfl; omega) (by omega) (by have := HK4.out.size; rw [World.size_alloc]; omega) ?_
        intro v9 w9 hown hgrow _
        have HK9 : Hid (Kept w1 w9) := Lib.hid ((HK4.out.alloc _).grown hgrow (fun j ej => row_ge HO4.out ej))
        have HO9 : Hid (w9.ownsRow w1.heap.size 83 2 v9 (k + 1) (evals (mExt ps (k + 1)))) := Lib.hid (by rw [HMS.out, HMV.out]; exact hown)
        clear hown hgrow HK4 HO4 HX4 ht' hi hz hsz' hby hzs hpos HMS
        go_wp2
        go_roundw
        case rel => exact ⟨k + 1, hlt, by go_num, HO9, HK9⟩
        case measure => simp [intOf]; omega
      · have HMV : Hid (mVal ps k = 7) := Lib.hid (mVal_out hin)
        have HX4 := HX3; have HO4 := HO3; have HK4 := HK3
        clear HX3 HO3 HK3
        obtain ⟨w4, hw4⟩ : ∃ w4, w4 = w3 := ⟨_, rfl⟩
        subst hw4
        go_wp2_with (refine stop_at (o := ⟨some 43, _, _, _, _, _⟩) ?_)
        refine Stop.mk ?_
        refine wpList_load_agg rfl _ rfl ty_extA Xb 0 rfl [.int .i64 (k : Int), .int .i64 (7)] (by simpa using Cells.of_block HX4.out) rfl ?_
        go_wp2_with (refine stop_at (o := ⟨some 45, _, _, _, _, _⟩) ?_)
        refine Stop.mk ?_
        obtain ⟨ht', ⟨i1, z1, hi, hz, hsz', hby, hzs⟩, hpos⟩ := ty_extsS
        refine wpList_append_own_wide _ rfl _ _ 74 rfl w1.heap.size 83 i1 z1 2 16 ht' hi hz hsz' hby hzs (by decide) _ k (evals (mExt ps k)) rfl (HO4.out.alloc _) ⟨w4.heap.size, 0, none⟩ 1 1 [.int .i64 (k : Int), .int .i64 (7)] rfl rfl (two_new _ _ _ _) (evals_one [((k : Int), 7)]) (by have : maxLen = 9223372036854775807 := rfl; omega) (by omega) (by have := HK4.out.size; rw [World.size_alloc]; omega) ?_
        intro v9 w9 hown hgrow _
        have HK9 : Hid (Kept w1 w9) := Lib.hid ((HK4.out.alloc _).grown hgrow (fun j ej => row_ge HO4.out ej))
        have HO9 : Hid (w9.ownsRow w1.heap.size 83 2 v9 (k + 1) (evals (mExt ps (k + 1)))) := Lib.hid (by rw [HMS.out, HMV.out]; exact hown)
        clear hown hgrow HK4 HO4 HX4 ht' hi hz hsz' hby hzs hpos HMS
        go_wp2
        go_roundw
        case rel => exact ⟨k + 1, hlt, by go_num, HO9, HK9⟩
        case measure => simp [intOf]; omega
    · have hkn : k = n := by omega
      have ho := HO.out
      have hkk := HK1.out.trans HK.out
      obtain ⟨g, cg, hse, hg1, hg2, hC, hgc⟩ := row_form ho (by omega)
      cases hse
      have hle : n ≤ k := by omega
      have HES : Hid (∀ W : World, Cells W g 0 (evals (mExt ps k)) → g < W.heap.size → ESl W (.slice (some ⟨g, 0, none⟩) k cap') (mExt ps k)) := Lib.hid fun W h1 h2 => by
        have := ESl.of_cells (L := mExt ps k) (cap := cap') h2 h1
        rw [mExt_len] at this
        exact this
      have HC2 := Lib.hid hC; have HGL2 := Lib.hid hg2; have HK2 := Lib.hid hkk
      have HLN : Hid ((mExt ps k).length = n) := Lib.hid (by rw [mExt_len]; exact hkn)
      have HML : Hid (mExt ps k = mExt ps n) := Lib.hid (by rw [hkn])
      clear ho hkk hg1 hg2 hC HO HK hkn hlt
      have hnr := mExt_near ps (n := n) (by omega)
      have hpn := mExt_inj ps (n := n)
      have hlen := HLN.out
      have HC3 := HC2; clear HC2
      rw [HML.out] at hlen
      have hes := HES.out
      have hcc := HC3.out
      rw [HML.out] at hcc
      simp only [HML.out] at hes
      generalize mExt ps n = L at *
      have HNR := Lib.hid hnr; have HPN := Lib.hid hpn; have HLN2 := Lib.hid hlen; have HES2 := Lib.hid hes; have HC2 := Lib.hid hcc
      clear hnr hpn hlen hes hcc HML HLN HES HC3
      have HES := HES2; clear HES2; have HLN := HLN2; clear HLN2
      obtain ⟨w2, hw2⟩ : ∃ w2, w2 = wr := ⟨_, rfl⟩
      subst hw2
      have hdn : decide (k < n) = false := by simp; omega
      have hdn2 : decide ((k : Int) < (n : Int)) = false := by simp; omega
      go_wp2
      go_loopw [9] (fun i wr => ∃ (s : Nat), s ≤ 8 * m ∧ i = .int .i64 s ∧ Hid (Cells wr g 0 (evals L)) ∧ Hid (g < wr.heap.size) ∧ Hid (Kept w wr)) (fun i _ => 8 * m - (intOf i).toNat)
      case atStart => exact ⟨0, Nat.zero_le _, rfl, HC2, HGL2, HK2⟩
      case round =>
        clear HC2 HGL2 HK2
        obtain ⟨s, hs, rfl, HC3, HGL3, HK3⟩ := hrel
        obtain ⟨w3, hw3⟩ : ∃ w3, w3 = wr := ⟨_, rfl⟩
        subst hw3
        have hsl := HSLOT.out w3
        rw [if_neg (show ¬ (n : Int) < 2 by omega), hnm1] at hsl
        go_wp2_with fail
        refine Calls.mono hsl ?_
        rintro e w' ⟨rfl, rfl⟩
        clear hsl
        by_cases hlt : s < 8 * m
        · skip
          have hlt2 : (s : Int) < 8 * (m : Int) := by omega
          obtain ⟨t, j, kk, DA, DK, ⟨px, py⟩, ⟨qx, qy⟩, htd, hjd, hkd, hdv, hmd, hhm, hpm, hsp, hDA, hDK, hq, hdl, hdk, hdj, hrst, hpq⟩ := smates_facts (L := L) (s := s) (m := m) (by rw [HLN.out]; have := HNM.out; omega) hm1 hlt (by rw [HLN.out]; exact HPN.out)
          have hhome := fun W (he : ESl W (.slice (some ⟨g, 0, none⟩) k cap') L) => st_Home he HNR.out (s : Int)
          rw [hhm] at hhome
          have hpar := fun W (he : ESl W (.slice (some ⟨g, 0, none⟩) k cap') L) => st_Parity he HNR.out (t : Int)
          rw [hpm] at hpar
          have hmt := fun W (he : ESl W (.slice (some ⟨g, 0, none⟩) k cap') L) => st_Mates he HNR.out (s : Int) (by rw [hsp]) t kk (by rw [HLN.out]; omega) htd hkd hsp
          simp only [hDK, hq, hdk] at hmt
          have hdt := fun W (he : ESl W (.slice (some ⟨g, 0, none⟩) k cap') L) => st_Data he HNR.out (by rw [HLN.out]; omega) t htd
          simp only [hDA, hdl] at hdt
          have hjd2 : (j : Int) < (m : Int) := by omega
          obtain ⟨m1, hm1e⟩ : ∃ m1, m = m1 + 1 := ⟨m - 1, by omega⟩
          have HM1 := Lib.hid hm1e
          have hm1a : m1 < m := by omega
          have hm1b : m ≤ m1 + 1 := by omega
          have hnm2 : (n : Int) - 2 = (m1 : Int) := by omega
          clear hm1e
          have HHM := Lib.hid hhome; have HPM := Lib.hid hpar; have HMT := Lib.hid hmt; have HDT := Lib.hid hdt; have HPQ := Lib.hid hpq; have HDL := Lib.hid hdl; have HDK := Lib.hid hdk; have HDJ := Lib.hid hdj; have HRS := Lib.hid hrst; have HMD := Lib.hid hmd
          clear hhome hpar hmt hdt hpq hdl hdk hdj hrst hmd hhm hpm hsp hDA hDK hq
          go_wp2_with fail
          refine Calls.mono (HHM.out _ (HES.out _ HC3.out HGL3.out)) ?_
          rintro e w4 ⟨rfl, hk⟩
          have HC4 := Lib.hid (Cells.kept HC3.out hk)
          have HGL4 := Lib.hid (Nat.lt_of_lt_of_le HGL3.out hk.size)
          have HK4 := Lib.hid (HK3.out.trans hk)
          clear HC3 HGL3 HK3 hk HHM
          go_wp2_with (refine stop_at (o := ⟨some 10, _, _, _, _, _⟩) ?_)
          refine Stop.mk ?_
          refine wpList_new_row rfl rfl _ _ rfl rfl ty_plc _ zero_plc rfl [.int .i64 (px), .int .i64 (py)] rfl rfl (one_plc _ _) rfl ?_
          intro w5 hz hs hk
          have HP5 := hz
          have HC5 := Lib.hid (Cells.kept HC4.out hk)
          have HGL5 := Lib.hid (Nat.lt_of_lt_of_le HGL4.out hk.size)
          have HK5 := Lib.hid (HK4.out.trans hk)
          generalize w4.heap.size = Pb at *
          clear HC4 HGL4 HK4 hz hs hk 
          go_wp2_with fail
          refine Calls.mono (HMT.out _ (HES.out _ HC5.out HGL5.out)) ?_
          rintro e w6 ⟨r1, rfl, hrow, hk2⟩
          obtain ⟨g3, c3, rfl, _, hg3, hC3, hc3⟩ := row_form hrow (by omega)
          have HC6 := Lib.hid (Cells.kept HC5.out hk2)
          have HGL6 := Lib.hid (Nat.lt_of_lt_of_le HGL5.out hk2.size)
          have HK6 := Lib.hid (HK5.out.trans hk2)
          have HP6 := Lib.hid (hk2.block HP5.out)
          have HM6 := Lib.hid hC3; have HMG6 := Lib.hid hg3
          clear HC5 HGL5 HK5 HP5 hk2 hrow hC3 hg3 HMT
          go_wp2_with fail
          try simp only [hdv]
          refine Calls.mono (HDT.out _ (HES.out _ HC6.out HGL6.out)) ?_
          rintro e w7 ⟨r2, rfl, hrow, hk2⟩
          obtain ⟨g4, c4, rfl, _, hg4, hC4, hc4⟩ := row_form hrow (by omega)
          have HC7 := Lib.hid (Cells.kept HC6.out hk2)
          have HGL7 := Lib.hid (Nat.lt_of_lt_of_le HGL6.out hk2.size)
          have HK7 := Lib.hid (HK6.out.trans hk2)
          have HP7 := Lib.hid (hk2.block HP6.out)
          have HM7 := Lib.hid (Cells.kept HM6.out hk2)
          have HMG7 := Lib.hid (Nat.lt_of_lt_of_le HMG6.out hk2.size)
          have HD7 := Lib.hid hC4; have HDG7 := Lib.hid hg4
          clear HC6 HGL6 HK6 HP6 HM6 HMG6 hk2 hrow hC4 hg4 HDT
          go_wp2_with fail
          try simp only [hdv]
          refine Calls.mono (HPM.out _ (HES.out _ HC7.out HGL7.out)) ?_
          rintro e w8 ⟨rfl, hk⟩
          have HC8 := Lib.hid (Cells.kept HC7.out hk)
          have HGL8 := Lib.hid (Nat.lt_of_lt_of_le HGL7.out hk.size)
          have HK8 := Lib.hid (HK7.out.trans hk)
          have HP8 := Lib.hid (hk.block HP7.out)
          have HM8 := Lib.hid (Cells.kept HM7.out hk)
          have HMG8 := Lib.hid (Nat.lt_of_lt_of_le HMG7.out hk.size)
          have HD8 := Lib.hid (Cells.kept HD7.out hk)
          have HDG8 := Lib.hid (Nat.lt_of_lt_of_le HDG7.out hk.size)
          clear HC7 HGL7 HK7 HP7 HM7 HMG7 HD7 HDG7 hk HPM hdv
          go_wp2_with (refine stop_at (o := ⟨some 16, _, _, _, _, _⟩) ?_)
          refine Stop.mk ?_
          refine wpList_new_row rfl rfl _ _ rfl rfl ty_plc _ zero_plc rfl [.int .i64 (qx), .int .i64 (qy)] rfl rfl (one_plc _ _) rfl ?_
          intro w9 hz hs hk
          have HQ9 := hz
          have HC9 := Lib.hid (Cells.kept HC8.out hk)
          have HGL9 := Lib.hid (Nat.lt_of_lt_of_le HGL8.out hk.size)
          have HK9 := Lib.hid (HK8.out.trans hk)
          have HP9 := Lib.hid (hk.block HP8.out)
          have HM9 := Lib.hid (Cells.kept HM8.out hk)
          have HMG9 := Lib.hid (Nat.lt_of_lt_of_le HMG8.out hk.size)
          have HD9 := Lib.hid (Cells.kept HD8.out hk)
          have HDG9 := Lib.hid (Nat.lt_of_lt_of_le HDG8.out hk.size)
          generalize w8.heap.size = Qb at *
          clear HC8 HGL8 HK8 HP8 HM8 HMG8 HD8 HDG8 hz hs hk 
          have cm : Cells w9 g3 (m1 * 2) [.int .i64 qx, .int .i64 qy] := plc_of_cells HM9.out (k := m1) (p := (qx, qy)) (by have := HDK.out; have := HM1.out; rw [show m1 = DK.length by omega]; simp)
          have cd : Cells w9 g4 (j * 2) [.int .i64 px, .int .i64 py] := plc_of_cells HD9.out (k := j) (p := (px, py)) (getElem?_of_getD (by rw [HDL.out]; exact hjd) HDJ.out)
          have cp : Cells w9 Pb 0 [.int .i64 px, .int .i64 py] := by simpa using Cells.of_block HP9.out
          have cq : Cells w9 Qb 0 [.int .i64 qx, .int .i64 qy] := by simpa using Cells.of_block HQ9.out
          have HCM := Lib.hid cm; have HCD := Lib.hid cd; have HCP := Lib.hid cp; have HCQ := Lib.hid cq
          clear cm cd cp cq
          go_upto_region 18 with fail
          have hwm : IntKind.i64.wrap (m : Int) = (m : Int) := IntWalk.i64_in _ (by omega)
          have hwm1 : IntKind.i64.wrap (m1 : Int) = (m1 : Int) := IntWalk.i64_in _ (by omega)
          have hmd := HMD.out
          have htm : (s : Int).tmod (m : Int) = (j : Int) := by rw [Int.tmod_eq_emod_of_nonneg (by omega)]; exact hmd
          have hm0 : ¬ m = 0 := by omega
          have hmz : ((m : Int) == 0) = false := by rw [beq_eq_false_iff_ne]; omega
          have hmz1 : ((m : Int) == -1) = false := by rw [beq_eq_false_iff_ne]; omega
          refine wp_still_all (by kernel_rfl) (by kernel_rfl) fun ws hks hhs => ?_
          have dm := Cells.kept HCM.out hks; have dd := Cells.kept HCD.out hks; have dp := Cells.kept HCP.out hks; have dq := Cells.kept HCQ.out hks
          have HCM2 := Lib.hid dm; have HCD2 := Lib.hid dd; have HCP2 := Lib.hid dp; have HCQ2 := Lib.hid dq
          clear dm dd dp dq HCM HCD HCP HCQ
          have HC10 := Lib.hid (Cells.kept HC9.out hks)
          have HGL10 := Lib.hid (Nat.lt_of_lt_of_le HGL9.out hks.size)
          have HK10 := Lib.hid (HK9.out.trans hks)
          have HP10 := Lib.hid (hks.block HP9.out)
          have HM10 := Lib.hid (Cells.kept HM9.out hks)
          have HMG10 := Lib.hid (Nat.lt_of_lt_of_le HMG9.out hks.size)
          have HD10 := Lib.hid (Cells.kept HD9.out hks)
          have HDG10 := Lib.hid (Nat.lt_of_lt_of_le HDG9.out hks.size)
          have HQ10 := Lib.hid (hks.block HQ9.out)
          clear HC9 HGL9 HK9 HP9 HM9 HMG9 HD9 HDG9 HQ9 hks hhs
          generalize ws = w10 at *
          iterate 33 still_step
          refine still_load_agg rfl _ rfl ty_plc g3 (m1 * 2) rfl _ HCM2.out rfl ?_
          refine still_load_agg rfl _ rfl ty_plc Qb 0 rfl _ HCQ2.out rfl ?_
          refine still_neq_plc rfl _ _ rfl qx qy qx qy rfl rfl false (by simp) ?_
          iterate 8 still_step
          refine still_load_agg rfl _ rfl ty_plc g4 (j * 2) rfl _ HCD2.out rfl ?_
          refine still_load_agg rfl _ rfl ty_plc Pb 0 rfl _ HCP2.out rfl ?_
          refine still_neq_plc rfl _ _ rfl px py px py rfl rfl false (by simp) ?_
          iterate 1 still_step
          refine wpStill_nil ?_
          clear HCM2 HCD2 HCP2 HCQ2
          go_upto_region 20 with fail
          have hj3 : j < DA.length := by rw [HDL.out]; exact hjd
          have hmc4 : DA.length ≤ c4 := by rw [HDL.out]; exact hc4
          have hjw : IntKind.i64.wrap ((j : Int) + 1) = (j : Int) + 1 := IntWalk.i64_in _ (by omega)
          have hjt : ((j : Int) + 1).toNat = j + 1 := by omega
          obtain ⟨ax, hax⟩ : ∃ ax : Option Addr, ax = if c4 = j + 1 then some ⟨g4, 0, none⟩ else some ⟨g4, (j + 1) * 2, none⟩ := ⟨_, rfl⟩
          have HAX := Lib.hid hax; clear hax
          have hS : True := trivial
          refine wp_region_calm ?_
          refine wp_region_E (fun _ => True) 100 (by kernel_rfl) ?_
          refine wpAnyE_take (i := 1) (v := ?_) (listed' := #[false, true, false, false, false, false, false, false, false, false, false, false, false, false, false, false, false]) (by rfl) (by kernel_rfl) (by kernel_rfl) calm_put hS (by rfl) ?_ ?_
          rotate_left
          · intro W hW; clear hW; go_simp; try (with_reducible rfl)
          simp only [Act.put, List.getElem_toArray, List.getElem_cons_succ, List.getElem_cons_zero, List.setIfInBounds_toArray, List.set_cons_zero, List.set_cons_succ]
          refine wpAnyE_take (i := 2) (v := ?_) (listed' := #[false, true, true, false, false, false, false, false, false, false, false, false, false, false, false, false, false]) (by rfl) (by kernel_rfl) (by kernel_rfl) calm_put hS (by rfl) ?_ ?_
          rotate_left
          · intro W hW; clear hW; go_simp; try (with_reducible rfl)
          simp only [Act.put, List.getElem_toArray, List.getElem_cons_succ, List.getElem_cons_zero, List.setIfInBounds_toArray, List.set_cons_zero, List.set_cons_succ]
          refine wpAnyE_take (i := 3) (v := ?_) (listed' := #[false, true, true, true, false, false, false, false, false, false, false, false, false, false, false, false, false]) (by rfl) (by kernel_rfl) (by kernel_rfl) calm_put hS (by rfl) ?_ ?_
          rotate_left
          · intro W hW; clear hW; go_simp; try (with_reducible rfl)
          simp only [Act.put, List.getElem_toArray, List.getElem_cons_succ, List.getElem_cons_zero, List.setIfInBounds_toArray, List.set_cons_zero, List.set_cons_succ]
          refine wpAnyE_take (i := 4) (v := ?_) (listed' := #[false, true, true, true, true, false, false, false, false, false, false, false, false, false, false, false, false]) (by rfl) (by kernel_rfl) (by kernel_rfl) calm_put hS (by rfl) ?_ ?_
          rotate_left
          · intro W hW; clear hW; go_simp; try (with_reducible rfl)
          simp only [Act.put, List.getElem_toArray, List.getElem_cons_succ, List.getElem_cons_zero, List.setIfInBounds_toArray, List.set_cons_zero, List.set_cons_succ]
          refine wpAnyE_take (i := 5) (v := ?_) (listed' := #[false, true, true, true, true, true, false, false, false, false, false, false, false, false, false, false, false]) (by rfl) (by kernel_rfl) (by kernel_rfl) calm_put hS (by rfl) ?_ ?_
          rotate_left
          · intro W hW; clear hW; go_simp; try (with_reducible rfl)
          simp only [Act.put, List.getElem_toArray, List.getElem_cons_succ, List.getElem_cons_zero, List.setIfInBounds_toArray, List.set_cons_zero, List.set_cons_succ]
          refine wpAnyE_take (i := 6) (v := ?_) (listed' := #[false, true, true, true, true, true, true, false, false, false, false, false, false, false, false, false, false]) (by rfl) (by kernel_rfl) (by kernel_rfl) calm_put hS (by rfl) ?_ ?_
          rotate_left
          · intro W hW; clear hW; go_simp; first | (with_reducible rfl) | (rw [if_pos (show j ≤ c4 by omega)]) | skip
          simp only [Act.put, List.getElem_toArray, List.getElem_cons_succ, List.getElem_cons_zero, List.setIfInBounds_toArray, List.set_cons_zero, List.set_cons_succ]
          refine wpAnyE_take (i := 8) (v := ?_) (listed' := #[false, true, true, true, true, true, true, false, true, false, false, false, false, false, false, false, false]) (by rfl) (by kernel_rfl) (by kernel_rfl) calm_put hS (by rfl) ?_ ?_
          rotate_left
          · intro W hW; clear hW; go_simp; try (with_reducible rfl)
          simp only [Act.put, List.getElem_toArray, List.getElem_cons_succ, List.getElem_cons_zero, List.setIfInBounds_toArray, List.set_cons_zero, List.set_cons_succ]
          refine wpAnyE_take (i := 9) (v := ?_) (listed' := #[false, true, true, true, true, true, true, false, true, true, false, false, false, false, false, false, false]) (by rfl) (by kernel_rfl) (by kernel_rfl) calm_put hS (by rfl) ?_ ?_
          rotate_left
          · intro W hW; clear hW; go_simp; try (with_reducible rfl)
          simp only [Act.put, List.getElem_toArray, List.getElem_cons_succ, List.getElem_cons_zero, List.setIfInBounds_toArray, List.set_cons_zero, List.set_cons_succ]
          refine wpAnyE_take (i := 10) (v := ?_) (listed' := #[false, true, true, true, true, true, true, false, true, true, true, false, false, false, false, false, false]) (by rfl) (by kernel_rfl) (by kernel_rfl) calm_put hS (by rfl) ?_ ?_
          rotate_left
          · intro W hW; clear hW; go_simp; try (with_reducible rfl)
          simp only [Act.put, List.getElem_toArray, List.getElem_cons_succ, List.getElem_cons_zero, List.setIfInBounds_toArray, List.set_cons_zero, List.set_cons_succ]
          refine wpAnyE_take (i := 11) (v := ?_) (listed' := #[false, true, true, true, true, true, true, false, true, true, true, true, false, false, false, false, false]) (by rfl) (by kernel_rfl) (by kernel_rfl) calm_put hS (by rfl) ?_ ?_
          rotate_left
          · intro W hW; clear hW; go_simp; try (with_reducible rfl)
          simp only [Act.put, List.getElem_toArray, List.getElem_cons_succ, List.getElem_cons_zero, List.setIfInBounds_toArray, List.set_cons_zero, List.set_cons_succ]
          refine wpAnyE_take (i := 12) (v := ?_) (listed' := #[false, true, true, true, true, true, true, false, true, true, true, true, true, false, false, false, false]) (by rfl) (by kernel_rfl) (by kernel_rfl) calm_put hS (by rfl) ?_ ?_
          rotate_left
          · intro W hW; clear hW; go_simp; try (with_reducible rfl)
          simp only [Act.put, List.getElem_toArray, List.getElem_cons_succ, List.getElem_cons_zero, List.setIfInBounds_toArray, List.set_cons_zero, List.set_cons_succ]
          refine wpAnyE_take (i := 13) (v := ?_) (listed' := #[false, true, true, true, true, true, true, false, true, true, true, true, true, true, false, false, false]) (by rfl) (by kernel_rfl) (by kernel_rfl) calm_put hS (by rfl) ?_ ?_
          rotate_left
          · intro W hW; clear hW; go_simp; try (with_reducible rfl)
          simp only [Act.put, List.getElem_toArray, List.getElem_cons_succ, List.getElem_cons_zero, List.setIfInBounds_toArray, List.set_cons_zero, List.set_cons_succ]
          refine wpAnyE_take (i := 14) (v := ?_) (listed' := #[false, true, true, true, true, true, true, false, true, true, true, true, true, true, true, false, false]) (by rfl) (by kernel_rfl) (by kernel_rfl) calm_put hS (by rfl) ?_ ?_
          rotate_left
          · intro W hW; clear hW; go_simp; first | (with_reducible rfl) | (rw [if_pos (show (0 : Int) ≤ (j : Int) + 1 ∧ (j : Int) + 1 ≤ (m : Int) from ⟨by omega, by omega⟩), ← HAX.out]) | trace_state
          simp only [Act.put, List.getElem_toArray, List.getElem_cons_succ, List.getElem_cons_zero, List.setIfInBounds_toArray, List.set_cons_zero, List.set_cons_succ]
          refine wpAnyE_one (i := 0) (listed' := #[true, true, true, true, true, true, true, false, true, true, true, true, true, true, true, false, false]) (by rfl) (by kernel_rfl) (by kernel_rfl) (by rfl) (fun K hK => ?_)
          simp only [Act.put, List.getElem_toArray, List.getElem_cons_succ, List.getElem_cons_zero, List.setIfInBounds_toArray, List.set_cons_zero, List.set_cons_succ]
          go_wp2_with fail
          refine hK _ _ (fun _ => trivial) ?_; clear hK K
          have hk6 : Kept w10 (w10.alloc (Obj.cells #[] 32)).drew := ((Kept.refl w10).alloc _).drew
          generalize (w10.alloc (Obj.cells #[] 32)).drew = w6 at *
          refine wpAnyE_one (i := 7) (listed' := #[true, true, true, true, true, true, true, true, true, true, true, true, true, true, true, false, false]) (by rfl) (by kernel_rfl) (by kernel_rfl) (by rfl) (fun K hK => ?_)
          simp only [Act.put, List.getElem_toArray, List.getElem_cons_succ, List.getElem_cons_zero, List.setIfInBounds_toArray, List.set_cons_zero, List.set_cons_succ]
          refine wp_append_app _ _ (by rfl) ty_places2 w6.heap.size _ 0 [] (by rfl) (.inr ⟨rfl, _, rfl, by simp, by simp⟩) _ j (evals (DA.take j)) (by rfl) (Src.of_cells (eprefix (Cells.kept HD10.out hk6) j) (by rw [evals_length, List.length_take]; omega) (by omega)) (evals_one _) (by simp only [maxLen]; omega) (by omega) (Nat.le_refl _) ?_
          intro v7 w7 hA7 _ hb7 hown7
          have hk7 : Kept w6 w7 := hb7
          refine hK _ _ (fun _ => trivial) ?_; clear hK K
          refine wpAnyE_one (i := 15) (listed' := #[true, true, true, true, true, true, true, true, true, true, true, true, true, true, true, true, false]) (by rfl) (by kernel_rfl) (by kernel_rfl) (by rfl) (fun K hK => ?_)
          simp only [Act.put, List.getElem_toArray, List.getElem_cons_succ, List.getElem_cons_zero, List.setIfInBounds_toArray, List.set_cons_zero, List.set_cons_succ]
          refine wp_append_app _ _ (by rfl) ty_places2 w6.heap.size _ (0 + j) _ (by rfl) hA7 _ (m - (j + 1)) (evals (DA.drop (j + 1))) (by rfl) (by rw [HAX.out]; have hsf := esuffix_src (Cells.kept HD10.out (hk6.trans hk7)) hj3 hmc4; rw [HDL.out] at hsf; exact hsf) (evals_one _) (by simp only [maxLen]; omega) (by omega) hk7.size ?_
          intro v8 w8 hA8 _ hb8 hown8
          have hk8 : Kept w10 w8 := Kept.below (hk6.trans hk7) hk6.size hb8
          have HREST : Hid (ESl w8 v8 DK) := Lib.hid (by have := ESl.spliced hj3 (by rw [HDL.out]; exact hA8) hown7 (by rw [HDL.out]; exact hown8); rw [HRS.out] at this; exact this)
          refine hK _ _ (fun _ => trivial) ?_; clear hK K
          refine wpAnyE_one (i := 16) (listed' := #[true, true, true, true, true, true, true, true, true, true, true, true, true, true, true, true, true]) (by rfl) (by kernel_rfl) (by kernel_rfl) (by rfl) (fun K hK => ?_)
          simp only [Act.put, List.getElem_toArray, List.getElem_cons_succ, List.getElem_cons_zero, List.setIfInBounds_toArray, List.set_cons_zero, List.set_cons_succ]
          go_wp2
          refine hK _ _ (fun _ => hS) ?_; clear hK K
          refine wpAnyE_done (by kernel_rfl) ?_ _
          refine calm_normal ?_
          clear hA7 hA8 hb7 hb8 hown7 hown8 hk6 hk7 hj3 hmc4 hjw hjt HAX
          have HC11 := Lib.hid (Cells.kept HC10.out hk8)
          have HGL11 := Lib.hid (Nat.lt_of_lt_of_le HGL10.out hk8.size)
          have HK11 := Lib.hid (HK10.out.trans hk8)
          have HP11 := Lib.hid (hk8.block HP10.out)
          have HM11 := Lib.hid (Cells.kept HM10.out hk8)
          have HMG11 := Lib.hid (Nat.lt_of_lt_of_le HMG10.out hk8.size)
          have HD11 := Lib.hid (Cells.kept HD10.out hk8)
          have HDG11 := Lib.hid (Nat.lt_of_lt_of_le HDG10.out hk8.size)
          have HQ11 := Lib.hid (hk8.block HQ10.out)
          clear hk8
          clear HC10 HGL10 HK10 HP10 HM10 HMG10 HD10 HDG10 HQ10 
          obtain ⟨w11, hw11⟩ : ∃ w11, w11 = w8 := ⟨_, rfl⟩
          subst hw11
          have hsm : ESl w11 (.slice (some ⟨g3, 0, none⟩) m1 c3) DK := by
            have h1 := ESl.of_cells (L := DK) (cap := c3) HMG11.out (fun j hj => by
              have h2 := HM11.out j (by rw [evals_append, List.length_append]; omega)
              rw [h2]; congr 1; simp only [evals_append]; rw [List.getElem_append_left hj])
            rw [show DK.length = m1 by have := HDK.out; have := HM1.out; omega] at h1
            exact h1
          have hdl12 : DK.length ≤ 100000 := by have := HDK.out; omega
          have hcs := ref_Same HREST.out hsm hdl12 hdl12
          rw [show decide (DK = DK) = true by simp] at hcs
          have HCS := Lib.hid hcs
          have hm1c : m1 ≤ c3 := by omega
          clear hcs hsm hdl12
          go_wp2_with fail
          refine Calls.mono HCS.out ?_
          rintro e w12 ⟨rfl, hk⟩
          have HC12 := Lib.hid (Cells.kept HC11.out hk)
          have HGL12 := Lib.hid (Nat.lt_of_lt_of_le HGL11.out hk.size)
          have HK12 := Lib.hid (HK11.out.trans hk)
          have HP12 := Lib.hid (hk.block HP11.out)
          have HM12 := Lib.hid (Cells.kept HM11.out hk)
          have HMG12 := Lib.hid (Nat.lt_of_lt_of_le HMG11.out hk.size)
          have HD12 := Lib.hid (Cells.kept HD11.out hk)
          have HDG12 := Lib.hid (Nat.lt_of_lt_of_le HDG11.out hk.size)
          have HQ12 := Lib.hid (hk.block HQ11.out)
          clear HC11 HGL11 HK11 HP11 HM11 HMG11 HD11 HDG11 HQ11 hk HCS
          have HPE : Hid ((px == qx && py == qy) = false) := Lib.hid ((Bool.not_eq_true' _).mp (plc_beq_f HPQ.out))
          go_wp2_with (refine stop_at (o := ⟨some 155, _, _, _, _, _⟩) ?_)
          refine Stop.mk ?_
          refine wpList_load_aggW _ rfl ty_plc Pb 0 rfl [.int .i64 px, .int .i64 py] (by simpa using Cells.of_block HP12.out) rfl (by rfl) ?_
          go_wp2_with (refine stop_at (o := ⟨some 156, _, _, _, _, _⟩) ?_)
          refine Stop.mk ?_
          refine wpList_load_aggW _ rfl ty_plc Qb 0 rfl [.int .i64 qx, .int .i64 qy] (by simpa using Cells.of_block HQ12.out) rfl (by rfl) ?_
          go_wp2_with (refine stop_at (o := ⟨some 157, _, _, _, _, _⟩) ?_)
          refine Stop.mk ?_
          refine wpList_eq_plc rfl _ _ rfl px py qx qy rfl rfl false HPE.out ?_
          go_wp2
          go_roundw
          case rel => exact ⟨s + 1, hlt, by go_num, HC12, HGL12, HK12⟩
          case measure => simp [intOf]; omega
        · have hlt2 : ¬ (s : Int) < 8 * (m : Int) := by omega
          go_wp2
          go_ret
          exact ⟨rfl, HK3.out⟩
end
end Go.Proofs.Ytkcemkphehocgaa
