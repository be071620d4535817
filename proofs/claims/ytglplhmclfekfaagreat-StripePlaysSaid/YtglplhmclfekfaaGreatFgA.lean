/- FgA: several texts in one: Spg Sra Srb Srm Srf. -/
import Derived.Test.YtglplhmclfekfaaGreatSpl
import Derived.Test.YtglplhmclfekfaaGreatSto
import Derived.ProofKit
import Derived.OpenShut
import Derived.ChangeOld
import Derived.Deep.Slices
import Derived.Deep.Fields
import Derived.Test.YtglplhmclfekfaaGreatGro
import Derived.Test.YtglplhmclfekfaaGreatSti
/- Rules for the walks of laws over stripes. -/
namespace Go.Proofs.YtglplhmclfekfaaGreat
open Go.RowKit
set_option linter.unusedVariables false
set_option linter.unusedSimpArgs false

section
variable {P : Program} {ops : Array Oper} {Q : Exit → Act → World → Prop} {md : Region.Mode} {S : World → Prop} {s : Nat}
/-- Just one may come up, and its guard says no. -/
theorem wpAnyE_none {i : Nat} {oi : Oper} {fuel : Nat} {listed listed' : Array Bool} {a : Act} {w : World} (hi : ops[i]? = some oi) (hr : Region.ready md ops listed = [i]) (hl : listed.setIfInBounds i true = listed')
    (hw : Region.wanted oi (yielded ops a.tmps) = false) (hS : i ≠ s → S w) (h : wpAnyE P md ops Q S s fuel listed' (a.put oi.dst undef) w) : wpAnyE P md ops Q S s (fuel + 1) listed a w := by
  subst hl
  refine ⟨fun h0 => (by rw [h0] at hr; cases hr), fun j hj => ?_⟩
  rw [hr] at hj
  obtain rfl : j = i := by simpa using hj
  unfold wpOp
  simp only [hi, hw, Bool.false_eq_true, if_false]
  exact ⟨hS, h⟩
end
theorem row_form {W : World} {base e size n : Nat} {v : Value} {xs : List Value} (h : W.ownsRow base e size v n xs) (hn : n ≠ 0) : ∃ g c, v = .slice (some ⟨g, 0, none⟩) n c ∧ base ≤ g ∧ g < W.heap.size ∧ Cells W g 0 xs ∧ n ≤ c := by
  rcases owns_form h with ⟨_, h0, _⟩ | ⟨g, c, rfl, hb, _, hc, hcs⟩
  · exact absurd h0 hn
  · obtain ⟨_, _, _, e2, _, hh, _⟩ := h.2.resolve_left (fun h => by omega)
    cases e2
    exact ⟨g, c, rfl, hb, (Array.getElem?_eq_some_iff.1 hh).1, hcs, hc⟩
theorem exec_zero_sec {W : World} {a : Act} {o : Oper} (ho : o.op = .build 43 #[]) : (execOp a.eval o).run Tryz.prog W = .ok (.value (.agg (u8s zeroB).toArray)) W := by
  have hr : ∀ w : World, (Instr.build 43 #[]).run Tryz.prog w = .ok (.agg (u8s zeroB).toArray) w := fun w => run_build w 43 #[] (u8s zeroB).toArray (by kernel_rfl)
  unfold execOp
  simp only [ho, List.map_toArray, List.map_nil, Sem.run_bind, hr, Result.andThen_ok, Sem.run_pure]
theorem secs_secsV (l : List (List Int)) : secs l = secsV l := by
  simp only [secs, secsV, u8s, List.map_flatten, List.flatMap]; rfl
theorem wpList_make_secs {ops : Array Oper} {rest : List Oper} {o : Oper} {a : Act} {w : World} {Q : Exit → Act → World → Prop} (hgd : Region.wanted o (yielded ops a.tmps) = true) (x y : Operand) (ho : o.op = .makeSlice 56 x y) (n : Nat) (hn : n ≤ 4096) (hx : a.eval x = .int .i64 (n : Int)) (hy : a.eval y = .int .i64 (n : Int))
    (h : ∀ w1, Hid (w1.heap[w.heap.size]? = some (.cells (secsV (List.replicate n zeroB)).toArray 43 (0, 0))) → w.heap.size < w1.heap.size → Kept w w1 → wpList Tryz.prog ops Q rest (a.put o.dst (.slice (some ⟨w.heap.size, 0, none⟩) n n)) w1) : wpList Tryz.prog ops Q (o :: rest) a w := by
  refine BigFrame.wpList_want hgd fun K hK => ?_
  have h1 := secs_info
  cases hi : Tryz.prog.info? 43 with
  | none => simp [hi] at h1
  | some i =>
    simp only [hi, Option.map_some, Option.some.injEq, Prod.mk.injEq] at h1
    have hr := run_make (P := Tryz.prog) w 56 43 i _ Tryz.underlying56 hi h1.1 .i64 .i64 n n (by omega) (Int.le_refl _) (by rw [h1.2.2]; omega) (by omega)
    have h5 : madeCells (Value.agg (List.replicate 64 (.int .u8 0)).toArray).cells (n * i.size) = (secsV (List.replicate n zeroB)).toArray := by
      rw [h1.2.1, ← secs_secsV, secs_zero]
      exact made_const (by decide) (fun i h => by have h' : i < (List.replicate 64 (Value.int IntKind.u8 0)).length := h; exact (List.getElem_replicate h')) _
    simp only [Int.toNat_natCast, h5] at hr
    unfold Oper.wp execOp
    simp only [ho, hx, hy, Sem.run_bind, hr, Result.andThen_ok, Sem.run_pure]
    exact hK _ _ (h _ (Lib.hid (heap_alloc_new w _)) (by simp) ((Kept.refl _).alloc _))
theorem near_row {n : Nat} (h : n ≤ 12) : Near (rowL n) := ⟨by rw [rowL_len]; omega, fun k hk => by
  rw [rowL_len] at hk
  have : (rowL n).getD k (0, 0) = ((k : Int), (k : Int)) := by rw [List.getD_eq_getElem?_getD, rowL, List.getElem?_map, List.getElem?_range hk]; rfl
  rw [this]; exact ⟨by show (-1000000 : Int) ≤ (k : Int); omega, by show (k : Int) ≤ 1000000; omega⟩⟩
theorem split_slotN {n s : Nat} (h2 : 2 ≤ n) (hs : s < 8 * (n - 1)) : splitX n (s : Int) = (((s / (n - 1) : Nat) : Int), ((slotK n (s / (n - 1)) (s % (n - 1)) : Nat) : Int), 0) := by
  unfold splitX
  rw [if_neg (by omega), if_neg (by omega), Int.toNat_natCast]
theorem home_row {n s : Nat} (h2 : 2 ≤ n) (hs : s < 8 * (n - 1)) : homeX (rowL n) (s : Int) = ((((slotK n (s / (n - 1)) (s % (n - 1)) : Nat) : Int), ((slotK n (s / (n - 1)) (s % (n - 1)) : Nat) : Int) + ((s / (n - 1) : Nat) : Int)), 0) := by
  have hk := slotK_lt (w := n) (t := s / (n - 1)) (Nat.mod_lt s (show 0 < n - 1 by omega))
  unfold homeX
  rw [rowL_len, split_slotN h2 hs]
  simp only [if_true, Int.toNat_natCast]
  rw [rowL_plc _ hk]
end Go.Proofs.YtglplhmclfekfaaGreat
/- The document's stripes in memory: stripe, at, Holder, Parity, Data, All, Home, Mates. -/
namespace Go.Proofs.YtglplhmclfekfaaGreat
open Go.RowKit
set_option linter.unusedVariables false
set_option linter.unusedSimpArgs false

section
variable {w : World}
set_option maxHeartbeats 2000000
set_option maxRecDepth 100000
theorem rf_at {v : Value} {L : List (Int × Int)} (h : ESl w v L) (hN : Near L) {k : Nat} (hk : k < L.length) (t : Nat) (ht : t ≤ 1000) :
    Calls Tryz.prog 69 #[v, .int .i64 (k : Int), .int .i64 (t : Int)] w fun e w' => e = .returned (.agg #[.int .i64 (plcAt L t k).1, .int .i64 (plcAt L t k).2]) ∧ Kept w w' := by
  obtain ⟨oa, cap, rfl, hat⟩ := h
  obtain ⟨b, off, rfl, hb, p0, p1⟩ := hat k hk
  obtain ⟨n1, n2⟩ := hN
  obtain ⟨b1, b2⟩ := n2 k hk
  unfold plcAt
  clear hat n2
  generalize (L.getD k (0, 0)).1 = x at *
  generalize (L.getD k (0, 0)).2 = y at *
  go_enter Tryz.func69, Tryz.ntmps69
  go_wp2_with (refine stop_at (o := ⟨some 6, _, _, _, _, _⟩) ?_)
  refine Stop.mk ?_
  refine wpList_alloc_abs rfl 47 rfl [.int .i64 0, .int .i64 0] zero_plc ?_
  intro w1 hz hs hn hk1
  have HR1 := hz; have HK1 := Lib.hid hk1
  have q0 := hk1.cell' p0; have q1 := hk1.cell' p1
  have HRW := Lib.hid (Nat.le_refl w.heap.size)
  generalize hR : w.heap.size = R at HR1 HRW hs hn hb ⊢
  have HRE := Lib.hid hR
  clear hz hs hn hk1 hR p0 p1
  go_wp2
  refine wp_still_tail 13 (by kernel_rfl) (by kernel_rfl) fun ws hks hhs => ?_
  have r0 := hks.cell' q0; have r1 := hks.cell' q1
  have HR2 := Lib.hid (hks.block HR1.out); have HK2 := Lib.hid (HK1.out.trans hks)
  clear hks hhs q0 q1 HR1 HK1
  simp only [List.take_succ_cons, List.take_zero, List.drop_succ_cons, List.drop_zero]
  iterate 13 still_step
  refine wpStill_nil ?_
  have hwr : IntKind.i64.wrap (y + (t : Int)) = y + (t : Int) := by rw [IntKind.wrap_i64]; omega
  simp only [hwr]
  refine wpList_store_agg rfl _ _ rfl ty_plc R 0 rfl [.int .i64 x, .int .i64 (y + (t : Int))] rfl rfl (one_plc _ _) _ _ HR2.out (by decide) ?_
  intro w3 hw
  replace hw := hw.all rfl
  have HK3 := Lib.hid (hw.kept HK2.out (by have := HRE.out; omega))
  have HW := Lib.hid hw
  clear hw
  go_wp2
  refine bodyPost_ret (results_plc1 rfl _ _ R x (y + (t : Int)) rfl HW.out.cells) rfl ?_
  exact ⟨rfl, HK3.out⟩
theorem rf_stripe (oa : Option Addr) (n cap : Nat) (hn : n ≤ 1000) (t : Int) (w : World) :
    Calls Tryz.prog 73 #[.slice oa n cap, .int .i64 t] w fun e w' => e = .returned (.int .i64 (rightX n t)) ∧ w = w' := by
  unfold rightX
  by_cases h : n < 2
  · rw [if_pos h]
    go_enter Tryz.func73, Tryz.ntmps73
    go_wp2
    go_ret
    exact ⟨rfl, rfl⟩
  · rw [if_neg h]
    by_cases h2 : t < 0
    · rw [if_pos (.inl h2)]
      go_enter Tryz.func73, Tryz.ntmps73
      go_wp2
      go_ret
      exact ⟨rfl, rfl⟩
    · by_cases h3 : 8 ≤ t
      · rw [if_pos (.inr h3)]
        go_enter Tryz.func73, Tryz.ntmps73
        go_wp2
        go_ret
        exact ⟨rfl, rfl⟩
      · rw [if_neg (by omega)]
        go_enter Tryz.func73, Tryz.ntmps73
        go_wp2
        go_ret
        exact ⟨rfl, rfl⟩
theorem rf_Holder (oa : Option Addr) (n t cap : Nat) (h1 : 1 ≤ n) (h2 : n ≤ 1000) (h3 : t ≤ 1000) (w : World) :
    Calls Tryz.prog 74 #[.slice oa n cap, .int .i64 (t : Int)] w fun e w' => e = .returned (.int .i64 (holdN n t : Int)) ∧ w = w' := by
  have hl : t % n < n := Nat.mod_lt _ (by omega)
  have hh : ((n : Int) - 1 - ((t % n : Nat) : Int)) = (holdN n t : Int) := by unfold holdN; omega
  have hn0 : ((n : Int) == 0) = false := by rw [beq_eq_false_iff_ne]; omega
  have hn1 : ((n : Int) == -1) = false := by rw [beq_eq_false_iff_ne]; omega
  go_enter Tryz.func74, Tryz.ntmps74
  go_wp2
  go_ret
  refine ⟨?_, rfl⟩
  show Ending.returned (Value.int .i64 ((n : Int) - 1 - (t : Int) % (n : Int))) = _
  rw [← hh, Int.natCast_emod]
theorem rf_Parity {v : Value} {L : List (Int × Int)} (h : ESl w v L) (hN : Near L) (t : Int) :
    Calls Tryz.prog 33 #[v, .int .i64 t] w fun e w' => e = .returned (.tuple #[.agg #[.int .i64 (parityX L t).1.1, .int .i64 (parityX L t).1.2], .int .i64 (parityX L t).2]) ∧ Kept w w' := by
  have HH := Lib.hid h; have HN := Lib.hid hN
  obtain ⟨oa, cap, rfl, _⟩ := h
  have hl := hN.1
  clear hN
  have hS := fun W => rf_stripe oa L.length cap hl t W
  by_cases hc : rightX L.length t = 0
  · obtain ⟨t, rfl, h2, h3⟩ := rightX_ok hc
    rw [show parityX L (t : Int) = (plcAt L t (holdN L.length t), 0) by unfold parityX; rw [if_pos hc]; rfl]
    rw [hc] at hS
    have h5 := holdN_lt (w := L.length) (by omega) t
    have HO := Lib.hid fun W => rf_Holder oa L.length t cap (by omega) hl (by omega) W
    clear hc
    generalize holdN L.length t = k at *
    have hpl := fun (W : World) (he : ESl W (.slice oa L.length cap) L) => rf_at he HN.out h5 t (by omega)
    obtain ⟨x, y, hxy⟩ : ∃ x y, plcAt L t k = (x, y) := ⟨_, _, rfl⟩
    rw [hxy] at hpl ⊢
    have HPL := Lib.hid hpl
    clear hpl hxy
    have HS := Lib.hid hS
    clear hS
    go_enter Tryz.func33, Tryz.ntmps33
    go_wp2_with (refine stop_at (o := ⟨some 4, _, _, _, _, _⟩) ?_)
    refine Stop.mk ?_
    refine wpList_alloc_abs rfl 47 rfl [.int .i64 0, .int .i64 0] zero_plc ?_
    intro w1 hz hs hn1 hk
    have HR1 := hz; have HK1 := Lib.hid hk; have HE1 := Lib.hid (HH.out.kept hk)
    have HRE := Lib.hid (Nat.le_refl w.heap.size)
    generalize hR : w.heap.size = R at HR1 HRE hs hn1 ⊢
    have HRW := Lib.hid hR
    clear hz hs hn1 hk hR HH
    go_wp2_with fail
    refine Calls.mono (HS.out _) ?_
    rintro e w2 ⟨rfl, rfl⟩
    go_wp2_with fail
    refine Calls.mono (HO.out _) ?_
    rintro e w2 ⟨rfl, rfl⟩
    go_wp2_with fail
    refine Calls.mono (HPL.out _ HE1.out) ?_
    rintro e w3 ⟨rfl, hk⟩
    have HR3 := Lib.hid (hk.block HR1.out); have HK3 := Lib.hid (HK1.out.trans hk)
    clear hk HR1 HK1 HE1
    go_wp2_with (refine stop_at (o := ⟨none, .store _ _ _, _, _, _, _⟩) ?_)
    refine Stop.mk ?_
    refine wpList_store_agg rfl _ _ rfl ty_plc R 0 rfl [.int .i64 x, .int .i64 y] rfl rfl (one_plc _ _) _ _ HR3.out (by decide) ?_
    intro w4 hw
    replace hw := hw.all rfl
    have HK4 := Lib.hid (hw.kept HK3.out (by have := HRW.out; omega))
    have HW := Lib.hid hw
    clear hw
    go_wp2
    refine bodyPost_ret (results_plc2 rfl _ _ R x y rfl HW.out.cells) rfl ?_
    exact ⟨rfl, HK4.out⟩
  · rw [show parityX L t = ((0, 0), rightX L.length t) by unfold parityX; rw [if_neg hc]]
    generalize rightX L.length t = c at *
    have hcb : (c == 0) = false := by simpa using hc
    have HS := Lib.hid hS
    clear hS
    go_enter Tryz.func33, Tryz.ntmps33
    go_wp2_with (refine stop_at (o := ⟨some 4, _, _, _, _, _⟩) ?_)
    refine Stop.mk ?_
    refine wpList_alloc_abs rfl 47 rfl [.int .i64 0, .int .i64 0] zero_plc ?_
    intro w1 hz hs hn1 hk
    have HR1 := hz; have HK1 := Lib.hid hk; have HE1 := Lib.hid (HH.out.kept hk)
    have HRE := Lib.hid (Nat.le_refl w.heap.size)
    generalize hR : w.heap.size = R at HR1 HRE hs hn1 ⊢
    have HRW := Lib.hid hR
    clear hz hs hn1 hk hR HH
    go_wp2_with fail
    refine Calls.mono (HS.out _) ?_
    rintro e w2 ⟨rfl, rfl⟩
    go_wp2_with (refine stop_at (o := ⟨none, .store _ _ _, _, _, _, _⟩) ?_)
    refine Stop.mk ?_
    refine wpList_store_agg rfl _ _ rfl ty_plc R 0 rfl [.int .i64 0, .int .i64 0] rfl rfl (one_plc _ _) _ _ HR1.out (by decide) ?_
    intro w4 hw
    replace hw := hw.all rfl
    have HK4 := Lib.hid (hw.kept HK1.out (by have := HRW.out; omega))
    have HW := Lib.hid hw
    clear hw
    go_wp2
    refine bodyPost_ret (results_plc2 rfl _ _ R 0 0 rfl HW.out.cells) rfl ?_
    exact ⟨rfl, HK4.out⟩
--
--
--
--
--
--
--
--
--
--
--
--
--
theorem owns_empty (w : World) (T size : Nat) : (w.alloc (.cells #[] T)).ownsRow w.heap.size T size (.slice (some ⟨w.heap.size, 0, none⟩) 0 0) 0 [] :=
  ⟨by simp, .inr ⟨w.heap.size, 0, #[], rfl, Nat.le_refl _, World.alloc_heap_new w _, Nat.le_refl _, by decide, by simp, by simp⟩⟩
theorem rf_Data {v : Value} {L : List (Int × Int)} (h : ESl w v L) (hN : Near L) (h2 : 2 ≤ L.length) (t : Nat) (ht : t < 8) :
    Calls Tryz.prog 64 #[v, .int .i64 (t : Int)] w fun e W' => ∃ r, e = .returned (.tuple #[r, .int .i64 0]) ∧ W'.ownsRow w.heap.size 47 2 r (dataS L t (-1)).length (evals (dataS L t (-1))) ∧ Kept w W' := by
  have HV0 := Lib.hid h; have HN := Lib.hid hN
  have hlen := hN.1
  obtain ⟨oa, cap, hvv⟩ : ∃ oa cap, v = .slice oa L.length cap := by obtain ⟨oa, cap, e, _⟩ := h; exact ⟨oa, cap, e⟩
  subst hvv
  have hr := fun W => rf_stripe oa L.length cap hlen (t : Int) W
  rw [show rightX L.length (t : Int) = 0 by unfold rightX; rw [if_neg (by omega), if_neg (by omega)]] at hr
  have HR := Lib.hid hr
  have HH := Lib.hid fun W => rf_Holder oa L.length t cap (by omega) hlen (by omega) W
  have HPL := Lib.hid fun (W : World) (he : ESl W (.slice oa L.length cap) L) (j : Nat) (hj : j < L.length) => rf_at he HN.out hj t (by omega)
  clear h hN hr
  go_enter Tryz.func64, Tryz.ntmps64
  go_wp2_with fail
  refine Calls.mono (HR.out _) ?_
  rintro e w' ⟨rfl, rfl⟩
  clear HR
  go_wp2
  go_loopw [7, 8] (fun v i wr => ∃ (j : Nat), j ≤ L.length ∧ i = .int .i64 j ∧ Hid (wr.ownsRow w.heap.size 47 2 v (dataTo L t (-1) j).length (evals (dataTo L t (-1) j))) ∧ Hid (Kept w wr)) (fun _ i _ => L.length - (intOf i).toNat)
  case atStart => exact ⟨0, Nat.zero_le _, rfl, Lib.hid (owns_empty w _ 2), Lib.hid ((Kept.refl _).alloc _)⟩
  case round =>
    obtain ⟨j, hj, rfl, HO, HK⟩ := hrel
    obtain ⟨oa', cap', rfl⟩ := ownsRow_form1 HO.out
    have HLE := Lib.hid (dataTo_le L t (-1) j)
    by_cases hlt : j < L.length
    · go_wp2_with fail
      refine Calls.mono (HH.out _) ?_
      rintro e w' ⟨rfl, rfl⟩
      by_cases hjk : j = holdN L.length t
      · have HO2 : Hid (wr.ownsRow w.heap.size 47 2 (.slice oa' (dataTo L t (-1) j).length cap') (dataTo L t (-1) (j + 1)).length (evals (dataTo L t (-1) (j + 1)))) := Lib.hid (by
          rw [show dataTo L t (-1) (j + 1) = dataTo L t (-1) j by rw [dataTo, if_neg (by simp [hjk])]]; exact HO.out)
        generalize holdN L.length t = hd at *
        have t1 : ((j : Int) != (hd : Int)) = false := by simp [hjk]
        have t2 : (j != hd) = false := by simp [hjk]
        clear hjk HO
        go_wp2
        go_roundw
        case rel => exact ⟨j + 1, hlt, by go_num, HO2, HK⟩
        case measure => simp [intOf]; omega
      · have hst : dataTo L t (-1) (j + 1) = dataTo L t (-1) j ++ [plcAt L t j] := by rw [dataTo, if_pos ⟨hjk, by omega⟩]
        have HPJ := Lib.hid (HPL.out wr (HV0.out.kept HK.out) j hlt)
        generalize plcAt L t j = p at *
        generalize holdN L.length t = hd at *
        obtain ⟨px, py⟩ := p
        have HST := Lib.hid hst
        have t1 : ((j : Int) != (hd : Int)) = true := by simp; omega
        have t2 : (j != hd) = true := by simp [hjk]
        have t3 : ¬ j = hd := hjk
        clear hst
        go_wp2_with fail
        refine Calls.mono HPJ.out ?_
        rintro e w5 ⟨rfl, hk5⟩
        have HK5 := Lib.hid (HK.out.trans hk5); have HO5 := Lib.hid (ownsRow_kept HO.out hk5)
        clear hk5 HK HO HPJ
        go_wp2_with (refine stop_at (o := ⟨some 33, _, _, _, _, _⟩) ?_)
        refine Stop.mk ?_
        obtain ⟨ht', ⟨i1, z1, hi, hz, hsz', hby, hzs⟩, hpos⟩ := ty_places2
        refine wpList_append_own_wide _ rfl _ _ 39 rfl w.heap.size 47 i1 z1 2 16 ht' hi hz hsz' hby hzs (by decide) _ (dataTo L t (-1) j).length (evals (dataTo L t (-1) j)) rfl (HO5.out.alloc _) ⟨w5.heap.size, 0, none⟩ 1 1 [.int .i64 px, .int .i64 py] rfl rfl (two_new _ _ _ _) (evals_one [(px, py)]) (by have : maxLen = 9223372036854775807 := rfl; have := HLE.out; omega) (by have := HLE.out; omega) (by have := HK5.out.size; rw [World.size_alloc]; omega) ?_
        intro v4 w4 hown hgrow _
        have HK4 : Hid (Kept w w4) := Lib.hid ((HK5.out.alloc _).grown hgrow (fun j ej => row_ge HO5.out ej))
        have HO4 : Hid (w4.ownsRow w.heap.size 47 2 v4 (dataTo L t (-1) (j + 1)).length (evals (dataTo L t (-1) (j + 1)))) := Lib.hid (by rw [HST.out, evals_append, List.length_append]; exact hown)
        clear hown hgrow HO5 HK5 ht' hi hz hsz' hby hzs hpos HST
        go_wp2
        go_roundw
        case rel => exact ⟨j + 1, hlt, by go_num, HO4, HK4⟩
        case measure => simp [intOf]; omega
    · have hjL : dataTo L t (-1) j = dataS L t (-1) := by unfold dataS; rw [show j = L.length by omega]
      have HO2 := HO.out
      rw [hjL] at HO2
      have HO3 := Lib.hid HO2
      clear HO2 HO HLE
      go_wp2
      go_ret2
      rw [hjL]
      exact ⟨_, rfl, HO3.out, HK.out⟩
theorem rf_Data_no (oa : Option Addr) (n cap : Nat) (hn : n ≤ 1000) (t : Int) (h : rightX n t ≠ 0) (w : World) :
    Calls Tryz.prog 64 #[.slice oa n cap, .int .i64 t] w fun e w' => e = .returned (.tuple #[.slice none 0 0, .int .i64 (rightX n t)]) ∧ w = w' := by
  have HR := Lib.hid fun W => rf_stripe oa n cap hn t W
  generalize rightX n t = c at *
  have t1 : (c != 0) = true := by simpa using h
  have t2 : (c == 0) = false := by simpa using h
  go_enter Tryz.func64, Tryz.ntmps64
  go_wp2_with fail
  refine Calls.mono (HR.out _) ?_
  rintro e w' ⟨rfl, rfl⟩
  go_wp2
  go_ret2
  exact ⟨rfl, rfl⟩
end
end Go.Proofs.YtglplhmclfekfaaGreat
/- The document's stripes in memory: All, Home, Mates; what stripe.Data and Mates refuse. -/
namespace Go.Proofs.YtglplhmclfekfaaGreat
open Go.RowKit Go.Shelf
set_option linter.unusedVariables false
set_option linter.unusedSimpArgs false
attribute [local go_sem] Oper.semAt_some

def allTo (L : List (Int × Int)) : Nat → List (Int × Int)
  | 0 => []
  | t + 1 => allTo L t ++ dataS L t (-1)
theorem allTo_len {L : List (Int × Int)} (h : 2 ≤ L.length) : ∀ t, (allTo L t).length = t * (L.length - 1)
  | 0 => by simp [allTo]
  | t + 1 => by rw [allTo, List.length_append, allTo_len h t, dataS_len (by omega), Nat.succ_mul]
theorem allTo_at {L : List (Int × Int)} (h : 2 ≤ L.length) : ∀ t s, s < t * (L.length - 1) → (allTo L t)[s]? = some (plcAt L (s / (L.length - 1)) (slotK L.length (s / (L.length - 1)) (s % (L.length - 1))))
  | 0, s, hs => by omega
  | t + 1, s, hs => by
    rw [Nat.succ_mul] at hs
    rw [allTo]
    by_cases e : s < t * (L.length - 1)
    · rw [List.getElem?_append_left (by rw [allTo_len h]; exact e)]
      exact allTo_at h t s e
    · rw [List.getElem?_append_right (by rw [allTo_len h]; omega), allTo_len h]
      have hj : s - t * (L.length - 1) < L.length - 1 := by omega
      obtain ⟨j, hje⟩ : ∃ j, s - t * (L.length - 1) = j := ⟨_, rfl⟩
      rw [hje] at hj ⊢
      have hs2 : s = (L.length - 1) * t + j := by rw [Nat.mul_comm]; omega
      subst hs2
      have h1 : ((L.length - 1) * t + j) / (L.length - 1) = t := by
        rw [Nat.mul_add_div (by omega), Nat.div_eq_of_lt hj]; rfl
      have h2 : ((L.length - 1) * t + j) % (L.length - 1) = j := by
        rw [Nat.mul_add_mod, Nat.mod_eq_of_lt hj]
      rw [h1, h2]
      exact dataS_at (by omega) t hj
section
variable {w : World}
set_option maxHeartbeats 2000000
set_option maxRecDepth 100000
theorem rf_All {v : Value} {L : List (Int × Int)} (h : ESl w v L) (hN : Near L) (h2 : 2 ≤ L.length) :
    Calls Tryz.prog 72 #[v] w fun e W' => ∃ r, e = .returned r ∧ W'.ownsRow w.heap.size 47 2 r (allTo L 8).length (evals (allTo L 8)) ∧ Kept w W' := by
  have HV0 := Lib.hid h; have HN := Lib.hid hN
  have hlen := hN.1
  obtain ⟨oa, cap, hvv⟩ : ∃ oa cap, v = .slice oa L.length cap := by obtain ⟨oa, cap, e, _⟩ := h; exact ⟨oa, cap, e⟩
  subst hvv
  have HD := Lib.hid fun (W : World) (he : ESl W (.slice oa L.length cap) L) (t : Nat) (ht : t < 8) => rf_Data he HN.out h2 t ht
  clear h hN
  go_enter Tryz.func72, Tryz.ntmps72
  go_wp2
  go_loopw [3, 4] (fun v i wr => ∃ (t : Nat), t ≤ 8 ∧ i = .int .i64 t ∧ Hid (wr.ownsRow w.heap.size 47 2 v (allTo L t).length (evals (allTo L t))) ∧ Hid (Kept w wr)) (fun _ i _ => 8 - (intOf i).toNat)
  case atStart => exact ⟨0, Nat.zero_le _, rfl, Lib.hid (owns_empty w _ 2), Lib.hid ((Kept.refl _).alloc _)⟩
  case round =>
    obtain ⟨t, ht, rfl, HO, HK⟩ := hrel
    obtain ⟨oa', cap', rfl⟩ := ownsRow_form1 HO.out
    by_cases hlt : t < 8
    · have hal := allTo_len h2 t
      have hdl := dataS_len (L := L) (by omega) t
      have hb1 : (allTo L t).length ≤ 8000 := by rw [hal]; exact Nat.le_trans (Nat.mul_le_mul (show t ≤ 8 by omega) (show L.length - 1 ≤ 1000 by omega)) (by decide)
      have hb2 : (dataS L t (-1)).length ≤ 1000 := by rw [hdl]; omega
      have hd0 : 0 < (dataS L t (-1)).length := by rw [hdl]; omega
      clear hal hdl
      go_wp2_with fail
      refine Calls.mono (HD.out _ (HV0.out.kept HK.out) t hlt) ?_
      rintro e w5 ⟨r, rfl, hrow, hk5⟩
      obtain ⟨g5, c5, rfl, _, hg5, hC5, hc5⟩ := row_form hrow (by omega)
      have HK5 := Lib.hid (HK.out.trans hk5); have HO5 := Lib.hid (ownsRow_kept HO.out hk5); have HC5 := Lib.hid hC5
      have HEL := Lib.hid (evals_length (dataS L t (-1)))
      clear hrow hk5 HO HK hC5
      go_wp2_with (refine stop_at (o := ⟨some 20, _, _, _, _, _⟩) ?_)
      refine Stop.mk ?_
      refine wpList_append_app _ rfl _ _ rfl ty_places2 w.heap.size _ (allTo L t).length (evals (allTo L t)) rfl (.inl HO5.out) _ (dataS L t (-1)).length (evals (dataS L t (-1))) rfl (Src.of_cells HC5.out HEL.out hc5) (evals_one _) (by simp only [maxLen]; omega) (by omega) HK5.out.size ?_
      intro v6 w6 _ hg6 hb6 hown
      have HK6 : Hid (Kept w w6) := Lib.hid (HK5.out.grown hg6 (fun j ej => row_ge HO5.out ej))
      have HO6 : Hid (w6.ownsRow w.heap.size 47 2 v6 (allTo L (t + 1)).length (evals (allTo L (t + 1)))) := Lib.hid (by
        have := hown (.inl hd0)
        rw [allTo, List.length_append, evals_append]; exact this)
      clear hg6 hb6 hown HO5 HK5 HC5 HEL
      go_wp2
      go_roundw
      case rel => exact ⟨t + 1, hlt, by go_num, HO6, HK6⟩
      case measure => simp [intOf]; omega
    · have ht8 : t = 8 := by omega
      subst ht8
      go_wp2
      go_ret
      exact ⟨_, rfl, HO.out, HK.out⟩
theorem homeX_few {L : List (Int × Int)} (h : L.length < 2) (slot : Int) : homeX L slot = ((0, 0), 1) := by
  have : splitX L.length slot = (0, 0, 1) := by
    unfold splitX
    rw [if_pos h]
  unfold homeX
  rw [this]; rfl
theorem homeX_out {L : List (Int × Int)} (h : 2 ≤ L.length) {slot : Int} (hs : slot < 0 ∨ 8 * ((L.length : Int) - 1) ≤ slot) : homeX L slot = ((0, 0), 3) := by
  have : splitX L.length slot = (0, 0, 3) := by
    unfold splitX
    rw [if_neg (by omega), if_pos hs]
  unfold homeX
  rw [this]; rfl
theorem homeX_in {L : List (Int × Int)} (h : 2 ≤ L.length) {s : Nat} (hs : s < 8 * (L.length - 1)) : homeX L (s : Int) = (plcAt L (s / (L.length - 1)) (slotK L.length (s / (L.length - 1)) (s % (L.length - 1))), 0) := by
  unfold homeX
  rw [split_slotN h hs]
  simp only [if_true, Int.toNat_natCast]
theorem rf_Home {v : Value} {L : List (Int × Int)} (h : ESl w v L) (hN : Near L) (slot : Int) :
    Calls Tryz.prog 32 #[v, .int .i64 slot] w fun e w' => e = .returned (.tuple #[.agg #[.int .i64 (homeX L slot).1.1, .int .i64 (homeX L slot).1.2], .int .i64 (homeX L slot).2]) ∧ Kept w w' := by
  have HV0 := Lib.hid h; have HN := Lib.hid hN
  have hlen := hN.1
  obtain ⟨oa, cap, hvv⟩ : ∃ oa cap, v = .slice oa L.length cap := by obtain ⟨oa, cap, e, _⟩ := h; exact ⟨oa, cap, e⟩
  subst hvv
  by_cases h2 : L.length < 2
  · rw [homeX_few h2]
    clear h hN
    go_enter Tryz.func32, Tryz.ntmps32
    go_wp2_with (refine stop_at (o := ⟨some 4, _, _, _, _, _⟩) ?_)
    refine Stop.mk ?_
    refine wpList_alloc_abs rfl 47 rfl [.int .i64 0, .int .i64 0] zero_plc ?_
    intro w1 hz hs hn1 hk
    have HR1 := hz; have HK1 := Lib.hid hk
    have HRE := Lib.hid (Nat.le_refl w.heap.size)
    generalize hR : w.heap.size = R at HR1 HRE hs hn1 ⊢
    have HRW := Lib.hid hR
    clear hz hs hn1 hk hR HV0
    go_wp2_with (refine stop_at (o := ⟨none, .store _ _ _, _, _, _, _⟩) ?_)
    refine Stop.mk ?_
    refine wpList_store_agg rfl _ _ rfl ty_plc R 0 rfl [.int .i64 0, .int .i64 0] rfl rfl (one_plc _ _) _ _ HR1.out (by decide) ?_
    intro w4 hw
    replace hw := hw.all rfl
    have HK4 := Lib.hid (hw.kept HK1.out (by have := HRW.out; omega))
    have HW := Lib.hid hw
    clear hw
    go_wp2
    refine bodyPost_ret (results_plc2 rfl _ _ R 0 0 rfl HW.out.cells) rfl ?_
    exact ⟨rfl, HK4.out⟩
  · have h2' : 2 ≤ L.length := by omega
    have hal := allTo_len h2' 8
    have HA := Lib.hid fun (W : World) (he : ESl W (.slice oa L.length cap) L) => rf_All he HN.out h2'
    have HAT := Lib.hid (allTo_at h2' 8)
    have HHI := Lib.hid fun (s : Nat) (hs : s < 8 * (L.length - 1)) => homeX_in h2' hs
    have HHO := Lib.hid fun (hs : slot < 0 ∨ 8 * ((L.length : Int) - 1) ≤ slot) => homeX_out h2' hs
    obtain ⟨⟨⟨hx, hy⟩, hc⟩, hhx⟩ : ∃ p, homeX L slot = p := ⟨_, rfl⟩
    rw [hhx]
    rw [hhx] at HHO
    have HHX := Lib.hid hhx
    have h8 : (allTo L 8).length ≤ 8000 := by rw [hal]; omega
    have HAL := Lib.hid hal
    have hge : 8 * ((L.length : Int) - 1) ≤ ((allTo L 8).length : Int) := by rw [hal]; omega
    have hle : ((allTo L 8).length : Int) ≤ 8 * ((L.length : Int) - 1) := by rw [hal]; omega
    have hpos : 0 < (allTo L 8).length := by rw [hal]; omega
    clear h hN hhx hal
    generalize allTo L 8 = A at *
    go_enter Tryz.func32, Tryz.ntmps32
    go_wp2_with (refine stop_at (o := ⟨some 4, _, _, _, _, _⟩) ?_)
    refine Stop.mk ?_
    refine wpList_alloc_abs rfl 47 rfl [.int .i64 0, .int .i64 0] zero_plc ?_
    intro w1 hz hs hn1 hk
    have HR1 := hz; have HK1 := Lib.hid hk; have HV1 := Lib.hid (HV0.out.kept hk)
    have HRE := Lib.hid (Nat.le_refl w.heap.size)
    generalize hR : w.heap.size = R at HR1 HRE hs hn1 ⊢
    have HRW := Lib.hid hR
    clear hz hs hn1 hk hR HV0
    go_wp2_with fail
    refine Calls.mono (HA.out _ HV1.out) ?_
    rintro e w2 ⟨r, rfl, hrow, hk⟩
    obtain ⟨g2, c2, rfl, _, hg2, hC2, hc2⟩ := row_form hrow (by omega)
    have HR2 := Lib.hid (hk.block HR1.out); have HK2 := Lib.hid (HK1.out.trans hk); have HC2 := Lib.hid hC2
    clear hk hrow hC2 HR1 HK1 HV1 HA
    by_cases hb : slot < 0 ∨ (A.length : Int) ≤ slot
    · have hz := HHO.out (by omega)
      obtain ⟨rfl, rfl, rfl⟩ : hx = 0 ∧ hy = 0 ∧ hc = 3 := by simpa [Prod.ext_iff, and_assoc] using hz
      clear hz HHO HHI HHX HAT
      have fin : True := trivial
      by_cases hb0 : slot < 0
      all_goals
        first
          | (have hb1 : (A.length : Int) ≤ slot := by omega)
          | skip
        go_wp2_with (refine stop_at (o := ⟨none, .store _ _ _, _, _, _, _⟩) ?_)
        refine Stop.mk ?_
        refine wpList_store_agg rfl _ _ rfl ty_plc R 0 rfl [.int .i64 0, .int .i64 0] rfl rfl (one_plc _ _) _ _ HR2.out (by decide) ?_
        intro w4 hw
        replace hw := hw.all rfl
        have HK4 := Lib.hid (hw.kept HK2.out (by have := HRW.out; omega))
        have HW := Lib.hid hw
        clear hw
        go_wp2
        refine bodyPost_ret (results_plc2 rfl _ _ R 0 0 rfl HW.out.cells) rfl ?_
        exact ⟨rfl, HK4.out⟩
    · obtain ⟨s, rfl⟩ : ∃ s : Nat, slot = (s : Int) := ⟨slot.toNat, by omega⟩
      have hsA : s < A.length := by omega
      have hs8 : s < 8 * (L.length - 1) := by have := HAL.out; omega
      have e1 := HHI.out s hs8
      rw [HHX.out] at e1
      have e2 := HAT.out s hs8
      have hp : A[s]? = some (hx, hy) := by
        have h9 : (hx, hy) = plcAt L (s / (L.length - 1)) (slotK L.length (s / (L.length - 1)) (s % (L.length - 1))) := congrArg Prod.fst e1
        rw [h9]; exact e2
      have hc0 : hc = 0 := congrArg Prod.snd e1
      subst hc0
      obtain ⟨a1, a2⟩ := evals_at A s hsA
      rw [show A.getD s (0, 0) = (hx, hy) by rw [List.getD_eq_getElem?_getD, hp]; rfl] at a1 a2
      have HCP : Hid (Cells w2 g2 (s * 2) [.int .i64 hx, .int .i64 hy]) := Lib.hid (fun j hj => by
        have hj2 : j < 2 := hj
        have : j = 0 ∨ j = 1 := by omega
        rcases this with rfl | rfl
        · obtain ⟨b1, b2⟩ := List.getElem?_eq_some_iff.1 a1
          have := HC2.out _ b1
          rw [Nat.zero_add, b2] at this; exact this
        · obtain ⟨b1, b2⟩ := List.getElem?_eq_some_iff.1 a2
          have := HC2.out _ b1
          rw [Nat.zero_add, b2] at this; exact this)
      clear e1 e2 hp a1 a2 HHO HHI HHX HAT hb
      go_wp2_with (refine stop_at (o := ⟨some 25, _, _, _, _, _⟩) ?_)
      refine Stop.mk ?_
      refine wpList_load_agg rfl _ rfl ty_plc g2 (s * 2) rfl _ HCP.out rfl ?_
      go_wp2_with (refine stop_at (o := ⟨none, .store _ _ _, _, _, _, _⟩) ?_)
      refine Stop.mk ?_
      refine wpList_store_agg rfl _ _ rfl ty_plc R 0 rfl [.int .i64 hx, .int .i64 hy] rfl rfl (one_plc _ _) _ _ HR2.out (by decide) ?_
      intro w4 hw
      replace hw := hw.all rfl
      have HK4 := Lib.hid (hw.kept HK2.out (by have := HRW.out; omega))
      have HW := Lib.hid hw
      clear hw
      go_wp2
      refine bodyPost_ret (results_plc2 rfl _ _ R hx hy rfl HW.out.cells) rfl ?_
      exact ⟨rfl, HK4.out⟩
end
end Go.Proofs.YtglplhmclfekfaaGreat
/- The document's Mates; what stripe.Data and Mates refuse; extents that come in. -/
namespace Go.Proofs.YtglplhmclfekfaaGreat
open Go.RowKit Go.Shelf
set_option linter.unusedVariables false
set_option linter.unusedSimpArgs false
attribute [local go_sem] Oper.semAt_some

/-- the first k of D, but that of the number j -/
def erTo (D : List (Int × Int)) (j : Nat) : Nat → List (Int × Int)
  | 0 => []
  | k + 1 => if k ≠ j then erTo D j k ++ [D.getD k (0, 0)] else erTo D j k
theorem erTo_le (D : List (Int × Int)) (j : Nat) : ∀ k, (erTo D j k).length ≤ k
  | 0 => Nat.le_refl _
  | k + 1 => by
    have := erTo_le D j k
    unfold erTo
    split
    · simp; omega
    · omega
theorem erTo_eq {D : List (Int × Int)} {j : Nat} : ∀ k, k ≤ D.length → erTo D j k = (D.take k).eraseIdx j
  | 0, _ => by simp [erTo]
  | k + 1, hk => by
    have ht : D.take (k + 1) = D.take k ++ [D.getD k (0, 0)] := by
      rw [List.take_succ_eq_append_getElem (by omega), getElem_getD (by omega)]
    have hl : (D.take k).length = k := by rw [List.length_take]; omega
    rw [erTo, erTo_eq k (by omega), ht]
    by_cases e : k = j
    · subst e
      have e1 : (D.take k).eraseIdx k = D.take k := List.eraseIdx_of_length_le (by omega)
      have e3 : (D.take k ++ [D.getD k (0, 0)]).eraseIdx k = D.take k ++ [D.getD k (0, 0)].eraseIdx (k - (D.take k).length) := List.eraseIdx_append_of_length_le (by omega) _
      rw [if_neg (by simp), e1, e3, hl, Nat.sub_self]
      simp
    · rw [if_pos e]
      by_cases h : j < k
      · rw [List.eraseIdx_append_of_lt_length (by omega)]
      · have e1 : (D.take k).eraseIdx j = D.take k := List.eraseIdx_of_length_le (by omega)
        have e2 : [D.getD k (0, 0)].eraseIdx (j - k) = [D.getD k (0, 0)] := List.eraseIdx_of_length_le (by simp; omega)
        rw [e1, List.eraseIdx_append_of_length_le (by omega), hl, e2]
theorem mates_facts {L : List (Int × Int)} {s m : Nat} (hL : L.length = m + 1) (hm : 1 ≤ m) (hs : s < 8 * m) :
    ∃ (t j kk : Nat) (DA DK : List (Int × Int)) (p q : Int × Int), t < 8 ∧ j < m ∧ kk < L.length ∧ (s : Int) / (m : Int) = (t : Int) ∧ (s : Int) % (m : Int) = (j : Int) ∧ homeX L (s : Int) = (p, 0) ∧ parityX L (t : Int) = (q, 0) ∧
      splitX L.length (s : Int) = ((t : Int), (kk : Int), 0) ∧ dataS L t (-1) = DA ∧ dataS L t (kk : Int) = DK ∧ plcAt L t (holdN L.length t) = q ∧ DA.length = m ∧ DK.length + 1 = m ∧ erTo DA j m = DK := by
  have hn : L.length - 1 = m := by omega
  have hj : s % m < m := Nat.mod_lt _ (by omega)
  have ht : s / m < 8 := by rw [Nat.div_lt_iff_lt_mul (by omega)]; exact hs
  have hk : slotK L.length (s / m) (s % m) < L.length := slotK_lt (by omega)
  have hsp : splitX L.length (s : Int) = (((s / m : Nat) : Int), ((slotK L.length (s / m) (s % m) : Nat) : Int), 0) := by
    have := split_slotN (n := L.length) (s := s) (by omega) (by omega)
    rw [hn] at this; exact this
  have hda : (dataS L (s / m) (-1)).length = m := by rw [dataS_len (by omega), hn]
  have hsk := dataS_skip (L := L) (s / m) (j := s % m) (by omega)
  refine ⟨s / m, s % m, slotK L.length (s / m) (s % m), _, _, plcAt L (s / m) (slotK L.length (s / m) (s % m)), _, ht, hj, hk, (Int.natCast_ediv s m).symm, (Int.natCast_emod s m).symm, ?_, ?_, hsp, rfl, rfl, rfl, hda, ?_, ?_⟩
  · unfold homeX
    rw [hsp]
    simp only [if_true, Int.toNat_natCast]
  · unfold parityX
    have hr : rightX L.length ((s / m : Nat) : Int) = 0 := by
      generalize s / m = t at ht
      unfold rightX
      rw [if_neg (by omega), if_neg (by omega)]
    rw [hr, if_pos rfl, Int.toNat_natCast]
  · rw [hsk, List.length_eraseIdx, if_pos (by omega)]; omega
  · rw [hsk, erTo_eq m (by omega), List.take_of_length_le (by omega)]
theorem evals_take {W : World} {g : Nat} {H : List (Int × Int)} (h : Cells W g 0 (evals H)) {k : Nat} (hk : k < H.length) : Cells W g (k * 2) [.int .i64 (H.getD k (0, 0)).1, .int .i64 (H.getD k (0, 0)).2] := by
  obtain ⟨h1, h2⟩ := evals_at H k hk
  intro j hj
  have hj2 : j < 2 := hj
  have : j = 0 ∨ j = 1 := by omega
  rcases this with rfl | rfl
  · obtain ⟨a, b⟩ := List.getElem?_eq_some_iff.1 h1
    have := h _ a
    rw [Nat.zero_add, b] at this
    exact this
  · obtain ⟨a, b⟩ := List.getElem?_eq_some_iff.1 h2
    have := h _ a
    rw [Nat.zero_add, b] at this
    exact this
section
variable {w : World}
set_option maxHeartbeats 2000000
set_option maxRecDepth 100000
theorem rf_Mates {v : Value} {L : List (Int × Int)} (h : ESl w v L) (hN : Near L) {s m : Nat} (hL : L.length = m + 1) (hm : 1 ≤ m) (hs : s < 8 * m) {t kk : Nat} (hsp : splitX L.length (s : Int) = ((t : Int), (kk : Int), 0)) :
    Calls Tryz.prog 67 #[v, .int .i64 (s : Int)] w fun e W' => ∃ r, e = .returned (.tuple #[r, .int .i64 0]) ∧ W'.ownsRow w.heap.size 47 2 r m (evals (dataS L t (kk : Int) ++ [plcAt L t (holdN L.length t)])) ∧ Kept w W' := by
  have HV0 := Lib.hid h; have HN := Lib.hid hN
  have hlen := hN.1
  obtain ⟨oa, cap, hvv⟩ : ∃ oa cap, v = .slice oa L.length cap := by obtain ⟨oa, cap, e, _⟩ := h; exact ⟨oa, cap, e⟩
  subst hvv
  obtain ⟨t', j, kk', DA, DK, ⟨px, py⟩, ⟨qx, qy⟩, htd, hjd, hkd, hdv, hmd, hhm, hpm, hsp', hDA, hDK, hq, hdl, hdk, her⟩ := mates_facts hL hm hs
  rw [hsp] at hsp'
  obtain ⟨rfl, rfl⟩ : t = t' ∧ kk = kk' := by
    have e1 := congrArg Prod.fst hsp'
    have e2 := congrArg (fun x => x.2.1) hsp'
    simp only at e1 e2
    omega
  rw [hDK, hq]
  have hhome := fun W (he : ESl W (.slice oa L.length cap) L) => rf_Home he HN.out (s : Int)
  rw [hhm] at hhome
  have hpar := fun W (he : ESl W (.slice oa L.length cap) L) => rf_Parity he HN.out (t : Int)
  rw [hpm] at hpar
  have hdt := fun W (he : ESl W (.slice oa L.length cap) L) => rf_Data he HN.out (by omega) t htd
  simp only [hDA, hdl] at hdt
  have HHM := Lib.hid hhome; have HPM := Lib.hid hpar; have HDT := Lib.hid hdt; have HDL := Lib.hid hdl; have HDK := Lib.hid hdk; have HER := Lib.hid her
  have hnm1 : (L.length : Int) - 1 = (m : Int) := by omega
  have hm12 : m ≤ 1000 := by omega
  have HDV := Lib.hid (And.intro hdv hmd)
  clear h hN hhome hpar hdt hdl hdk her hhm hpm hsp hsp' hDA hDK hq hL hkd hdv hmd
  go_enter Tryz.func67, Tryz.ntmps67
  go_wp2_with fail
  refine Calls.mono (HHM.out _ HV0.out) ?_
  rintro e w1 ⟨rfl, hk⟩
  have HK1 := Lib.hid hk; have HV1 := Lib.hid (HV0.out.kept hk)
  clear hk HV0 HHM
  go_wp2_with (refine stop_at (o := ⟨some 6, _, _, _, _, _⟩) ?_)
  refine Stop.mk ?_
  refine wpList_new_row rfl rfl _ _ rfl rfl ty_plc _ zero_plc rfl [.int .i64 px, .int .i64 py] rfl rfl (one_plc _ _) rfl ?_
  intro w2 hz hs2 hk
  have HK2 := Lib.hid (HK1.out.trans hk); have HV2 := Lib.hid (HV1.out.kept hk)
  generalize w1.heap.size = Pb at *
  clear hz hs2 hk HK1 HV1
  have hm0 : ¬ m = 0 := by omega
  have hmz : ((m : Int) == 0) = false := by rw [beq_eq_false_iff_ne]; omega
  have hmz1 : ((m : Int) == -1) = false := by rw [beq_eq_false_iff_ne]; omega
  obtain ⟨hdv, hmd⟩ := HDV.out
  go_wp2_with fail
  try simp only [hdv]
  refine Calls.mono (HDT.out _ HV2.out) ?_
  rintro e w3 ⟨r, rfl, hrow, hk⟩
  obtain ⟨g4, c4, rfl, _, hg4, hC4, hc4⟩ := row_form hrow (by omega)
  have HK3 := Lib.hid (HK2.out.trans hk); have HV3 := Lib.hid (HV2.out.kept hk); have HC3 := Lib.hid hC4; have HG3 := Lib.hid hg4
  clear hk hrow hC4 hg4 HK2 HV2 HDT
  go_wp2
  try simp only [hmd]
  clear hdv hmd
  go_loopw [12, 13] (fun v i wr => ∃ (k : Nat), k ≤ m ∧ i = .int .i64 k ∧ Hid (wr.ownsRow w3.heap.size 47 2 v (erTo DA j k).length (evals (erTo DA j k))) ∧ Hid (Kept w3 wr)) (fun _ i _ => m - (intOf i).toNat)
  case atStart => exact ⟨0, Nat.zero_le _, rfl, Lib.hid (owns_empty w3 _ 2), Lib.hid ((Kept.refl _).alloc _)⟩
  case round =>
    obtain ⟨k, hk, rfl, HO, HK⟩ := hrel
    obtain ⟨oa', cap', rfl⟩ := ownsRow_form1 HO.out
    have hle := erTo_le DA j k
    by_cases hlt : k < m
    · by_cases hjk : k = j
      · have HO2 : Hid (wr.ownsRow w3.heap.size 47 2 (.slice oa' (erTo DA j k).length cap') (erTo DA j (k + 1)).length (evals (erTo DA j (k + 1)))) := Lib.hid (by
          rw [show erTo DA j (k + 1) = erTo DA j k by rw [erTo, if_neg (by simpa using hjk)]]; exact HO.out)
        have t1 : ((k : Int) != (j : Int)) = false := by simp [hjk]
        have t2 : (k != j) = false := by simp [hjk]
        clear hjk HO
        go_wp2
        go_roundw
        case rel => exact ⟨k + 1, hlt, by go_num, HO2, HK⟩
        case measure => simp [intOf]; omega
      · have HST : Hid (erTo DA j (k + 1) = erTo DA j k ++ [DA.getD k (0, 0)]) := Lib.hid (by rw [erTo, if_pos hjk])
        have HCP := Lib.hid (evals_take (Cells.kept HC3.out HK.out) (k := k) (by rw [HDL.out]; exact hlt))
        generalize DA.getD k (0, 0) = p at *
        obtain ⟨ax, ay⟩ := p
        have t1 : ((k : Int) != (j : Int)) = true := by simp; omega
        have t2 : (k != j) = true := by simp [hjk]
        have t3 : ¬ k = j := hjk
        have hlt2 : (k : Int) < (m : Int) := by omega
        go_wp2_with (refine stop_at (o := ⟨some 55, _, _, _, _, _⟩) ?_)
        refine Stop.mk ?_
        refine wpList_load_agg rfl _ rfl ty_plc g4 (k * 2) rfl _ HCP.out rfl ?_
        go_wp2_with (refine stop_at (o := ⟨some 57, _, _, _, _, _⟩) ?_)
        refine Stop.mk ?_
        obtain ⟨ht', ⟨i1, z1, hi, hz, hsz', hby, hzs⟩, hpos⟩ := ty_places2
        refine wpList_append_own_wide _ rfl _ _ 39 rfl w3.heap.size 47 i1 z1 2 16 ht' hi hz hsz' hby hzs (by decide) _ (erTo DA j k).length (evals (erTo DA j k)) rfl (HO.out.alloc _) ⟨wr.heap.size, 0, none⟩ 1 1 [.int .i64 ax, .int .i64 ay] rfl rfl (two_new _ _ _ _) (evals_one [(ax, ay)]) (by have : maxLen = 9223372036854775807 := rfl; omega) (by omega) (by have := HK.out.size; rw [World.size_alloc]; omega) ?_
        intro v5 w5 hown hgrow _
        have HK5 : Hid (Kept w3 w5) := Lib.hid ((HK.out.alloc _).grown hgrow (fun j ej => row_ge HO.out ej))
        have HO5 : Hid (w5.ownsRow w3.heap.size 47 2 v5 (erTo DA j (k + 1)).length (evals (erTo DA j (k + 1)))) := Lib.hid (by rw [HST.out, evals_append, List.length_append]; exact hown)
        clear hown hgrow HO HK HCP ht' hi hz hsz' hby hzs hpos HST
        go_wp2
        go_roundw
        case rel => exact ⟨k + 1, hlt, by go_num, HO5, HK5⟩
        case measure => simp [intOf]; omega
    · have hkm : k = m := by omega
      have hon := HO.out
      have her := HER.out
      rw [hkm, her] at hon
      have hlk : (erTo DA j k).length = DK.length := by rw [hkm, her]
      rw [hlk]
      have HO2 := Lib.hid hon
      have HK4 := Lib.hid (HK3.out.trans HK.out); have HV4 := Lib.hid (HV3.out.kept HK.out)
      have HW3 := Lib.hid (And.intro HK3.out.size HK.out.size)
      have hkl : DK.length + 1 ≤ m ∧ m ≤ DK.length + 1 := ⟨by have := HDK.out; omega, by have := HDK.out; omega⟩
      clear hkm hon her hlk HO HK hle HER HK3 HV3 HC3
      have hdv := HDV.out.1
      go_wp2_with fail
      try simp only [hdv]
      refine Calls.mono (HPM.out _ HV4.out) ?_
      rintro e w5 ⟨rfl, hk5⟩
      have HK5 := Lib.hid (HK4.out.trans hk5); have HO5 := Lib.hid (ownsRow_kept HO2.out hk5)
      have HW5 := Lib.hid hk5.size
      clear hk5 HK4 HO2 HV4 hdv
      go_wp2_with (refine stop_at (o := ⟨some 14, _, _, _, _, _⟩) ?_)
      refine Stop.mk ?_
      refine wpList_new_row rfl rfl _ _ rfl rfl ty_plc _ zero_plc rfl [.int .i64 qx, .int .i64 qy] rfl rfl (one_plc _ _) rfl ?_
      intro w6 hz hs6 hk
      have HQ6 := hz; have HK6 := Lib.hid (HK5.out.trans hk); have HO6 := Lib.hid (ownsRow_kept HO5.out hk); have HW6 := Lib.hid hk.size
      generalize hQb : w5.heap.size = Qb at *
      clear hz hs6 hk HK5 HO5
      go_wp2_with (refine stop_at (o := ⟨some 65, _, _, _, _, _⟩) ?_)
      refine Stop.mk ?_
      refine wpList_load_agg rfl _ rfl ty_plc Qb 0 rfl [.int .i64 qx, .int .i64 qy] (by simpa using Cells.of_block HQ6.out) rfl ?_
      go_wp2_with (refine stop_at (o := ⟨some 67, _, _, _, _, _⟩) ?_)
      refine Stop.mk ?_
      obtain ⟨ht', ⟨i1, z1, hi, hz, hsz', hby, hzs⟩, hpos⟩ := ty_places2
      refine wpList_append_own_wide _ rfl _ _ 39 rfl w3.heap.size 47 i1 z1 2 16 ht' hi hz hsz' hby hzs (by decide) _ DK.length (evals DK) rfl (HO6.out.alloc _) ⟨w6.heap.size, 0, none⟩ 1 1 [.int .i64 qx, .int .i64 qy] rfl rfl (two_new _ _ _ _) (evals_one [(qx, qy)]) (by have : maxLen = 9223372036854775807 := rfl; omega) (by omega) (by have := HW3.out; have := HW5.out; have := HW6.out; rw [World.size_alloc]; omega) ?_
      intro v7 w7 hown hgrow _
      have HK7 : Hid (Kept w w7) := Lib.hid ((HK6.out.alloc _).grown hgrow (fun j ej => by have := row_ge HO6.out ej; have := HW3.out; omega))
      have HO7 : Hid (w7.ownsRow w.heap.size 47 2 v7 m (evals (DK ++ [(qx, qy)]))) := Lib.hid (by
        rw [evals_append, show m = DK.length + 1 by omega]
        exact ownsRow_base hown HW3.out.1)
      clear hown hgrow HK6 HO6 HQ6 ht' hi hz hsz' hby hzs hpos
      go_wp2
      go_ret2
      exact ⟨_, rfl, HO7.out, HK7.out⟩
theorem rf_Mates_no {v : Value} {L : List (Int × Int)} (h : ESl w v L) (hN : Near L) (slot : Int) (hc : (homeX L slot).2 ≠ 0) :
    Calls Tryz.prog 67 #[v, .int .i64 slot] w fun e W' => e = .returned (.tuple #[.slice none 0 0, .int .i64 (homeX L slot).2]) ∧ Kept w W' := by
  have HHM := Lib.hid (rf_Home h hN slot)
  obtain ⟨oa, cap, rfl, _⟩ := h
  obtain ⟨⟨⟨px, py⟩, c⟩, hx⟩ : ∃ p, homeX L slot = p := ⟨_, rfl⟩
  rw [hx] at HHM hc ⊢
  have hc' : c ≠ 0 := hc
  have t1 : (c != 0) = true := by simpa using hc'
  have t2 : (c == 0) = false := by simpa using hc'
  clear hN hx hc hc'
  go_enter Tryz.func67, Tryz.ntmps67
  go_wp2_with fail
  refine Calls.mono HHM.out ?_
  rintro e w1 ⟨rfl, hk⟩
  have HK1 := Lib.hid hk
  clear hk HHM
  go_wp2_with (refine stop_at (o := ⟨some 6, _, _, _, _, _⟩) ?_)
  refine Stop.mk ?_
  refine wpList_new_row rfl rfl _ _ rfl rfl ty_plc _ zero_plc rfl [.int .i64 px, .int .i64 py] rfl rfl (one_plc _ _) rfl ?_
  intro w2 hz hs2 hk
  have HK2 := Lib.hid (HK1.out.trans hk)
  generalize w1.heap.size = Pb at *
  clear hz hs2 hk HK1
  go_wp2
  go_ret2
  exact ⟨rfl, HK2.out⟩
end
/-- extents that come in -/
def XtSrc (w : World) (v : Value) (l : List (Int × Int)) : Prop := ∃ oa cap, v = .slice oa l.length cap ∧ l.length ≤ cap ∧ cap ≤ maxLen ∧ ∀ k (hk : k < l.length), ∃ b off, oa = some ⟨b, off, none⟩ ∧
  w.cell? ⟨b, off + k * 2, none⟩ = some (.int .i64 l[k].1) ∧ w.cell? ⟨b, off + k * 2 + 1, none⟩ = some (.int .i64 l[k].2)
theorem XtSrc.kept {w w' : World} {v : Value} {l : List (Int × Int)} (h : XtSrc w v l) (hk : Kept w w') : XtSrc w' v l := by
  obtain ⟨oa, cap, rfl, h1, h2, h3⟩ := h
  refine ⟨oa, cap, rfl, h1, h2, fun k hkl => ?_⟩
  obtain ⟨b, off, e, c0, c1⟩ := h3 k hkl
  exact ⟨b, off, e, hk.cell' c0, hk.cell' c1⟩
set_option maxRecDepth 100000 in
theorem open_exts {H : Type} {enc : TypeId × Value → H} {w : World} {base : Nat} {spare : Nat → Bool} {held : Bool} {fuel : Nat} {v : Value} {x : DataW H × List MemPlace}
    (h : DataW.trod enc Tryz.prog w base spare held fuel 22 [v] = some x) : ∃ l, XtSrc w v l := by
  rcases Go.Deep.open_slice Tryz.underlying22 h with ⟨hcs, _⟩ | ⟨a, len, cap, m, n, D, Pl, hcs, _, hl, hmx, hm, _, hi⟩
  · simp at hcs; subst hcs; exact ⟨[], none, 0, rfl, Nat.le_refl _, by decide, fun k hk => by cases hk⟩
  simp at hcs
  subst hcs
  have hlm : len ≤ m := by rw [hm]; split <;> omega
  have hC : Tryz.prog.cellsOf 64 = 2 := by kernel_rfl
  have hC1 : Tryz.prog.cellsOf 3 = 1 := by kernel_rfl
  have key : ∀ i, ∃ y : Int × Int, i < len → w.cell? ((a.add (i * 2)).add 0) = some (.int .i64 y.1) ∧ w.cell? ((a.add (i * 2)).add 1) = some (.int .i64 y.2) := by
    intro i
    by_cases hil : i < len
    · obtain ⟨cs', hc, ht⟩ := hi i (by omega)
      rw [hC] at hc
      obtain ⟨_, hcl, hat⟩ := World.cells?_some hc
      obtain ⟨xs, n', _, _, _, hxl, hf⟩ := DataW.trod_struct Tryz.underlying64 ht
      replace hxl : xs.length = 2 := hxl
      rcases cs' with _ | ⟨c0, _ | ⟨c1, _ | ⟨c2, r⟩⟩⟩ <;> simp at hcl
      have f0 : DataW.trod enc Tryz.prog w base spare held n' 3 ((([c0, c1] : List Value).drop 0).take (Tryz.prog.cellsOf 3)) = xs[0]? := hf 0 _ rfl
      have f1 : DataW.trod enc Tryz.prog w base spare held n' 3 ((([c0, c1] : List Value).drop 1).take (Tryz.prog.cellsOf 3)) = xs[1]? := hf 1 _ rfl
      rw [hC1, List.getElem?_eq_getElem (by omega)] at f0 f1
      obtain ⟨z0, hz0, _, _⟩ := DataW.trod_int Tryz.underlying3 f0
      obtain ⟨z1, hz1, _, _⟩ := DataW.trod_int Tryz.underlying3 f1
      simp at hz0 hz1
      subst hz0 hz1
      exact ⟨⟨z0, z1⟩, fun _ => ⟨hat 0 (by omega), hat 1 (by omega)⟩⟩
    · exact ⟨⟨0, 0⟩, fun h' => absurd h' hil⟩
  obtain ⟨f, hf⟩ := Classical.axiomOfChoice key
  refine ⟨(List.range len).map f, some a, cap, by simp, by simpa using hl, hmx, fun k hk => ?_⟩
  have hk' : k < len := by simpa using hk
  have h1 := hf k hk'
  obtain ⟨b, off, spot⟩ := a
  have hsp := World.cell?_spot (hf 0 (by omega)).1
  have hspot : spot = none := by simpa [Addr.add] using hsp
  subst hspot
  refine ⟨b, off, rfl, ?_⟩
  simp only [Addr.add_mid] at h1
  simpa using h1
end Go.Proofs.YtglplhmclfekfaaGreat
/- law13's few; Data and Mates in one form. -/
namespace Go.Proofs.YtglplhmclfekfaaGreat
open Go.RowKit Go.Shelf
set_option linter.unusedVariables false
set_option linter.unusedSimpArgs false
attribute [local go_sem] Oper.semAt_some

def fewL (l : List (Int × Int)) : List (Int × Int) := (l.take 9).map fun p => (p.1, p.2 % 1024)
theorem fewL_len (l : List (Int × Int)) : (fewL l).length = min 9 l.length := by simp [fewL]
theorem fewL_take {l : List (Int × Int)} {k : Nat} (h : k < l.length) (h9 : k < 9) {x yv : Int} (hx : l[k] = (x, yv)) {y : Int} (hy : yv % 1024 = y) : evals ((fewL l).take (k + 1)) = evals ((fewL l).take k) ++ [.int .i64 x, .int .i64 y] := by
  have hl : k < (fewL l).length := by rw [fewL_len]; omega
  rw [List.take_succ_eq_append_getElem hl, evals_append]
  have : (fewL l)[k] = (x, y) := by simp [fewL, hx, hy]
  rw [this]; rfl
theorem fewL_near (l : List (Int × Int)) : Near (fewL l) := ⟨by rw [fewL_len]; omega, fun k hk => by
  rw [← getElem_getD hk]
  simp only [fewL, List.getElem_map]
  omega⟩
section
variable {w : World}
set_option maxHeartbeats 2000000
set_option maxRecDepth 100000
theorem law_fewO {v : Value} {l : List (Int × Int)} (h : XtSrc w v l) : Calls Tryz.prog 8 #[v] w fun e w' => ∃ r, e = .returned r ∧ ESl w' r (fewL l) ∧ (∀ g, r.ownBlock = some g → w.heap.size ≤ g ∧ g < w'.heap.size) ∧ Kept w w' := by
  obtain ⟨oa, cap, rfl, _, _, hat⟩ := h
  have HAT := Lib.hid hat
  clear hat
  go_enter Tryz.func8, Tryz.ntmps8
  go_wp2
  go_loopw [3, 4] (fun v i wr => ∃ k : Nat, k ≤ l.length ∧ k ≤ 9 ∧ i = .int .i64 k ∧ Hid (wr.ownsRow w.heap.size 64 2 v k (evals ((fewL l).take k))) ∧ Hid (Kept w wr)) (fun _ i _ => 9 - (intOf i).toNat)
  case atStart => exact ⟨0, Nat.zero_le _, Nat.zero_le _, rfl, Lib.hid (owns_empty w _ 2), Lib.hid ((Kept.refl _).alloc _)⟩
  case round =>
    obtain ⟨k, hk, hk9, rfl, HO, HK⟩ := hrel
    obtain ⟨oa', cap', rfl⟩ := ownsRow_form1 HO.out
    by_cases hgo : k < l.length ∧ k < 9
    · obtain ⟨hlt, hlt9⟩ := hgo
      obtain ⟨b, off, rfl, c0, c1⟩ := HAT.out k hlt
      obtain ⟨⟨x, yv⟩, hx⟩ : ∃ p, l[k] = p := ⟨_, rfl⟩
      rw [hx] at c0 c1
      obtain ⟨y, hy, hyl⟩ := and_low yv 10 (by decide) (m := 1023) (by decide)
      have HTK := Lib.hid (fewL_take hlt hlt9 hx (y := (y : Int)) (by rw [← hy]; exact (i64_and_mask yv 10 (by decide)).symm))
      clear hx
      go_upto_region 5 with fail
      have hS : wr.drew.cell? ⟨b, off + k * 2, none⟩ = some (.int .i64 x) ∧ wr.drew.cell? ⟨b, off + k * 2 + 1, none⟩ = some (.int .i64 yv) := ⟨HK.out.cell' c0, HK.out.cell' c1⟩
      refine wp_region_calm ?_
      refine wp_region_E (fun W => W.cell? ⟨b, off + k * 2, none⟩ = some (.int .i64 x) ∧ W.cell? ⟨b, off + k * 2 + 1, none⟩ = some (.int .i64 yv)) 100 (by kernel_rfl) ?_
      refine wpAnyE_take (i := 0) (v := ?_) (listed' := #[true, false, false, false, false, false, false, false, false, false, false, false, false, false, false, false]) (by rfl) (by kernel_rfl) (by kernel_rfl) calm_put hS (by rfl) ?_ ?_
      rotate_left
      · intro W hW; clear hW; go_simp; try (with_reducible rfl)
      simp only [Act.put, List.getElem_toArray, List.getElem_cons_succ, List.getElem_cons_zero, List.setIfInBounds_toArray, List.set_cons_zero, List.set_cons_succ]
      refine wpAnyE_take (i := 1) (v := ?_) (listed' := #[true, true, false, false, false, false, false, false, false, false, false, false, false, false, false, false]) (by rfl) (by kernel_rfl) (by kernel_rfl) calm_put hS (by rfl) ?_ ?_
      rotate_left
      · intro W hW; clear hW; go_simp; try (with_reducible rfl)
      simp only [Act.put, List.getElem_toArray, List.getElem_cons_succ, List.getElem_cons_zero, List.setIfInBounds_toArray, List.set_cons_zero, List.set_cons_succ]
      refine wpAnyE_take (i := 2) (v := ?_) (listed' := #[true, true, true, false, false, false, false, false, false, false, false, false, false, false, false, false]) (by rfl) (by kernel_rfl) (by kernel_rfl) calm_put hS (by rfl) ?_ ?_
      rotate_left
      · intro W hW; clear hW; go_simp; try (with_reducible rfl)
      simp only [Act.put, List.getElem_toArray, List.getElem_cons_succ, List.getElem_cons_zero, List.setIfInBounds_toArray, List.set_cons_zero, List.set_cons_succ]
      refine wpAnyE_take (i := 3) (v := ?_) (listed' := #[true, true, true, true, false, false, false, false, false, false, false, false, false, false, false, false]) (by rfl) (by kernel_rfl) (by kernel_rfl) calm_put hS (by rfl) ?_ ?_
      rotate_left
      · intro W hW; clear hW; go_simp; try (with_reducible rfl)
      simp only [Act.put, List.getElem_toArray, List.getElem_cons_succ, List.getElem_cons_zero, List.setIfInBounds_toArray, List.set_cons_zero, List.set_cons_succ]
      refine wpAnyE_take (i := 4) (v := ?_) (listed' := #[true, true, true, true, true, false, false, false, false, false, false, false, false, false, false, false]) (by rfl) (by kernel_rfl) (by kernel_rfl) calm_put hS (by rfl) ?_ ?_
      rotate_left
      · intro W hW; clear hW; go_simp; try (with_reducible rfl)
      simp only [Act.put, List.getElem_toArray, List.getElem_cons_succ, List.getElem_cons_zero, List.setIfInBounds_toArray, List.set_cons_zero, List.set_cons_succ]
      refine wpAnyE_take (i := 5) (v := ?_) (listed' := #[true, true, true, true, true, true, false, false, false, false, false, false, false, false, false, false]) (by rfl) (by kernel_rfl) (by kernel_rfl) calm_put hS (by rfl) ?_ ?_
      rotate_left
      · intro W hW; obtain ⟨p0, p1⟩ := hW; go_simp; try (with_reducible rfl)
      simp only [Act.put, List.getElem_toArray, List.getElem_cons_succ, List.getElem_cons_zero, List.setIfInBounds_toArray, List.set_cons_zero, List.set_cons_succ]
      refine wpAnyE_take (i := 6) (v := ?_) (listed' := #[true, true, true, true, true, true, true, false, false, false, false, false, false, false, false, false]) (by rfl) (by kernel_rfl) (by kernel_rfl) calm_put hS (by rfl) ?_ ?_
      rotate_left
      · intro W hW; clear hW; go_simp; try (with_reducible rfl)
      simp only [Act.put, List.getElem_toArray, List.getElem_cons_succ, List.getElem_cons_zero, List.setIfInBounds_toArray, List.set_cons_zero, List.set_cons_succ]
      refine wpAnyE_take (i := 7) (v := ?_) (listed' := #[true, true, true, true, true, true, true, true, false, false, false, false, false, false, false, false]) (by rfl) (by kernel_rfl) (by kernel_rfl) calm_put hS (by rfl) ?_ ?_
      rotate_left
      · intro W hW; clear hW; go_simp; try (with_reducible rfl)
      simp only [Act.put, List.getElem_toArray, List.getElem_cons_succ, List.getElem_cons_zero, List.setIfInBounds_toArray, List.set_cons_zero, List.set_cons_succ]
      refine wpAnyE_take (i := 8) (v := ?_) (listed' := #[true, true, true, true, true, true, true, true, true, false, false, false, false, false, false, false]) (by rfl) (by kernel_rfl) (by kernel_rfl) calm_put hS (by rfl) ?_ ?_
      rotate_left
      · intro W hW; clear hW; go_simp; try (with_reducible rfl)
      simp only [Act.put, List.getElem_toArray, List.getElem_cons_succ, List.getElem_cons_zero, List.setIfInBounds_toArray, List.set_cons_zero, List.set_cons_succ]
      refine wpAnyE_take (i := 9) (v := ?_) (listed' := #[true, true, true, true, true, true, true, true, true, true, false, false, false, false, false, false]) (by rfl) (by kernel_rfl) (by kernel_rfl) calm_put hS (by rfl) ?_ ?_
      rotate_left
      · intro W hW; clear hW; go_simp; try (with_reducible rfl)
      simp only [Act.put, List.getElem_toArray, List.getElem_cons_succ, List.getElem_cons_zero, List.setIfInBounds_toArray, List.set_cons_zero, List.set_cons_succ]
      refine wpAnyE_take (i := 10) (v := ?_) (listed' := #[true, true, true, true, true, true, true, true, true, true, true, false, false, false, false, false]) (by rfl) (by kernel_rfl) (by kernel_rfl) calm_put hS (by rfl) ?_ ?_
      rotate_left
      · intro W hW; obtain ⟨p0, p1⟩ := hW; go_simp; try (with_reducible rfl)
      simp only [Act.put, List.getElem_toArray, List.getElem_cons_succ, List.getElem_cons_zero, List.setIfInBounds_toArray, List.set_cons_zero, List.set_cons_succ]
      refine wpAnyE_take (i := 11) (v := ?_) (listed' := #[true, true, true, true, true, true, true, true, true, true, true, true, false, false, false, false]) (by rfl) (by kernel_rfl) (by kernel_rfl) calm_put hS (by rfl) ?_ ?_
      rotate_left
      · intro W hW; clear hW; go_simp; try (with_reducible rfl)
      simp only [Act.put, List.getElem_toArray, List.getElem_cons_succ, List.getElem_cons_zero, List.setIfInBounds_toArray, List.set_cons_zero, List.set_cons_succ]
      refine wpAnyE_take (i := 12) (v := ?_) (listed' := #[true, true, true, true, true, true, true, true, true, true, true, true, true, false, false, false]) (by rfl) (by kernel_rfl) (by kernel_rfl) calm_put hS (by rfl) ?_ ?_
      rotate_left
      · intro W hW; clear hW; go_simp; try (with_reducible rfl)
      simp only [Act.put, List.getElem_toArray, List.getElem_cons_succ, List.getElem_cons_zero, List.setIfInBounds_toArray, List.set_cons_zero, List.set_cons_succ]
      refine wpAnyE_one (i := 13) (listed' := #[true, true, true, true, true, true, true, true, true, true, true, true, true, true, false, false]) (by rfl) (by kernel_rfl) (by kernel_rfl) (by rfl) (fun K hK => ?_)
      simp only [Act.put, List.getElem_toArray, List.getElem_cons_succ, List.getElem_cons_zero, List.setIfInBounds_toArray, List.set_cons_zero, List.set_cons_succ]
      go_wp2_with fail
      have hk2 : Kept wr (wr.alloc (.cells #[.int .i64 x, .int .i64 (y : Int)] 64)).drew := ((Kept.refl _).alloc _).drew
      have HO2 := Lib.hid (ownsRow_kept HO.out hk2); have HK2 := Lib.hid (HK.out.trans hk2)
      have hS : (wr.alloc (.cells #[.int .i64 x, .int .i64 (y : Int)] 64)).drew.cell? ⟨b, off + k * 2, none⟩ = some (.int .i64 x) ∧ (wr.alloc (.cells #[.int .i64 x, .int .i64 (y : Int)] 64)).drew.cell? ⟨b, off + k * 2 + 1, none⟩ = some (.int .i64 yv) := ⟨HK2.out.cell' c0, HK2.out.cell' c1⟩
      refine hK _ _ (fun _ => hS) ?_; clear hK K
      refine wpAnyE_one (i := 14) (listed' := #[true, true, true, true, true, true, true, true, true, true, true, true, true, true, true, false]) (by rfl) (by kernel_rfl) (by kernel_rfl) (by rfl) (fun K hK => ?_)
      simp only [Act.put, List.getElem_toArray, List.getElem_cons_succ, List.getElem_cons_zero, List.setIfInBounds_toArray, List.set_cons_zero, List.set_cons_succ]
      obtain ⟨ht', ⟨i1, z1, hi, hz, hsz', hby, hzs⟩, hpos⟩ := ty_extsS
      refine wp_append_own_wide _ _ _ 22 rfl w.heap.size 64 i1 z1 2 16 ht' hi hz hsz' hby hzs (by decide) _ k (evals ((fewL l).take k)) rfl HO2.out ⟨wr.heap.size, 0, none⟩ 1 1 [.int .i64 x, .int .i64 (y : Int)] rfl rfl (fun j u hu => two_new wr _ _ _ j u hu) (evals_one [(x, (y : Int))]) (by have : maxLen = 9223372036854775807 := rfl; omega) (by omega) HK2.out.size ?_
      intro v9 w9 hown hgrow _
      have HK9 : Hid (Kept w w9) := Lib.hid (HK2.out.grown hgrow (fun j ej => row_ge HO2.out ej))
      have HO9 : Hid (w9.ownsRow w.heap.size 64 2 v9 (k + 1) (evals ((fewL l).take (k + 1)))) := Lib.hid (by rw [HTK.out]; exact hown)
      have hS9 : w9.cell? ⟨b, off + k * 2, none⟩ = some (.int .i64 x) ∧ w9.cell? ⟨b, off + k * 2 + 1, none⟩ = some (.int .i64 yv) := ⟨HK9.out.cell' c0, HK9.out.cell' c1⟩
      clear hown hgrow ht' hi hz hsz' hby hzs hpos hS
      have hS := hS9
      clear hS9
      refine hK _ _ (fun _ => hS) ?_; clear hK K
      refine wpAnyE_one (i := 15) (listed' := #[true, true, true, true, true, true, true, true, true, true, true, true, true, true, true, true]) (by rfl) (by kernel_rfl) (by kernel_rfl) (by rfl) (fun K hK => ?_)
      simp only [Act.put, List.getElem_toArray, List.getElem_cons_succ, List.getElem_cons_zero, List.setIfInBounds_toArray, List.set_cons_zero, List.set_cons_succ]
      go_wp2
      refine hK _ _ (fun _ => hS) ?_; clear hK K
      refine wpAnyE_done (by kernel_rfl) ?_ _
      refine calm_normal ?_
      clear c0 c1 hS hy
      go_wp2
      go_roundw
      case rel => exact ⟨k + 1, hlt, hlt9, by go_num, HO9, HK9⟩
      case measure => simp [intOf]; omega
    · have hfl : (fewL l).take k = fewL l := List.take_of_length_le (by rw [fewL_len]; omega)
      have hon := HO.out
      rw [hfl] at hon
      have HE := Lib.hid (ESl.of_owns (L := fewL l) (by rw [fewL_len]; omega) hon)
      have HLE := Lib.hid (fun g (hg : (Value.slice oa' k cap').ownBlock = some g) => And.intro (row_ge hon hg) (own_lt hon hg))
      clear hon hfl HO
      by_cases hlt : k < l.length
      · have h9 : ¬ (k : Int) < 9 := by omega
        go_wp2
        go_ret
        exact ⟨_, rfl, HE.out, HLE.out, HK.out⟩
      · go_wp2
        go_ret
        exact ⟨_, rfl, HE.out, HLE.out, HK.out⟩
theorem law_few {v : Value} {l : List (Int × Int)} (h : XtSrc w v l) : Calls Tryz.prog 8 #[v] w fun e w' => ∃ r, e = .returned r ∧ ESl w' r (fewL l) ∧ Kept w w' :=
  (law_fewO h).mono fun e w' ⟨r, he, ho, _, hk⟩ => ⟨r, he, ho, hk⟩
def dataU (L : List (Int × Int)) (t : Int) : List (Int × Int) := if rightX L.length t = 0 then dataS L t.toNat (-1) else []
def matesU (L : List (Int × Int)) (slot : Int) : List (Int × Int) := if (splitX L.length slot).2.2 = 0 then dataS L (splitX L.length slot).1.toNat (splitX L.length slot).2.1 ++ [plcAt L (splitX L.length slot).1.toNat (holdN L.length (splitX L.length slot).1.toNat)] else []
theorem dataU_len (L : List (Int × Int)) (t : Int) : (dataU L t).length ≤ L.length := by
  unfold dataU
  split
  · exact dataTo_le L t.toNat (-1) L.length
  · simp
theorem matesU_len (L : List (Int × Int)) (slot : Int) : (matesU L slot).length ≤ L.length + 1 := by
  unfold matesU
  split
  · rw [List.length_append]
    have := dataTo_le L (splitX L.length slot).1.toNat (splitX L.length slot).2.1 L.length
    unfold dataS
    simp; omega
  · simp
theorem ESl.nil (w : World) : ESl w (.slice none 0 0) [] := ⟨none, 0, rfl, fun k hk => by cases hk⟩
theorem st_Data_no (oa : Option Addr) (n cap : Nat) (hn : n ≤ 1000) (t : Int) (h : rightX n t ≠ 0) (w : World) :
    Calls Tryz.prog 57 #[.slice oa n cap, .int .i64 t] w fun e w' => e = .returned (.tuple #[.slice none 0 0, .int .i64 (rightX n t)]) ∧ w = w' := by
  have HR := Lib.hid fun W => st_right oa n cap hn t W
  generalize rightX n t = c at *
  have t1 : (c != 0) = true := by simpa using h
  have t2 : (c == 0) = false := by simpa using h
  refine (callsIn_wide (n := 12)).1 ?_
  refine callsIn_of_wp_marks Tryz.func57 rfl trivial ?_ rfl
  simp only [Tryz.ntmps57, List.size_toArray, List.length_cons, List.length_nil, Nat.reduceAdd, Nat.reduceSub, Array.replicate_succ, Array.replicate_zero, List.push_toArray, List.append_toArray, List.nil_append, List.cons_append]
  refine wpIn_wide.2 ?_
  go_wp2_with fail
  refine Calls.mono (HR.out _) ?_
  rintro e w' ⟨rfl, rfl⟩
  go_wp2
  refine ⟨_, results_tmp2 rfl _ _, rfl, rfl⟩
theorem st_Mates_no (oa : Option Addr) (n cap : Nat) (hn : n ≤ 1000) (slot : Int) (h : (splitX n slot).2.2 ≠ 0) (w : World) :
    Calls Tryz.prog 18 #[.slice oa n cap, .int .i64 slot] w fun e w' => e = .returned (.tuple #[.slice none 0 0, .int .i64 (splitX n slot).2.2]) ∧ Kept w w' := by
  have HR := Lib.hid fun W => st_split oa n cap hn slot W
  generalize (splitX n slot).1 = x at *
  generalize (splitX n slot).2.1 = y at *
  generalize (splitX n slot).2.2 = c at *
  have t1 : (c != 0) = true := by simpa using h
  have t2 : (c == 0) = false := by simpa using h
  refine (callsIn_wide (n := 12)).1 ?_
  refine callsIn_of_wp_marks Tryz.func18 rfl trivial ?_ rfl
  simp only [Tryz.ntmps18, List.size_toArray, List.length_cons, List.length_nil, Nat.reduceAdd, Nat.reduceSub, Array.replicate_succ, Array.replicate_zero, List.push_toArray, List.append_toArray, List.nil_append, List.cons_append]
  refine wpIn_wide.2 ?_
  go_wp2_with fail
  refine Calls.mono (HR.out _) ?_
  rintro e w1 ⟨rfl, hk⟩
  have HK := Lib.hid hk
  clear hk
  go_wp2
  refine ⟨_, results_tmp2 rfl _ _, rfl, HK.out⟩
theorem st_DataU {v : Value} {L : List (Int × Int)} (h : ESl w v L) (hN : Near L) (t : Int) :
    Calls Tryz.prog 57 #[v, .int .i64 t] w fun e w' => ∃ r, e = .returned (.tuple #[r, .int .i64 (rightX L.length t)]) ∧ ESl w' r (dataU L t) ∧ Kept w w' := by
  by_cases hc : rightX L.length t = 0
  · obtain ⟨t, rfl, h2, ht⟩ := rightX_ok hc
    refine (st_Data h hN h2 t ht).mono fun e w' ⟨r, he, hr, hk⟩ => ⟨r, by rw [he, hc], ?_, hk⟩
    unfold dataU
    rw [if_pos hc]
    exact ESl.of_owns rfl hr
  · obtain ⟨oa, cap, rfl, _⟩ := h
    refine (st_Data_no oa L.length cap hN.1 t hc w).mono fun e w' ⟨he, hw⟩ => ⟨_, he, ?_, hw ▸ Kept.refl _⟩
    unfold dataU
    rw [if_neg hc]
    exact ESl.nil _
theorem rf_DataU {v : Value} {L : List (Int × Int)} (h : ESl w v L) (hN : Near L) (t : Int) :
    Calls Tryz.prog 64 #[v, .int .i64 t] w fun e w' => ∃ r, e = .returned (.tuple #[r, .int .i64 (rightX L.length t)]) ∧ ESl w' r (dataU L t) ∧ Kept w w' := by
  by_cases hc : rightX L.length t = 0
  · obtain ⟨t, rfl, h2, ht⟩ := rightX_ok hc
    refine (rf_Data h hN h2 t ht).mono fun e w' ⟨r, he, hr, hk⟩ => ⟨r, by rw [he, hc], ?_, hk⟩
    unfold dataU
    rw [if_pos hc]
    exact ESl.of_owns rfl hr
  · obtain ⟨oa, cap, rfl, _⟩ := h
    refine (rf_Data_no oa L.length cap hN.1 t hc w).mono fun e w' ⟨he, hw⟩ => ⟨_, he, ?_, hw ▸ Kept.refl _⟩
    unfold dataU
    rw [if_neg hc]
    exact ESl.nil _
theorem home_code (L : List (Int × Int)) (slot : Int) : (homeX L slot).2 = (splitX L.length slot).2.2 := by
  unfold homeX
  split
  · rename_i h; exact h.symm
  · rfl
theorem st_MatesU {v : Value} {L : List (Int × Int)} (h : ESl w v L) (hN : Near L) (slot : Int) :
    Calls Tryz.prog 18 #[v, .int .i64 slot] w fun e w' => ∃ r, e = .returned (.tuple #[r, .int .i64 (splitX L.length slot).2.2]) ∧ ESl w' r (matesU L slot) ∧ Kept w w' := by
  by_cases hc : (splitX L.length slot).2.2 = 0
  · obtain ⟨s, rfl, h2, hs, hsp, hk, ht⟩ := splitX_ok hc
    refine (st_Mates h hN (s : Int) hc _ _ h2 ht hk hsp).mono fun e w' ⟨r, he, hr, hk⟩ => ⟨r, by rw [he, hc], ?_, hk⟩
    unfold matesU
    rw [if_pos hc, hsp]
    simp only [Int.toNat_natCast]
    exact ESl.of_owns (by simp) hr
  · obtain ⟨oa, cap, rfl, _⟩ := h
    refine (st_Mates_no oa L.length cap hN.1 slot hc w).mono fun e w' ⟨he, hw⟩ => ⟨_, he, ?_, hw⟩
    unfold matesU
    rw [if_neg hc]
    exact ESl.nil _
theorem rf_MatesU {v : Value} {L : List (Int × Int)} (h : ESl w v L) (hN : Near L) (slot : Int) :
    Calls Tryz.prog 67 #[v, .int .i64 slot] w fun e w' => ∃ r, e = .returned (.tuple #[r, .int .i64 (splitX L.length slot).2.2]) ∧ ESl w' r (matesU L slot) ∧ Kept w w' := by
  by_cases hc : (splitX L.length slot).2.2 = 0
  · obtain ⟨s, rfl, h2, hs, hsp, hk, ht⟩ := splitX_ok hc
    refine (rf_Mates h hN (s := s) (m := L.length - 1) (by omega) (by omega) hs hsp).mono fun e w' ⟨r, he, hr, hk⟩ => ⟨r, by rw [he, hc], ?_, hk⟩
    unfold matesU
    rw [if_pos hc, hsp]
    simp only [Int.toNat_natCast]
    refine ESl.of_owns ?_ hr
    have h1 := hr.1
    rw [evals_length] at h1
    omega
  · have hh := home_code L slot
    refine (rf_Mates_no h hN slot (by rw [hh]; exact hc)).mono fun e w' ⟨he, hk⟩ => ⟨.slice none 0 0, by rw [he, hh], ?_, hk⟩
    unfold matesU
    rw [if_neg hc]
    exact ESl.nil _
end
end Go.Proofs.YtglplhmclfekfaaGreat
