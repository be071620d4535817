/- law13: does (gen_does13.py). -/
import Derived.Test.YtglplhmclfekfaaGreatFhA
namespace Go.Proofs.YtglplhmclfekfaaGreat
open Go.RowKit
set_option linter.unusedVariables false
set_option linter.unusedSimpArgs false

section
variable {w0 W : World} {R : Nat → Prop} {p q c : Nat} {T : BankT}
set_option maxHeartbeats 4000000
set_option maxRecDepth 100000
theorem law_does13 (h : BR w0 R W p T q T.ref) (hs : Sane T 5 20 c) (hc : c < 90000) {v : Value} {L : List (Int × Int)} (hv : ESl W v L) (hN : Near L) (hl9 : L.length ≤ 9) (hvR : ∀ k, v.ownBlock = some k → R k) (kd k t n more : Int) (a : Bool) (m : Int) (hn : -9223372036854775808 ≤ n ∧ n ≤ 9223372036854775807) (hmo : -9223372036854775808 ≤ more ∧ more ≤ 9223372036854775807) (hm : 0 ≤ m ∧ m < 18446744073709551616) :
    Calls Tryz.prog 9 #[.pointer (some ⟨p, 0, none⟩), .pointer (some ⟨q, 0, none⟩), v, .agg #[.int .i64 kd, .int .i64 k, .int .i64 t, .int .i64 n, .int .i64 more, .bool a, .int .u64 m]] W fun e w' => e = .returned (.bool true) ∧ ∃ T', BR w0 R w' p T' q T'.ref ∧ Sane T' 5 20 (c + 12) ∧ SameR R W w' := by
  have hu := hs.use (by decide) (by omega)
  have hd := hs.doc (by decide) (by omega)
  have HU : Hid (T.Use ∧ T.Doc ∧ Sane T 5 20 c) := Lib.hid ⟨hu, hd, hs⟩
  have HB9 : Hid ((-9223372036854775808 ≤ n ∧ n < 9223372036854775808) ∧ (0 ≤ m ∧ m < 18446744073709551616) ∧ c < 90000 ∧ L.length ≤ 9 ∧ -9223372036854775808 ≤ more ∧ more ≤ 9223372036854775807) := Lib.hid ⟨⟨hn.1, by omega⟩, hm, hc, hl9, hmo⟩
  have hk1 := (Kept.refl W).alloc (Obj.cells #[.int .i64 kd, .int .i64 k, .int .i64 t, .int .i64 n, .int .i64 more, .bool a, .int .u64 m] 35)
  have hb1 : _ = some (Obj.cells [Value.int .i64 kd, .int .i64 k, .int .i64 t, .int .i64 n, .int .i64 more, .bool a, .int .u64 m].toArray 35 (0, 0)) := heap_alloc_new W (Obj.cells #[.int .i64 kd, .int .i64 k, .int .i64 t, .int .i64 n, .int .i64 more, .bool a, .int .u64 m] 35)
  have HS0 := Lib.hid (h.keptS hk1).2
  have HP := Lib.hid (h.box hk1 (Array.getElem?_eq_some_iff.1 hb1).1)
  have HV := Lib.hid (hv.kept hk1)
  have HN := Lib.hid hN
  have HVR := Lib.hid hvR
  have p0 := cell_of_row _ _ 0 _ _ _ hb1
  have HB := Lib.hid hb1
  obtain ⟨oa, cap, hvv⟩ : ∃ oa cap, v = .slice oa L.length cap := by obtain ⟨oa, cap, e, _⟩ := hv; exact ⟨oa, cap, e⟩
  clear h hk1 hb1 hn hm hc hs hu hd hv hN hvR hl9 hmo
  subst hvv
  go_enter Tryz.func9, Tryz.ntmps9
  go_wp2_with (refine stop_at (o := ⟨some 29, _, _, _, _, _⟩) ?_)
  obtain ⟨Bo, hBo⟩ : ∃ Bo, Bo = W.heap.size := ⟨_, rfl⟩
  rw [← hBo] at p0 HB HP ⊢
  generalize W.alloc (Obj.cells #[.int .i64 kd, .int .i64 k, .int .i64 t, .int .i64 n, .int .i64 more, .bool a, .int .u64 m] 35) = w1 at *
  clear hBo
  refine Stop.mk ?_
  by_cases e1 : kd = 1
  · subst e1
    obtain ⟨b1, hb1, hb2⟩ := and_low more 1 (by decide) (m := 1) (by decide)
    have hb2 : b1 ≤ 1 := by omega
    obtain ⟨N, hNN⟩ : ∃ N : Nat, (N : Int) = max 0 ((L.length : Int) - 1 + (b1 : Int)) := ⟨((L.length : Int) - 1 + (b1 : Int)).toNat, by omega⟩
    have HNN : Hid (N ≤ 10 ∧ (∀ i : Nat, ((i : Int) < (L.length : Int) - 1 + (b1 : Int)) ↔ i < N)) := Lib.hid ⟨by have := HB9.out; omega, fun i => by omega⟩
    have hl9 : (L.length : Int) ≤ 9 := by have := HB9.out; omega
    have hb3 : (b1 : Int) ≤ 1 := by omega
    have HB1 := Lib.hid hb1
    clear hNN hb2
    have c3 := cell_of_row _ _ 3 _ _ _ HB.out
    have c4 := cell_of_row _ _ 4 _ _ _ HB.out
    go_wp2
    go_loopw [9, 10] (fun o i wr => ∃ (j : Nat), j ≤ N ∧ i = .int .i64 j ∧ Hid (SL wr o (secsN n j)) ∧ Hid (From w1.heap.size o) ∧ Hid (Kept w1 wr)) (fun _ i _ => N - (intOf i).toNat)
    case atStart => exact ⟨0, Nat.zero_le _, rfl, Lib.hid (SL.nil _), Lib.hid (fun g hg => by simp [Value.ownBlock] at hg), Lib.hid (Kept.refl _)⟩
    case round =>
      obtain ⟨j, hj, rfl, HL, HF, HK⟩ := hrel
      obtain ⟨o, ho⟩ : ∃ o, o = u9 := ⟨_, rfl⟩
      rw [← ho] at HL HF ⊢
      clear ho
      have c3' := HK.out.cell' c3
      have c4' := HK.out.cell' c4
      clear c3 c4
      by_cases hlt : j < N
      · have HLT := Lib.hid hlt
        have hjt : decide ((j : Int) < (L.length : Int) - 1 + (b1 : Int)) = true := decide_eq_true ((HNN.out.2 j).2 hlt)
        have hj9 : (j : Int) ≤ 10 := by have := HNN.out; omega
        go_wp2_with fail
        refine Calls.mono (s_sector _ _) ?_
        rintro e w2 ⟨rfl, hk⟩
        have HL2 := Lib.hid (HL.out.kept hk); have HK2 := Lib.hid (HK.out.trans hk)
        clear hk HL HK c3' c4'
        go_wp2_with (refine stop_at (o := ⟨some 49, _, _, _, _, _⟩) ?_)
        refine Stop.mk ?_
        refine wpList_one_sec rfl _ rfl _ (secN_len _) rfl ?_
        intro w3 hz hs hk
        have HZ3 := hz; have HL3 := Lib.hid (HL2.out.kept hk); have HK3 := Lib.hid (HK2.out.trans hk)
        generalize w2.heap.size = Zb at *
        clear hz hs hk HL2 HK2
        go_wp2_with (refine stop_at (o := ⟨some 50, _, _, _, _, _⟩) ?_)
        refine Stop.mk ?_
        refine wpList_append_sec rfl _ _ rfl (secsN n j) rfl HL3.out (by rw [secsN_len]; omega) Zb rfl _ (secN_len _) HZ3.out ?_
        intro v' w4 hv' hg
        have HL4 : Hid (SL w4 v' (secsN n (j + 1))) := Lib.hid (by rw [secsN_succ]; exact hv')
        have HF4 := Lib.hid (HF.out.grw hg HK3.out.size)
        have HK4 := Lib.hid (hg.keeps HK3.out HF.out)
        clear hv' hg HL3 HK3 HZ3 HF
        go_wp2
        go_roundw
        case rel => exact ⟨j + 1, HLT.out, by go_num, HL4, HF4, HK4⟩
        case measure => simp [intOf]; have := HLT.out; omega
      · have hje : j = N := by omega
        subst hje
        have hjt : decide ((j : Int) < (L.length : Int) - 1 + (b1 : Int)) = false := decide_eq_false (fun h => hlt ((HNN.out.2 j).1 h))
        have HP2 : Hid (BR w0 (fun k => (R k ∨ k = Bo) ∨ o.ownBlock = some k) wr p T q T.ref) := Lib.hid (HP.out.range HK.out (fun k => o.ownBlock = some k) (fun k hk => ⟨HF.out k hk, own_lt HL.out.1 hk⟩))
        have HV2 := Lib.hid (HV.out.kept HK.out)
        have HS2 := Lib.hid (HP.out.keptS HK.out).2
        have HSL := Lib.hid HL.out
        have HBo := Lib.hid (HK.out.block HB.out)
        have HSS : Hid (∀ s ∈ secsN n j, IsSec s) := Lib.hid (fun s hs => secsN_is n j s hs)
        have HS9 : Hid ((secsN n j).length ≤ 1000) := Lib.hid (by rw [secsN_len]; have := HNN.out; omega)
        obtain ⟨so, sc, rfl⟩ : ∃ so sc, o = .slice so (secsN n j).length sc := by obtain ⟨so, sc, e, _⟩ := HL.out.form; exact ⟨so, sc, e⟩
        generalize secsN n j = S at *
        clear HL HF HK HP HV HB hlt
        have HN2 : Hid (Sane (T.fullU L t S).1 5 20 (c + 12)) := Lib.hid (by have h9 := HB9.out; exact (HU.out.2.2.fullU L t HSS.out).le (by omega))
        have H1 := Lib.hid (fun (R : Nat → Prop) (W : World) (h : BR w0 R W p T q T.ref) (hv : ESl W (Value.slice oa L.length cap) L) (hsv : SecSrc W (.slice so S.length sc) S) => br_sWrite h HU.out.2.2 (by decide) (by have := HB9.out; omega) hv HN.out (by have := HB9.out; omega) t hsv HSS.out HS9.out)
        have H2 := Lib.hid (fun (R : Nat → Prop) (W : World) (h : BR w0 R W p (T.fullU L t S).1 q T.ref) (hv : ESl W (Value.slice oa L.length cap) L) (hsv : SecSl W (.slice so S.length sc) S) (hR : ∀ k, (Value.slice so S.length sc).ownBlock = some k → R k) => br_sWrite2 h HU.out.2.2 (by decide) (by have := HB9.out; omega) hv HN.out (by have := HB9.out; omega) t hsv HSS.out HS9.out hR)
        obtain ⟨T', ec, hT'⟩ : ∃ T' ec, T.fullU L t S = (T', ec) := ⟨_, _, rfl⟩
        rw [hT'] at H1 H2 HN2
        simp only at H1 H2 HN2
        clear hT'
        have HOB : Hid (∀ k, (Value.slice so S.length sc).ownBlock = some k → ((R k ∨ k = Bo) ∨ (Value.slice so S.length sc).ownBlock = some k)) := Lib.hid (fun k hk => .inr hk)
        have HVB : Hid (∀ k, (Value.slice oa L.length cap).ownBlock = some k → ((R k ∨ k = Bo) ∨ (Value.slice so S.length sc).ownBlock = some k)) := Lib.hid (fun k hk => .inl (.inl (HVR.out k hk)))
        go_upto_region 8 with fail
        have HPD := Lib.hid (HP2.out.keptS (Kept.refl wr).drew).1
        have HVD := Lib.hid (HV2.out.kept (Kept.refl wr).drew)
        have HLD := Lib.hid (HSL.out.kept (Kept.refl wr).drew)
        have hS : (fun (W : World) => W.heap[Bo]? = some (.cells [.int .i64 1, .int .i64 k, .int .i64 t, .int .i64 n, .int .i64 more, .bool a, .int .u64 m].toArray 35 (0, 0))) wr.drew := (Kept.refl wr).drew.block HBo.out
        clear HP2 HV2 HSL HBo c3' c4'
        refine wp_region_calm ?_
        refine wp_region_E (fun (W : World) => W.heap[Bo]? = some (.cells [.int .i64 1, .int .i64 k, .int .i64 t, .int .i64 n, .int .i64 more, .bool a, .int .u64 m].toArray 35 (0, 0))) 100 (by kernel_rfl) ?_
        refine wpAnyE_take (i := 0) (v := ?_) (listed' := #[true, false, false, false, false, false, false, false, false, false, false, false, false, false]) (by rfl) (by kernel_rfl) (by kernel_rfl) calm_put hS (by rfl) ?_ ?_
        rotate_left
        · intro W hW; clear hW; go_simp; try (with_reducible rfl)
        simp only [Act.put, List.getElem_toArray, List.getElem_cons_succ, List.getElem_cons_zero, List.setIfInBounds_toArray, List.set_cons_zero, List.set_cons_succ]
        refine wpAnyE_take (i := 1) (v := ?_) (listed' := #[true, true, false, false, false, false, false, false, false, false, false, false, false, false]) (by rfl) (by kernel_rfl) (by kernel_rfl) calm_put hS (by rfl) ?_ ?_
        rotate_left
        · intro W hW; clear hW; go_simp; try (with_reducible rfl)
        simp only [Act.put, List.getElem_toArray, List.getElem_cons_succ, List.getElem_cons_zero, List.setIfInBounds_toArray, List.set_cons_zero, List.set_cons_succ]
        refine wpAnyE_take (i := 2) (v := ?_) (listed' := #[true, true, true, false, false, false, false, false, false, false, false, false, false, false]) (by rfl) (by kernel_rfl) (by kernel_rfl) calm_put hS (by rfl) ?_ ?_
        rotate_left
        · intro W hW; clear hW; go_simp; try (with_reducible rfl)
        simp only [Act.put, List.getElem_toArray, List.getElem_cons_succ, List.getElem_cons_zero, List.setIfInBounds_toArray, List.set_cons_zero, List.set_cons_succ]
        refine wpAnyE_take (i := 3) (v := ?_) (listed' := #[true, true, true, true, false, false, false, false, false, false, false, false, false, false]) (by rfl) (by kernel_rfl) (by kernel_rfl) calm_put hS (by rfl) ?_ ?_
        rotate_left
        · intro W hW; have c1 := cell_of_row _ _ 1 _ _ _ hW; have c2 := cell_of_row _ _ 2 _ _ _ hW; have c3 := cell_of_row _ _ 3 _ _ _ hW; have c6 := cell_of_row _ _ 6 _ _ _ hW; clear hW; go_simp; try (with_reducible rfl)
        simp only [Act.put, List.getElem_toArray, List.getElem_cons_succ, List.getElem_cons_zero, List.setIfInBounds_toArray, List.set_cons_zero, List.set_cons_succ]
        refine wpAnyE_take (i := 4) (v := ?_) (listed' := #[true, true, true, true, true, false, false, false, false, false, false, false, false, false]) (by rfl) (by kernel_rfl) (by kernel_rfl) calm_put hS (by rfl) ?_ ?_
        rotate_left
        · intro W hW; clear hW; go_simp; try (with_reducible rfl)
        simp only [Act.put, List.getElem_toArray, List.getElem_cons_succ, List.getElem_cons_zero, List.setIfInBounds_toArray, List.set_cons_zero, List.set_cons_succ]
        refine wpAnyE_take (i := 6) (v := ?_) (listed' := #[true, true, true, true, true, false, true, false, false, false, false, false, false, false]) (by rfl) (by kernel_rfl) (by kernel_rfl) calm_put hS (by rfl) ?_ ?_
        rotate_left
        · intro W hW; clear hW; go_simp; try (with_reducible rfl)
        simp only [Act.put, List.getElem_toArray, List.getElem_cons_succ, List.getElem_cons_zero, List.setIfInBounds_toArray, List.set_cons_zero, List.set_cons_succ]
        refine wpAnyE_take (i := 7) (v := ?_) (listed' := #[true, true, true, true, true, false, true, true, false, false, false, false, false, false]) (by rfl) (by kernel_rfl) (by kernel_rfl) calm_put hS (by rfl) ?_ ?_
        rotate_left
        · intro W hW; clear hW; go_simp; try (with_reducible rfl)
        simp only [Act.put, List.getElem_toArray, List.getElem_cons_succ, List.getElem_cons_zero, List.setIfInBounds_toArray, List.set_cons_zero, List.set_cons_succ]
        refine wpAnyE_take (i := 8) (v := ?_) (listed' := #[true, true, true, true, true, false, true, true, true, false, false, false, false, false]) (by rfl) (by kernel_rfl) (by kernel_rfl) calm_put hS (by rfl) ?_ ?_
        rotate_left
        · intro W hW; clear hW; go_simp; try (with_reducible rfl)
        simp only [Act.put, List.getElem_toArray, List.getElem_cons_succ, List.getElem_cons_zero, List.setIfInBounds_toArray, List.set_cons_zero, List.set_cons_succ]
        refine wpAnyE_take (i := 9) (v := ?_) (listed' := #[true, true, true, true, true, false, true, true, true, true, false, false, false, false]) (by rfl) (by kernel_rfl) (by kernel_rfl) calm_put hS (by rfl) ?_ ?_
        rotate_left
        · intro W hW; have c1 := cell_of_row _ _ 1 _ _ _ hW; have c2 := cell_of_row _ _ 2 _ _ _ hW; have c3 := cell_of_row _ _ 3 _ _ _ hW; have c6 := cell_of_row _ _ 6 _ _ _ hW; clear hW; go_simp; try (with_reducible rfl)
        simp only [Act.put, List.getElem_toArray, List.getElem_cons_succ, List.getElem_cons_zero, List.setIfInBounds_toArray, List.set_cons_zero, List.set_cons_succ]
        refine wpAnyE_take (i := 10) (v := ?_) (listed' := #[true, true, true, true, true, false, true, true, true, true, true, false, false, false]) (by rfl) (by kernel_rfl) (by kernel_rfl) calm_put hS (by rfl) ?_ ?_
        rotate_left
        · intro W hW; clear hW; go_simp; try (with_reducible rfl)
        simp only [Act.put, List.getElem_toArray, List.getElem_cons_succ, List.getElem_cons_zero, List.setIfInBounds_toArray, List.set_cons_zero, List.set_cons_succ]
        refine wpAnyE_one (i := 5) (listed' := #[true, true, true, true, true, true, true, true, true, true, true, false, false, false]) (by rfl) (by kernel_rfl) (by kernel_rfl) (by rfl) (fun K hK => ?_)
        simp only [Act.put, List.getElem_toArray, List.getElem_cons_succ, List.getElem_cons_zero, List.setIfInBounds_toArray, List.set_cons_zero, List.set_cons_succ]
        go_wp2_with fail
        refine Calls.mono (H1.out _ _ HPD.out HVD.out HLD.out.src) ?_
        rintro e w5 ⟨rfl, hb, hs⟩
        have HP5 := Lib.hid hb
        have HV5 := Lib.hid (HVD.out.same HVB.out hs (fun k hk => hb.lt hk))
        have HL5 := Lib.hid (HLD.out.same (fun g hg => hs g (.inr hg)))
        have HT5 : Hid (SameR R _ w5) := Lib.hid (fun k hk => hs k (.inl (.inl hk)))
        replace hS := (hs Bo (.inl (.inr rfl))).trans hS
        refine hK _ _ (fun _ => hS) ?_; clear hK K
        clear hb hs HPD
        refine wpAnyE_one (i := 11) (listed' := #[true, true, true, true, true, true, true, true, true, true, true, true, false, false]) (by rfl) (by kernel_rfl) (by kernel_rfl) (by rfl) (fun K hK => ?_)
        simp only [Act.put, List.getElem_toArray, List.getElem_cons_succ, List.getElem_cons_zero, List.setIfInBounds_toArray, List.set_cons_zero, List.set_cons_succ]
        go_wp2_with fail
        refine Calls.mono (H2.out _ _ HP5.out HV5.out HL5.out.sl HOB.out) ?_
        rintro e w6 ⟨rfl, hb, hs⟩
        have HP6 := Lib.hid hb
        have HT6 : Hid (SameR R _ w6) := Lib.hid (fun k hk => hs k (.inl (.inl hk)))
        replace hS := (hs Bo (.inl (.inr rfl))).trans hS
        refine hK _ _ (fun _ => hS) ?_; clear hK K
        clear hb hs HP5
        refine wpAnyE_take (i := 12) (v := ?_) (listed' := #[true, true, true, true, true, true, true, true, true, true, true, true, true, false]) (by rfl) (by kernel_rfl) (by kernel_rfl) calm_put hS (by rfl) ?_ ?_
        rotate_left
        · intro W hW; clear hW; go_simp; try (with_reducible rfl)
        simp only [Act.put, List.getElem_toArray, List.getElem_cons_succ, List.getElem_cons_zero, List.setIfInBounds_toArray, List.set_cons_zero, List.set_cons_succ]
        refine wpAnyE_one (i := 13) (listed' := #[true, true, true, true, true, true, true, true, true, true, true, true, true, true]) (by rfl) (by kernel_rfl) (by kernel_rfl) (by rfl) (fun K hK => ?_)
        simp only [Act.put, List.getElem_toArray, List.getElem_cons_succ, List.getElem_cons_zero, List.setIfInBounds_toArray, List.set_cons_zero, List.set_cons_succ]
        go_wp2
        refine hK _ _ (fun _ => hS) ?_; clear hK K
        refine wpAnyE_done (by kernel_rfl) ?_ _
        refine calm_normal ?_
        clear hS
        go_wp2
        go_ret
        exact ⟨by simp, T', HP6.out.less fun k hk => .inl (.inl hk), HN2.out, fun k hk => (HT6.out k hk).trans ((HT5.out k hk).trans ((HS2.out k (.inl hk)).trans (HS0.out k hk)))⟩
  have k1 : (kd == 1) = false := by simpa using e1
  clear e1
  by_cases e1 : kd = 2
  · subst e1
    have HN2 : Hid (Sane T 5 20 (c + 12)) := Lib.hid (HU.out.2.2.le (by omega))
    have HL : Hid ((T.readU L t).1.length = 64) := Lib.hid (BankT.readU_is HU.out.1.inv L t).1
    have H1 := Lib.hid (fun (R : Nat → Prop) (W : World) (h : BR w0 R W p T q T.ref) (hv : ESl W (Value.slice oa L.length cap) L) => br_sRead h HU.out.1 hv HN.out (by have := HB9.out; omega) t)
    have H2 := Lib.hid (fun (R : Nat → Prop) (W : World) (h : BR w0 R W p T q T.ref) (hv : ESl W (Value.slice oa L.length cap) L) => br_sRead2 h HU.out.2.1 hv HN.out (by have := HB9.out; omega) t)
    obtain ⟨s, ec, hT'⟩ : ∃ s ec, T.readU L t = (s, ec) := ⟨_, _, rfl⟩
    rw [hT'] at H1 H2 HL
    simp only at H1 H2 HL
    clear hT'
    have c2 := cell_of_row _ _ 2 _ _ _ HB.out
    go_wp2_with fail
    refine Calls.mono (H1.out _ _ HP.out HV.out) ?_
    rintro e w2 ⟨rfl, hk⟩
    have HP2 := Lib.hid (HP.out.keptS hk).1
    have HS2 := Lib.hid (HP.out.keptS hk).2
    have HB2 := Lib.hid (hk.block HB.out)
    have HV2 := Lib.hid (HV.out.kept hk)
    clear hk HP HB HV c2
    go_wp2_with (refine stop_at (o := ⟨some 11, _, _, _, _, _⟩) ?_)
    refine Stop.mk ?_
    refine wpList_new_row rfl rfl _ _ rfl rfl ty_sec _ zero_sec (by rw [u8s_length]; rfl) (u8s s) rfl (by rw [u8s_length, HL.out]) (u8s_one _) rfl ?_
    intro w3 hz hs hk
    have HZ3 := hz
    have HP3 := Lib.hid (HP2.out.keptS hk).1
    have HS3 := Lib.hid (HP2.out.keptS hk).2
    have HB3 := Lib.hid (hk.block HB2.out)
    have HV3 := Lib.hid (HV2.out.kept hk)
    obtain ⟨Z1, hE⟩ : ∃ b, b = w2.heap.size := ⟨_, rfl⟩
    rw [← hE] at HZ3 ⊢
    clear hz hs hk hE HP2 HB2 HV2
    have c2 := cell_of_row _ _ 2 _ _ _ HB3.out
    go_wp2_with fail
    refine Calls.mono (H2.out _ _ HP3.out HV3.out) ?_
    rintro e w4 ⟨rfl, hk⟩
    have HP4 := Lib.hid (HP3.out.keptS hk).1
    have HS4 := Lib.hid (HP3.out.keptS hk).2
    have HZ4 := Lib.hid (hk.block HZ3.out)
    clear hk HP3 HB3 HZ3 HV3 c2
    go_wp2_with (refine stop_at (o := ⟨some 13, _, _, _, _, _⟩) ?_)
    refine Stop.mk ?_
    refine wpList_new_row rfl rfl _ _ rfl rfl ty_sec _ zero_sec (by rw [u8s_length]; rfl) (u8s s) rfl (by rw [u8s_length, HL.out]) (u8s_one _) rfl ?_
    intro w5 hz hs hk
    have HZ5 := hz
    have HP5 := Lib.hid (HP4.out.keptS hk).1
    have HS5 := Lib.hid (HP4.out.keptS hk).2
    have HY5 := Lib.hid (hk.block HZ4.out)
    obtain ⟨Z2, hE⟩ : ∃ b, b = w4.heap.size := ⟨_, rfl⟩
    rw [← hE] at HZ5 ⊢
    clear hz hs hk hE HP4 HZ4
    go_wp2_with (refine stop_at (o := ⟨some 82, _, _, _, _, _⟩) ?_)
    refine Stop.mk ?_
    refine wpList_load_aggW _ rfl ty_sec Z1 0 rfl (u8s s) (by simpa using Cells.of_block HY5.out) (by rw [u8s_length, HL.out]) rfl ?_
    go_wp2_with (refine stop_at (o := ⟨some 83, _, _, _, _, _⟩) ?_)
    refine Stop.mk ?_
    refine wpList_load_aggW _ rfl ty_sec Z2 0 rfl (u8s s) (by simpa using Cells.of_block HZ5.out) (by rw [u8s_length, HL.out]) rfl ?_
    go_wp2_with (refine stop_at (o := ⟨some 84, _, _, _, _, _⟩) ?_)
    refine Stop.mk ?_
    refine wpList_eq_sec rfl _ _ rfl s s rfl rfl HL.out HL.out ?_
    go_wp2
    go_ret
    exact ⟨by simp, T, HP5.out.less fun k hk => .inl hk, HN2.out, fun k hk => (HS5.out k (.inl hk)).trans ((HS4.out k (.inl hk)).trans ((HS3.out k (.inl hk)).trans ((HS2.out k (.inl hk)).trans (HS0.out k hk))))⟩
  have k2 : (kd == 2) = false := by simpa using e1
  clear e1
  by_cases e1 : kd = 3
  · subst e1
    have HN2 : Hid (Sane T 5 20 (c + 12)) := Lib.hid (HU.out.2.2.le (by omega))
    have HL : Hid ((T.rebuiltU L k t).1.length = 64) := Lib.hid (BankT.rebuiltU_is HU.out.1.inv L k t).1
    have H1 := Lib.hid (fun (R : Nat → Prop) (W : World) (h : BR w0 R W p T q T.ref) (hv : ESl W (Value.slice oa L.length cap) L) => br_sRebuilt h HU.out.1 hv HN.out (by have := HB9.out; omega) k t)
    have H2 := Lib.hid (fun (R : Nat → Prop) (W : World) (h : BR w0 R W p T q T.ref) (hv : ESl W (Value.slice oa L.length cap) L) => br_sRebuilt2 h HU.out.2.1 hv HN.out (by have := HB9.out; omega) k t)
    obtain ⟨s, ec, hT'⟩ : ∃ s ec, T.rebuiltU L k t = (s, ec) := ⟨_, _, rfl⟩
    rw [hT'] at H1 H2 HL
    simp only at H1 H2 HL
    clear hT'
    have c1 := cell_of_row _ _ 1 _ _ _ HB.out
    have c2 := cell_of_row _ _ 2 _ _ _ HB.out
    go_wp2_with fail
    refine Calls.mono (H1.out _ _ HP.out HV.out) ?_
    rintro e w2 ⟨rfl, hk⟩
    have HP2 := Lib.hid (HP.out.keptS hk).1
    have HS2 := Lib.hid (HP.out.keptS hk).2
    have HB2 := Lib.hid (hk.block HB.out)
    have HV2 := Lib.hid (HV.out.kept hk)
    clear hk HP HB HV c1 c2
    go_wp2_with (refine stop_at (o := ⟨some 15, _, _, _, _, _⟩) ?_)
    refine Stop.mk ?_
    refine wpList_new_row rfl rfl _ _ rfl rfl ty_sec _ zero_sec (by rw [u8s_length]; rfl) (u8s s) rfl (by rw [u8s_length, HL.out]) (u8s_one _) rfl ?_
    intro w3 hz hs hk
    have HZ3 := hz
    have HP3 := Lib.hid (HP2.out.keptS hk).1
    have HS3 := Lib.hid (HP2.out.keptS hk).2
    have HB3 := Lib.hid (hk.block HB2.out)
    have HV3 := Lib.hid (HV2.out.kept hk)
    obtain ⟨Z1, hE⟩ : ∃ b, b = w2.heap.size := ⟨_, rfl⟩
    rw [← hE] at HZ3 ⊢
    clear hz hs hk hE HP2 HB2 HV2
    have c1 := cell_of_row _ _ 1 _ _ _ HB3.out
    have c2 := cell_of_row _ _ 2 _ _ _ HB3.out
    go_wp2_with fail
    refine Calls.mono (H2.out _ _ HP3.out HV3.out) ?_
    rintro e w4 ⟨rfl, hk⟩
    have HP4 := Lib.hid (HP3.out.keptS hk).1
    have HS4 := Lib.hid (HP3.out.keptS hk).2
    have HZ4 := Lib.hid (hk.block HZ3.out)
    clear hk HP3 HB3 HZ3 HV3 c1 c2
    go_wp2_with (refine stop_at (o := ⟨some 17, _, _, _, _, _⟩) ?_)
    refine Stop.mk ?_
    refine wpList_new_row rfl rfl _ _ rfl rfl ty_sec _ zero_sec (by rw [u8s_length]; rfl) (u8s s) rfl (by rw [u8s_length, HL.out]) (u8s_one _) rfl ?_
    intro w5 hz hs hk
    have HZ5 := hz
    have HP5 := Lib.hid (HP4.out.keptS hk).1
    have HS5 := Lib.hid (HP4.out.keptS hk).2
    have HY5 := Lib.hid (hk.block HZ4.out)
    obtain ⟨Z2, hE⟩ : ∃ b, b = w4.heap.size := ⟨_, rfl⟩
    rw [← hE] at HZ5 ⊢
    clear hz hs hk hE HP4 HZ4
    go_wp2_with (refine stop_at (o := ⟨some 112, _, _, _, _, _⟩) ?_)
    refine Stop.mk ?_
    refine wpList_load_aggW _ rfl ty_sec Z1 0 rfl (u8s s) (by simpa using Cells.of_block HY5.out) (by rw [u8s_length, HL.out]) rfl ?_
    go_wp2_with (refine stop_at (o := ⟨some 113, _, _, _, _, _⟩) ?_)
    refine Stop.mk ?_
    refine wpList_load_aggW _ rfl ty_sec Z2 0 rfl (u8s s) (by simpa using Cells.of_block HZ5.out) (by rw [u8s_length, HL.out]) rfl ?_
    go_wp2_with (refine stop_at (o := ⟨some 114, _, _, _, _, _⟩) ?_)
    refine Stop.mk ?_
    refine wpList_eq_sec rfl _ _ rfl s s rfl rfl HL.out HL.out ?_
    go_wp2
    go_ret
    exact ⟨by simp, T, HP5.out.less fun k hk => .inl hk, HN2.out, fun k hk => (HS5.out k (.inl hk)).trans ((HS4.out k (.inl hk)).trans ((HS3.out k (.inl hk)).trans ((HS2.out k (.inl hk)).trans (HS0.out k hk))))⟩
  have k3 : (kd == 3) = false := by simpa using e1
  clear e1
  by_cases e1 : kd = 4
  · subst e1
    have HL : Hid (IsSec (T.plugU L t (secN n)).1) := Lib.hid (BankT.plugU_is HU.out.1.inv L t (secN_is n))
    have H1 := Lib.hid (fun (R : Nat → Prop) (W : World) (h : BR w0 R W p T q T.ref) (hv : ESl W (Value.slice oa L.length cap) L) => br_sPlug h HU.out.1 hv HN.out (by have := HB9.out; omega) t (s := secN n) (secN_is n))
    have H2 := Lib.hid (fun (R : Nat → Prop) (W : World) (h : BR w0 R W p T q T.ref) (hv : ESl W (Value.slice oa L.length cap) L) => br_sPlug2 h HU.out.2.1 hv HN.out (by have := HB9.out; omega) t (s := secN n) (secN_is n))
    have HPU : Hid ((T.plugU L t (secN n)).2 = 0 → (splitX L.length t).2.2 = 0) := Lib.hid (fun h => by
      unfold BankT.plugU at h
      by_cases h0 : (splitX L.length t).2.2 = 0
      · exact h0
      · rw [if_pos h0] at h; exact absurd h h0)
    obtain ⟨s, ec, hT'⟩ : ∃ s ec, T.plugU L t (secN n) = (s, ec) := ⟨_, _, rfl⟩
    rw [hT'] at H1 H2 HL HPU
    simp only at H1 H2 HL HPU
    clear hT'
    go_upto_region 18 with fail
    go_cut [19, 20] from 122 to 132 (fun zv ev wc => ∃ Z0 : Nat, zv = .pointer (some ⟨Z0, 0, none⟩) ∧ ev = .int .i64 ec ∧ Hid (BR w0 (fun k => (fun k => R k ∨ k = Bo) k ∨ k = Z0) wc p T q T.ref) ∧ Hid (wc.heap[Z0]? = some (.cells (u8s s).toArray 43 (0, 0))) ∧ Hid ((fun (W : World) => W.heap[Bo]? = some (.cells [.int .i64 4, .int .i64 k, .int .i64 t, .int .i64 n, .int .i64 more, .bool a, .int .u64 m].toArray 35 (0, 0))) wc) ∧ Hid (ESl wc (Value.slice oa L.length cap) L) ∧ Hid (SameR (fun k => R k ∨ k = Bo) w1 wc))
    case first =>
      have HP0 := Lib.hid (HP.out.keptS (Kept.refl w1).drew).1
      have HV0 := Lib.hid (HV.out.kept (Kept.refl w1).drew)
      have HT0 : Hid (SameR (fun k => R k ∨ k = Bo) w1 w1.drew) := Lib.hid (fun k hk => rfl)
      have hS : (fun (W : World) => W.heap[Bo]? = some (.cells [.int .i64 4, .int .i64 k, .int .i64 t, .int .i64 n, .int .i64 more, .bool a, .int .u64 m].toArray 35 (0, 0))) w1.drew := (Kept.refl w1).drew.block HB.out
      clear HP HV HB
      refine wp_region_calm ?_
      refine wp_region_E (fun (W : World) => W.heap[Bo]? = some (.cells [.int .i64 4, .int .i64 k, .int .i64 t, .int .i64 n, .int .i64 more, .bool a, .int .u64 m].toArray 35 (0, 0))) 100 (by kernel_rfl) ?_
      refine wpAnyE_take (i := 0) (v := ?_) (listed' := #[true, false, false, false, false, false, false, false, false, false, false, false, false, false]) (by rfl) (by kernel_rfl) (by kernel_rfl) calm_put hS (by rfl) ?_ ?_
      rotate_left
      · intro W hW; clear hW; go_simp; try (with_reducible rfl)
      simp only [Act.put, List.getElem_toArray, List.getElem_cons_succ, List.getElem_cons_zero, List.setIfInBounds_toArray, List.set_cons_zero, List.set_cons_succ]
      refine wpAnyE_take (i := 1) (v := ?_) (listed' := #[true, true, false, false, false, false, false, false, false, false, false, false, false, false]) (by rfl) (by kernel_rfl) (by kernel_rfl) calm_put hS (by rfl) ?_ ?_
      rotate_left
      · intro W hW; clear hW; go_simp; try (with_reducible rfl)
      simp only [Act.put, List.getElem_toArray, List.getElem_cons_succ, List.getElem_cons_zero, List.setIfInBounds_toArray, List.set_cons_zero, List.set_cons_succ]
      refine wpAnyE_take (i := 2) (v := ?_) (listed' := #[true, true, true, false, false, false, false, false, false, false, false, false, false, false]) (by rfl) (by kernel_rfl) (by kernel_rfl) calm_put hS (by rfl) ?_ ?_
      rotate_left
      · intro W hW; clear hW; go_simp; try (with_reducible rfl)
      simp only [Act.put, List.getElem_toArray, List.getElem_cons_succ, List.getElem_cons_zero, List.setIfInBounds_toArray, List.set_cons_zero, List.set_cons_succ]
      refine wpAnyE_take (i := 3) (v := ?_) (listed' := #[true, true, true, true, false, false, false, false, false, false, false, false, false, false]) (by rfl) (by kernel_rfl) (by kernel_rfl) calm_put hS (by rfl) ?_ ?_
      rotate_left
      · intro W hW; have c1 := cell_of_row _ _ 1 _ _ _ hW; have c2 := cell_of_row _ _ 2 _ _ _ hW; have c3 := cell_of_row _ _ 3 _ _ _ hW; have c6 := cell_of_row _ _ 6 _ _ _ hW; clear hW; go_simp; try (with_reducible rfl)
      simp only [Act.put, List.getElem_toArray, List.getElem_cons_succ, List.getElem_cons_zero, List.setIfInBounds_toArray, List.set_cons_zero, List.set_cons_succ]
      refine wpAnyE_take (i := 4) (v := ?_) (listed' := #[true, true, true, true, true, false, false, false, false, false, false, false, false, false]) (by rfl) (by kernel_rfl) (by kernel_rfl) calm_put hS (by rfl) ?_ ?_
      rotate_left
      · intro W hW; clear hW; go_simp; try (with_reducible rfl)
      simp only [Act.put, List.getElem_toArray, List.getElem_cons_succ, List.getElem_cons_zero, List.setIfInBounds_toArray, List.set_cons_zero, List.set_cons_succ]
      refine wpAnyE_take (i := 5) (v := ?_) (listed' := #[true, true, true, true, true, true, false, false, false, false, false, false, false, false]) (by rfl) (by kernel_rfl) (by kernel_rfl) calm_put hS (by rfl) ?_ ?_
      rotate_left
      · intro W hW; have c1 := cell_of_row _ _ 1 _ _ _ hW; have c2 := cell_of_row _ _ 2 _ _ _ hW; have c3 := cell_of_row _ _ 3 _ _ _ hW; have c6 := cell_of_row _ _ 6 _ _ _ hW; clear hW; go_simp; try (with_reducible rfl)
      simp only [Act.put, List.getElem_toArray, List.getElem_cons_succ, List.getElem_cons_zero, List.setIfInBounds_toArray, List.set_cons_zero, List.set_cons_succ]
      refine wpAnyE_two (i := 6) (j := 11) (li := #[true, true, true, true, true, true, true, false, false, false, false, false, false, false]) (lj := #[true, true, true, true, true, true, false, false, false, false, false, true, false, false]) (by rfl) (by rfl) (by kernel_rfl) (by kernel_rfl) (by kernel_rfl) (by rfl) (by rfl) (fun K hK => ?_) (fun K hK => ?_)
      · simp only [Act.put, List.getElem_toArray, List.getElem_cons_succ, List.getElem_cons_zero, List.setIfInBounds_toArray, List.set_cons_zero, List.set_cons_succ]
        go_wp2_with fail
        refine Calls.mono (s_sector n _) ?_
        rintro e w101 ⟨rfl, hk⟩
        have HP1 := Lib.hid (HP0.out.keptS hk).1
        have HT1 : Hid (SameR (fun k => R k ∨ k = Bo) w1 w101) := Lib.hid (fun k hk' => ((HP0.out.keptS hk).2 k (hk')).trans (HT0.out k hk'))
        have HV1 := Lib.hid (HV0.out.kept hk)
        replace hS := (hk.block hS : (fun (W : World) => W.heap[Bo]? = some (.cells [.int .i64 4, .int .i64 k, .int .i64 t, .int .i64 n, .int .i64 more, .bool a, .int .u64 m].toArray 35 (0, 0))) _)
        refine hK _ _ (fun _ => hS) ?_; clear hK K
        clear hk HP0 HT0 HV0
        refine wpAnyE_two (i := 7) (j := 11) (li := #[true, true, true, true, true, true, true, true, false, false, false, false, false, false]) (lj := #[true, true, true, true, true, true, true, false, false, false, false, true, false, false]) (by rfl) (by rfl) (by kernel_rfl) (by kernel_rfl) (by kernel_rfl) (by rfl) (by rfl) (fun K hK => ?_) (fun K hK => ?_)
        · simp only [Act.put, List.getElem_toArray, List.getElem_cons_succ, List.getElem_cons_zero, List.setIfInBounds_toArray, List.set_cons_zero, List.set_cons_succ]
          go_wp2_with fail
          refine Calls.mono (H1.out _ _ HP1.out HV1.out) ?_
          rintro e w102 ⟨rfl, hk⟩
          have HP2 := Lib.hid (HP1.out.keptS hk).1
          have HT2 : Hid (SameR (fun k => R k ∨ k = Bo) w1 w102) := Lib.hid (fun k hk' => ((HP1.out.keptS hk).2 k (hk')).trans (HT1.out k hk'))
          have HV2 := Lib.hid (HV1.out.kept hk)
          replace hS := (hk.block hS : (fun (W : World) => W.heap[Bo]? = some (.cells [.int .i64 4, .int .i64 k, .int .i64 t, .int .i64 n, .int .i64 more, .bool a, .int .u64 m].toArray 35 (0, 0))) _)
          refine hK _ _ (fun _ => hS) ?_; clear hK K
          clear hk HP1 HT1 HV1
          refine wpAnyE_take (i := 8) (v := ?_) (listed' := #[true, true, true, true, true, true, true, true, true, false, false, false, false, false]) (by rfl) (by kernel_rfl) (by kernel_rfl) calm_put hS (by rfl) ?_ ?_
          rotate_left
          · intro W hW; clear hW; go_simp; try (with_reducible rfl)
          simp only [Act.put, List.getElem_toArray, List.getElem_cons_succ, List.getElem_cons_zero, List.setIfInBounds_toArray, List.set_cons_zero, List.set_cons_succ]
          refine wpAnyE_take (i := 9) (v := ?_) (listed' := #[true, true, true, true, true, true, true, true, true, true, false, false, false, false]) (by rfl) (by kernel_rfl) (by kernel_rfl) calm_put hS (by rfl) ?_ ?_
          rotate_left
          · intro W hW; clear hW; go_simp; try (with_reducible rfl)
          simp only [Act.put, List.getElem_toArray, List.getElem_cons_succ, List.getElem_cons_zero, List.setIfInBounds_toArray, List.set_cons_zero, List.set_cons_succ]
          refine wpAnyE_take (i := 10) (v := ?_) (listed' := #[true, true, true, true, true, true, true, true, true, true, true, false, false, false]) (by rfl) (by kernel_rfl) (by kernel_rfl) calm_put hS (by rfl) ?_ ?_
          rotate_left
          · intro W hW; clear hW; go_simp; try (with_reducible rfl)
          simp only [Act.put, List.getElem_toArray, List.getElem_cons_succ, List.getElem_cons_zero, List.setIfInBounds_toArray, List.set_cons_zero, List.set_cons_succ]
          refine wpAnyE_one (i := 11) (listed' := #[true, true, true, true, true, true, true, true, true, true, true, true, false, false]) (by rfl) (by kernel_rfl) (by kernel_rfl) (by rfl) (fun K hK => ?_)
          simp only [Act.put, List.getElem_toArray, List.getElem_cons_succ, List.getElem_cons_zero, List.setIfInBounds_toArray, List.set_cons_zero, List.set_cons_succ]
          refine wp_alloc_abs 43 rfl (u8s zeroB) zero_sec ?_
          intro w103 hz hsz hk
          have HP3 := Lib.hid (HP2.out.box hk hsz)
          have HT3 : Hid (SameR (fun k => R k ∨ k = Bo) w1 w103) := Lib.hid (fun k hk' => ((HP2.out.keptS hk).2 k (hk')).trans (HT2.out k hk'))
          have HV3 := Lib.hid (HV2.out.kept hk)
          have HRZ : Hid (¬ (fun k => R k ∨ k = Bo) w102.heap.size) := Lib.hid (fun h => by have := HP2.out.lt h; omega)
          have HLT := Lib.hid (HP2.out.keeps.size)
          replace hS := (hk.block hS : (fun (W : World) => W.heap[Bo]? = some (.cells [.int .i64 4, .int .i64 k, .int .i64 t, .int .i64 n, .int .i64 more, .bool a, .int .u64 m].toArray 35 (0, 0))) _)
          obtain ⟨Z1, hE⟩ : ∃ b, b = w102.heap.size := ⟨_, rfl⟩
          rw [← hE] at hz HP3 HRZ HLT ⊢
          have HZ3 := hz
          refine hK _ _ (fun _ => hS) ?_; clear hK K
          clear hz hsz hE hk HP2 HT2 HV2
          refine wpAnyE_one (i := 12) (listed' := #[true, true, true, true, true, true, true, true, true, true, true, true, true, false]) (by rfl) (by kernel_rfl) (by kernel_rfl) (by rfl) (fun K hK => ?_)
          simp only [Act.put, List.getElem_toArray, List.getElem_cons_succ, List.getElem_cons_zero, List.setIfInBounds_toArray, List.set_cons_zero, List.set_cons_succ]
          refine wp_store_agg _ _ rfl ty_sec Z1 0 rfl (u8s s) rfl (by rw [u8s_length, HL.out.1]) (u8s_one _) _ _ HZ3.out (by rw [u8s_length, zeroB_length]; decide) ?_
          intro wz hw
          replace hw := hw.all (by rw [u8s_length, u8s_length, HL.out.1, zeroB_length])
          have HPz := Lib.hid (HP3.out.wrote hw (.inr rfl) HLT.out)
          have HZz := Lib.hid hw.blk
          have HVz := Lib.hid (HV3.out.wrote hw (fun e => HRZ.out (.inl (HVR.out _ e))))
          have HTz : Hid (SameR (fun k => R k ∨ k = Bo) w1 wz) := Lib.hid (fun k hk => (hw.oth k (fun e => HRZ.out (e ▸ hk))).trans (HT3.out k hk))
          replace hS := ((hw.oth Bo (fun e => HRZ.out (e ▸ .inr rfl))).trans hS : (fun (W : World) => W.heap[Bo]? = some (.cells [.int .i64 4, .int .i64 k, .int .i64 t, .int .i64 n, .int .i64 more, .bool a, .int .u64 m].toArray 35 (0, 0))) _)
          refine hK _ _ (fun _ => hS) ?_; clear hK K
          refine wpAnyE_one (i := 13) (listed' := #[true, true, true, true, true, true, true, true, true, true, true, true, true, true]) (by rfl) (by kernel_rfl) (by kernel_rfl) (by rfl) (fun K hK => ?_)
          simp only [Act.put, List.getElem_toArray, List.getElem_cons_succ, List.getElem_cons_zero, List.setIfInBounds_toArray, List.set_cons_zero, List.set_cons_succ]
          go_wp2
          refine hK _ _ (fun _ => hS) ?_; clear hK K
          refine wpAnyE_done (by kernel_rfl) ?_ _
          refine calm_normal ?_
          have HSz := Lib.hid hS
          clear hS
          go_wp2
          go_meet
          case rel => exact ⟨Z1, rfl, rfl, HPz, HZz, HSz, HVz, HTz⟩
        · simp only [Act.put, List.getElem_toArray, List.getElem_cons_succ, List.getElem_cons_zero, List.setIfInBounds_toArray, List.set_cons_zero, List.set_cons_succ]
          refine wp_alloc_abs 43 rfl (u8s zeroB) zero_sec ?_
          intro w102 hz hsz hk
          have HP2 := Lib.hid (HP1.out.box hk hsz)
          have HT2 : Hid (SameR (fun k => R k ∨ k = Bo) w1 w102) := Lib.hid (fun k hk' => ((HP1.out.keptS hk).2 k (hk')).trans (HT1.out k hk'))
          have HV2 := Lib.hid (HV1.out.kept hk)
          have HRZ : Hid (¬ (fun k => R k ∨ k = Bo) w101.heap.size) := Lib.hid (fun h => by have := HP1.out.lt h; omega)
          have HLT := Lib.hid (HP1.out.keeps.size)
          replace hS := (hk.block hS : (fun (W : World) => W.heap[Bo]? = some (.cells [.int .i64 4, .int .i64 k, .int .i64 t, .int .i64 n, .int .i64 more, .bool a, .int .u64 m].toArray 35 (0, 0))) _)
          obtain ⟨Z1, hE⟩ : ∃ b, b = w101.heap.size := ⟨_, rfl⟩
          rw [← hE] at hz HP2 HRZ HLT ⊢
          have HZ2 := hz
          refine hK _ _ (fun _ => hS) ?_; clear hK K
          clear hz hsz hE hk HP1 HT1 HV1
          refine wpAnyE_one (i := 7) (listed' := #[true, true, true, true, true, true, true, true, false, false, false, true, false, false]) (by rfl) (by kernel_rfl) (by kernel_rfl) (by rfl) (fun K hK => ?_)
          simp only [Act.put, List.getElem_toArray, List.getElem_cons_succ, List.getElem_cons_zero, List.setIfInBounds_toArray, List.set_cons_zero, List.set_cons_succ]
          go_wp2_with fail
          refine Calls.mono (H1.out _ _ HP2.out HV2.out) ?_
          rintro e w103 ⟨rfl, hk⟩
          have HP3 := Lib.hid (HP2.out.keptS hk).1
          have HT3 : Hid (SameR (fun k => R k ∨ k = Bo) w1 w103) := Lib.hid (fun k hk' => ((HP2.out.keptS hk).2 k (.inl hk')).trans (HT2.out k hk'))
          have HV3 := Lib.hid (HV2.out.kept hk)
          have HZ3 := Lib.hid (hk.block HZ2.out)
          replace hS := (hk.block hS : (fun (W : World) => W.heap[Bo]? = some (.cells [.int .i64 4, .int .i64 k, .int .i64 t, .int .i64 n, .int .i64 more, .bool a, .int .u64 m].toArray 35 (0, 0))) _)
          refine hK _ _ (fun _ => hS) ?_; clear hK K
          clear hk HP2 HT2 HV2 HZ2
          refine wpAnyE_take (i := 8) (v := ?_) (listed' := #[true, true, true, true, true, true, true, true, true, false, false, true, false, false]) (by rfl) (by kernel_rfl) (by kernel_rfl) calm_put hS (by rfl) ?_ ?_
          rotate_left
          · intro W hW; clear hW; go_simp; try (with_reducible rfl)
          simp only [Act.put, List.getElem_toArray, List.getElem_cons_succ, List.getElem_cons_zero, List.setIfInBounds_toArray, List.set_cons_zero, List.set_cons_succ]
          refine wpAnyE_take (i := 9) (v := ?_) (listed' := #[true, true, true, true, true, true, true, true, true, true, false, true, false, false]) (by rfl) (by kernel_rfl) (by kernel_rfl) calm_put hS (by rfl) ?_ ?_
          rotate_left
          · intro W hW; clear hW; go_simp; try (with_reducible rfl)
          simp only [Act.put, List.getElem_toArray, List.getElem_cons_succ, List.getElem_cons_zero, List.setIfInBounds_toArray, List.set_cons_zero, List.set_cons_succ]
          refine wpAnyE_take (i := 10) (v := ?_) (listed' := #[true, true, true, true, true, true, true, true, true, true, true, true, false, false]) (by rfl) (by kernel_rfl) (by kernel_rfl) calm_put hS (by rfl) ?_ ?_
          rotate_left
          · intro W hW; clear hW; go_simp; try (with_reducible rfl)
          simp only [Act.put, List.getElem_toArray, List.getElem_cons_succ, List.getElem_cons_zero, List.setIfInBounds_toArray, List.set_cons_zero, List.set_cons_succ]
          refine wpAnyE_one (i := 12) (listed' := #[true, true, true, true, true, true, true, true, true, true, true, true, true, false]) (by rfl) (by kernel_rfl) (by kernel_rfl) (by rfl) (fun K hK => ?_)
          simp only [Act.put, List.getElem_toArray, List.getElem_cons_succ, List.getElem_cons_zero, List.setIfInBounds_toArray, List.set_cons_zero, List.set_cons_succ]
          refine wp_store_agg _ _ rfl ty_sec Z1 0 rfl (u8s s) rfl (by rw [u8s_length, HL.out.1]) (u8s_one _) _ _ HZ3.out (by rw [u8s_length, zeroB_length]; decide) ?_
          intro wz hw
          replace hw := hw.all (by rw [u8s_length, u8s_length, HL.out.1, zeroB_length])
          have HPz := Lib.hid (HP3.out.wrote hw (.inr rfl) HLT.out)
          have HZz := Lib.hid hw.blk
          have HVz := Lib.hid (HV3.out.wrote hw (fun e => HRZ.out (.inl (HVR.out _ e))))
          have HTz : Hid (SameR (fun k => R k ∨ k = Bo) w1 wz) := Lib.hid (fun k hk => (hw.oth k (fun e => HRZ.out (e ▸ hk))).trans (HT3.out k hk))
          replace hS := ((hw.oth Bo (fun e => HRZ.out (e ▸ .inr rfl))).trans hS : (fun (W : World) => W.heap[Bo]? = some (.cells [.int .i64 4, .int .i64 k, .int .i64 t, .int .i64 n, .int .i64 more, .bool a, .int .u64 m].toArray 35 (0, 0))) _)
          refine hK _ _ (fun _ => hS) ?_; clear hK K
          refine wpAnyE_one (i := 13) (listed' := #[true, true, true, true, true, true, true, true, true, true, true, true, true, true]) (by rfl) (by kernel_rfl) (by kernel_rfl) (by rfl) (fun K hK => ?_)
          simp only [Act.put, List.getElem_toArray, List.getElem_cons_succ, List.getElem_cons_zero, List.setIfInBounds_toArray, List.set_cons_zero, List.set_cons_succ]
          go_wp2
          refine hK _ _ (fun _ => hS) ?_; clear hK K
          refine wpAnyE_done (by kernel_rfl) ?_ _
          refine calm_normal ?_
          have HSz := Lib.hid hS
          clear hS
          go_wp2
          go_meet
          case rel => exact ⟨Z1, rfl, rfl, HPz, HZz, HSz, HVz, HTz⟩
      · simp only [Act.put, List.getElem_toArray, List.getElem_cons_succ, List.getElem_cons_zero, List.setIfInBounds_toArray, List.set_cons_zero, List.set_cons_succ]
        refine wp_alloc_abs 43 rfl (u8s zeroB) zero_sec ?_
        intro w101 hz hsz hk
        have HP1 := Lib.hid (HP0.out.box hk hsz)
        have HT1 : Hid (SameR (fun k => R k ∨ k = Bo) w1 w101) := Lib.hid (fun k hk' => ((HP0.out.keptS hk).2 k (hk')).trans (HT0.out k hk'))
        have HV1 := Lib.hid (HV0.out.kept hk)
        have HRZ : Hid (¬ (fun k => R k ∨ k = Bo) w1.drew.heap.size) := Lib.hid (fun h => by have := HP0.out.lt h; omega)
        have HLT := Lib.hid (HP0.out.keeps.size)
        replace hS := (hk.block hS : (fun (W : World) => W.heap[Bo]? = some (.cells [.int .i64 4, .int .i64 k, .int .i64 t, .int .i64 n, .int .i64 more, .bool a, .int .u64 m].toArray 35 (0, 0))) _)
        obtain ⟨Z1, hE⟩ : ∃ b, b = w1.drew.heap.size := ⟨_, rfl⟩
        rw [← hE] at hz HP1 HRZ HLT ⊢
        have HZ1 := hz
        refine hK _ _ (fun _ => hS) ?_; clear hK K
        clear hz hsz hE hk HP0 HT0 HV0
        refine wpAnyE_one (i := 6) (listed' := #[true, true, true, true, true, true, true, false, false, false, false, true, false, false]) (by rfl) (by kernel_rfl) (by kernel_rfl) (by rfl) (fun K hK => ?_)
        simp only [Act.put, List.getElem_toArray, List.getElem_cons_succ, List.getElem_cons_zero, List.setIfInBounds_toArray, List.set_cons_zero, List.set_cons_succ]
        go_wp2_with fail
        refine Calls.mono (s_sector n _) ?_
        rintro e w102 ⟨rfl, hk⟩
        have HP2 := Lib.hid (HP1.out.keptS hk).1
        have HT2 : Hid (SameR (fun k => R k ∨ k = Bo) w1 w102) := Lib.hid (fun k hk' => ((HP1.out.keptS hk).2 k (.inl hk')).trans (HT1.out k hk'))
        have HV2 := Lib.hid (HV1.out.kept hk)
        have HZ2 := Lib.hid (hk.block HZ1.out)
        replace hS := (hk.block hS : (fun (W : World) => W.heap[Bo]? = some (.cells [.int .i64 4, .int .i64 k, .int .i64 t, .int .i64 n, .int .i64 more, .bool a, .int .u64 m].toArray 35 (0, 0))) _)
        refine hK _ _ (fun _ => hS) ?_; clear hK K
        clear hk HP1 HT1 HV1 HZ1
        refine wpAnyE_one (i := 7) (listed' := #[true, true, true, true, true, true, true, true, false, false, false, true, false, false]) (by rfl) (by kernel_rfl) (by kernel_rfl) (by rfl) (fun K hK => ?_)
        simp only [Act.put, List.getElem_toArray, List.getElem_cons_succ, List.getElem_cons_zero, List.setIfInBounds_toArray, List.set_cons_zero, List.set_cons_succ]
        go_wp2_with fail
        refine Calls.mono (H1.out _ _ HP2.out HV2.out) ?_
        rintro e w103 ⟨rfl, hk⟩
        have HP3 := Lib.hid (HP2.out.keptS hk).1
        have HT3 : Hid (SameR (fun k => R k ∨ k = Bo) w1 w103) := Lib.hid (fun k hk' => ((HP2.out.keptS hk).2 k (.inl hk')).trans (HT2.out k hk'))
        have HV3 := Lib.hid (HV2.out.kept hk)
        have HZ3 := Lib.hid (hk.block HZ2.out)
        replace hS := (hk.block hS : (fun (W : World) => W.heap[Bo]? = some (.cells [.int .i64 4, .int .i64 k, .int .i64 t, .int .i64 n, .int .i64 more, .bool a, .int .u64 m].toArray 35 (0, 0))) _)
        refine hK _ _ (fun _ => hS) ?_; clear hK K
        clear hk HP2 HT2 HV2 HZ2
        refine wpAnyE_take (i := 8) (v := ?_) (listed' := #[true, true, true, true, true, true, true, true, true, false, false, true, false, false]) (by rfl) (by kernel_rfl) (by kernel_rfl) calm_put hS (by rfl) ?_ ?_
        rotate_left
        · intro W hW; clear hW; go_simp; try (with_reducible rfl)
        simp only [Act.put, List.getElem_toArray, List.getElem_cons_succ, List.getElem_cons_zero, List.setIfInBounds_toArray, List.set_cons_zero, List.set_cons_succ]
        refine wpAnyE_take (i := 9) (v := ?_) (listed' := #[true, true, true, true, true, true, true, true, true, true, false, true, false, false]) (by rfl) (by kernel_rfl) (by kernel_rfl) calm_put hS (by rfl) ?_ ?_
        rotate_left
        · intro W hW; clear hW; go_simp; try (with_reducible rfl)
        simp only [Act.put, List.getElem_toArray, List.getElem_cons_succ, List.getElem_cons_zero, List.setIfInBounds_toArray, List.set_cons_zero, List.set_cons_succ]
        refine wpAnyE_take (i := 10) (v := ?_) (listed' := #[true, true, true, true, true, true, true, true, true, true, true, true, false, false]) (by rfl) (by kernel_rfl) (by kernel_rfl) calm_put hS (by rfl) ?_ ?_
        rotate_left
        · intro W hW; clear hW; go_simp; try (with_reducible rfl)
        simp only [Act.put, List.getElem_toArray, List.getElem_cons_succ, List.getElem_cons_zero, List.setIfInBounds_toArray, List.set_cons_zero, List.set_cons_succ]
        refine wpAnyE_one (i := 12) (listed' := #[true, true, true, true, true, true, true, true, true, true, true, true, true, false]) (by rfl) (by kernel_rfl) (by kernel_rfl) (by rfl) (fun K hK => ?_)
        simp only [Act.put, List.getElem_toArray, List.getElem_cons_succ, List.getElem_cons_zero, List.setIfInBounds_toArray, List.set_cons_zero, List.set_cons_succ]
        refine wp_store_agg _ _ rfl ty_sec Z1 0 rfl (u8s s) rfl (by rw [u8s_length, HL.out.1]) (u8s_one _) _ _ HZ3.out (by rw [u8s_length, zeroB_length]; decide) ?_
        intro wz hw
        replace hw := hw.all (by rw [u8s_length, u8s_length, HL.out.1, zeroB_length])
        have HPz := Lib.hid (HP3.out.wrote hw (.inr rfl) HLT.out)
        have HZz := Lib.hid hw.blk
        have HVz := Lib.hid (HV3.out.wrote hw (fun e => HRZ.out (.inl (HVR.out _ e))))
        have HTz : Hid (SameR (fun k => R k ∨ k = Bo) w1 wz) := Lib.hid (fun k hk => (hw.oth k (fun e => HRZ.out (e ▸ hk))).trans (HT3.out k hk))
        replace hS := ((hw.oth Bo (fun e => HRZ.out (e ▸ .inr rfl))).trans hS : (fun (W : World) => W.heap[Bo]? = some (.cells [.int .i64 4, .int .i64 k, .int .i64 t, .int .i64 n, .int .i64 more, .bool a, .int .u64 m].toArray 35 (0, 0))) _)
        refine hK _ _ (fun _ => hS) ?_; clear hK K
        refine wpAnyE_one (i := 13) (listed' := #[true, true, true, true, true, true, true, true, true, true, true, true, true, true]) (by rfl) (by kernel_rfl) (by kernel_rfl) (by rfl) (fun K hK => ?_)
        simp only [Act.put, List.getElem_toArray, List.getElem_cons_succ, List.getElem_cons_zero, List.setIfInBounds_toArray, List.set_cons_zero, List.set_cons_succ]
        go_wp2
        refine hK _ _ (fun _ => hS) ?_; clear hK K
        refine wpAnyE_done (by kernel_rfl) ?_ _
        refine calm_normal ?_
        have HSz := Lib.hid hS
        clear hS
        go_wp2
        go_meet
        case rel => exact ⟨Z1, rfl, rfl, HPz, HZz, HSz, HVz, HTz⟩
    case rest =>
    obtain ⟨Z1, rfl, rfl, HP5, HZ5, HB5, HV5, HS5⟩ := hcut
    clear HP HV HB
    obtain ⟨w5, rfl⟩ : ∃ w5, w5 = wc := ⟨_, rfl⟩
    go_upto_region 19 with fail
    go_cut [21, 22] from 133 to 143 (fun zv ev wc => ∃ Z0 : Nat, zv = .pointer (some ⟨Z0, 0, none⟩) ∧ ev = .int .i64 ec ∧ Hid (BR w0 (fun k => (fun k => (R k ∨ k = Bo) ∨ k = Z1) k ∨ k = Z0) wc p T q T.ref) ∧ Hid (wc.heap[Z0]? = some (.cells (u8s s).toArray 43 (0, 0))) ∧ Hid ((fun (W : World) => W.heap[Bo]? = some (.cells [.int .i64 4, .int .i64 k, .int .i64 t, .int .i64 n, .int .i64 more, .bool a, .int .u64 m].toArray 35 (0, 0)) ∧ W.heap[Z1]? = some (.cells (u8s s).toArray 43 (0, 0))) wc) ∧ Hid (ESl wc (Value.slice oa L.length cap) L) ∧ Hid (SameR (fun k => (R k ∨ k = Bo) ∨ k = Z1) w5 wc))
    case first =>
      have HP0 := Lib.hid (HP5.out.keptS (Kept.refl w5).drew).1
      have HV0 := Lib.hid (HV5.out.kept (Kept.refl w5).drew)
      have HT0 : Hid (SameR (fun k => (R k ∨ k = Bo) ∨ k = Z1) w5 w5.drew) := Lib.hid (fun k hk => rfl)
      have hS : (fun (W : World) => W.heap[Bo]? = some (.cells [.int .i64 4, .int .i64 k, .int .i64 t, .int .i64 n, .int .i64 more, .bool a, .int .u64 m].toArray 35 (0, 0)) ∧ W.heap[Z1]? = some (.cells (u8s s).toArray 43 (0, 0))) w5.drew := ⟨(Kept.refl w5).drew.block HB5.out, (Kept.refl w5).drew.block HZ5.out⟩
      clear HP5 HV5 HB5 HZ5
      refine wp_region_calm ?_
      refine wp_region_E (fun (W : World) => W.heap[Bo]? = some (.cells [.int .i64 4, .int .i64 k, .int .i64 t, .int .i64 n, .int .i64 more, .bool a, .int .u64 m].toArray 35 (0, 0)) ∧ W.heap[Z1]? = some (.cells (u8s s).toArray 43 (0, 0))) 100 (by kernel_rfl) ?_
      refine wpAnyE_take (i := 0) (v := ?_) (listed' := #[true, false, false, false, false, false, false, false, false, false, false, false, false, false]) (by rfl) (by kernel_rfl) (by kernel_rfl) calm_put hS (by rfl) ?_ ?_
      rotate_left
      · intro W hW; clear hW; go_simp; try (with_reducible rfl)
      simp only [Act.put, List.getElem_toArray, List.getElem_cons_succ, List.getElem_cons_zero, List.setIfInBounds_toArray, List.set_cons_zero, List.set_cons_succ]
      refine wpAnyE_take (i := 1) (v := ?_) (listed' := #[true, true, false, false, false, false, false, false, false, false, false, false, false, false]) (by rfl) (by kernel_rfl) (by kernel_rfl) calm_put hS (by rfl) ?_ ?_
      rotate_left
      · intro W hW; clear hW; go_simp; try (with_reducible rfl)
      simp only [Act.put, List.getElem_toArray, List.getElem_cons_succ, List.getElem_cons_zero, List.setIfInBounds_toArray, List.set_cons_zero, List.set_cons_succ]
      refine wpAnyE_take (i := 2) (v := ?_) (listed' := #[true, true, true, false, false, false, false, false, false, false, false, false, false, false]) (by rfl) (by kernel_rfl) (by kernel_rfl) calm_put hS (by rfl) ?_ ?_
      rotate_left
      · intro W hW; clear hW; go_simp; try (with_reducible rfl)
      simp only [Act.put, List.getElem_toArray, List.getElem_cons_succ, List.getElem_cons_zero, List.setIfInBounds_toArray, List.set_cons_zero, List.set_cons_succ]
      refine wpAnyE_take (i := 3) (v := ?_) (listed' := #[true, true, true, true, false, false, false, false, false, false, false, false, false, false]) (by rfl) (by kernel_rfl) (by kernel_rfl) calm_put hS (by rfl) ?_ ?_
      rotate_left
      · intro W hW; obtain ⟨hW, _⟩ := hW; have c1 := cell_of_row _ _ 1 _ _ _ hW; have c2 := cell_of_row _ _ 2 _ _ _ hW; have c3 := cell_of_row _ _ 3 _ _ _ hW; have c6 := cell_of_row _ _ 6 _ _ _ hW; clear hW; go_simp; try (with_reducible rfl)
      simp only [Act.put, List.getElem_toArray, List.getElem_cons_succ, List.getElem_cons_zero, List.setIfInBounds_toArray, List.set_cons_zero, List.set_cons_succ]
      refine wpAnyE_take (i := 4) (v := ?_) (listed' := #[true, true, true, true, true, false, false, false, false, false, false, false, false, false]) (by rfl) (by kernel_rfl) (by kernel_rfl) calm_put hS (by rfl) ?_ ?_
      rotate_left
      · intro W hW; clear hW; go_simp; try (with_reducible rfl)
      simp only [Act.put, List.getElem_toArray, List.getElem_cons_succ, List.getElem_cons_zero, List.setIfInBounds_toArray, List.set_cons_zero, List.set_cons_succ]
      refine wpAnyE_take (i := 5) (v := ?_) (listed' := #[true, true, true, true, true, true, false, false, false, false, false, false, false, false]) (by rfl) (by kernel_rfl) (by kernel_rfl) calm_put hS (by rfl) ?_ ?_
      rotate_left
      · intro W hW; obtain ⟨hW, _⟩ := hW; have c1 := cell_of_row _ _ 1 _ _ _ hW; have c2 := cell_of_row _ _ 2 _ _ _ hW; have c3 := cell_of_row _ _ 3 _ _ _ hW; have c6 := cell_of_row _ _ 6 _ _ _ hW; clear hW; go_simp; try (with_reducible rfl)
      simp only [Act.put, List.getElem_toArray, List.getElem_cons_succ, List.getElem_cons_zero, List.setIfInBounds_toArray, List.set_cons_zero, List.set_cons_succ]
      refine wpAnyE_two (i := 6) (j := 11) (li := #[true, true, true, true, true, true, true, false, false, false, false, false, false, false]) (lj := #[true, true, true, true, true, true, false, false, false, false, false, true, false, false]) (by rfl) (by rfl) (by kernel_rfl) (by kernel_rfl) (by kernel_rfl) (by rfl) (by rfl) (fun K hK => ?_) (fun K hK => ?_)
      · simp only [Act.put, List.getElem_toArray, List.getElem_cons_succ, List.getElem_cons_zero, List.setIfInBounds_toArray, List.set_cons_zero, List.set_cons_succ]
        go_wp2_with fail
        refine Calls.mono (s_sector n _) ?_
        rintro e w101 ⟨rfl, hk⟩
        have HP1 := Lib.hid (HP0.out.keptS hk).1
        have HT1 : Hid (SameR (fun k => (R k ∨ k = Bo) ∨ k = Z1) w5 w101) := Lib.hid (fun k hk' => ((HP0.out.keptS hk).2 k (hk')).trans (HT0.out k hk'))
        have HV1 := Lib.hid (HV0.out.kept hk)
        replace hS := (⟨hk.block hS.1, hk.block hS.2⟩ : (fun (W : World) => W.heap[Bo]? = some (.cells [.int .i64 4, .int .i64 k, .int .i64 t, .int .i64 n, .int .i64 more, .bool a, .int .u64 m].toArray 35 (0, 0)) ∧ W.heap[Z1]? = some (.cells (u8s s).toArray 43 (0, 0))) _)
        refine hK _ _ (fun _ => hS) ?_; clear hK K
        clear hk HP0 HT0 HV0
        refine wpAnyE_two (i := 7) (j := 11) (li := #[true, true, true, true, true, true, true, true, false, false, false, false, false, false]) (lj := #[true, true, true, true, true, true, true, false, false, false, false, true, false, false]) (by rfl) (by rfl) (by kernel_rfl) (by kernel_rfl) (by kernel_rfl) (by rfl) (by rfl) (fun K hK => ?_) (fun K hK => ?_)
        · simp only [Act.put, List.getElem_toArray, List.getElem_cons_succ, List.getElem_cons_zero, List.setIfInBounds_toArray, List.set_cons_zero, List.set_cons_succ]
          go_wp2_with fail
          refine Calls.mono (H2.out _ _ HP1.out HV1.out) ?_
          rintro e w102 ⟨rfl, hk⟩
          have HP2 := Lib.hid (HP1.out.keptS hk).1
          have HT2 : Hid (SameR (fun k => (R k ∨ k = Bo) ∨ k = Z1) w5 w102) := Lib.hid (fun k hk' => ((HP1.out.keptS hk).2 k (hk')).trans (HT1.out k hk'))
          have HV2 := Lib.hid (HV1.out.kept hk)
          replace hS := (⟨hk.block hS.1, hk.block hS.2⟩ : (fun (W : World) => W.heap[Bo]? = some (.cells [.int .i64 4, .int .i64 k, .int .i64 t, .int .i64 n, .int .i64 more, .bool a, .int .u64 m].toArray 35 (0, 0)) ∧ W.heap[Z1]? = some (.cells (u8s s).toArray 43 (0, 0))) _)
          refine hK _ _ (fun _ => hS) ?_; clear hK K
          clear hk HP1 HT1 HV1
          refine wpAnyE_take (i := 8) (v := ?_) (listed' := #[true, true, true, true, true, true, true, true, true, false, false, false, false, false]) (by rfl) (by kernel_rfl) (by kernel_rfl) calm_put hS (by rfl) ?_ ?_
          rotate_left
          · intro W hW; clear hW; go_simp; try (with_reducible rfl)
          simp only [Act.put, List.getElem_toArray, List.getElem_cons_succ, List.getElem_cons_zero, List.setIfInBounds_toArray, List.set_cons_zero, List.set_cons_succ]
          refine wpAnyE_take (i := 9) (v := ?_) (listed' := #[true, true, true, true, true, true, true, true, true, true, false, false, false, false]) (by rfl) (by kernel_rfl) (by kernel_rfl) calm_put hS (by rfl) ?_ ?_
          rotate_left
          · intro W hW; clear hW; go_simp; try (with_reducible rfl)
          simp only [Act.put, List.getElem_toArray, List.getElem_cons_succ, List.getElem_cons_zero, List.setIfInBounds_toArray, List.set_cons_zero, List.set_cons_succ]
          refine wpAnyE_take (i := 10) (v := ?_) (listed' := #[true, true, true, true, true, true, true, true, true, true, true, false, false, false]) (by rfl) (by kernel_rfl) (by kernel_rfl) calm_put hS (by rfl) ?_ ?_
          rotate_left
          · intro W hW; clear hW; go_simp; try (with_reducible rfl)
          simp only [Act.put, List.getElem_toArray, List.getElem_cons_succ, List.getElem_cons_zero, List.setIfInBounds_toArray, List.set_cons_zero, List.set_cons_succ]
          refine wpAnyE_one (i := 11) (listed' := #[true, true, true, true, true, true, true, true, true, true, true, true, false, false]) (by rfl) (by kernel_rfl) (by kernel_rfl) (by rfl) (fun K hK => ?_)
          simp only [Act.put, List.getElem_toArray, List.getElem_cons_succ, List.getElem_cons_zero, List.setIfInBounds_toArray, List.set_cons_zero, List.set_cons_succ]
          refine wp_alloc_abs 43 rfl (u8s zeroB) zero_sec ?_
          intro w103 hz hsz hk
          have HP3 := Lib.hid (HP2.out.box hk hsz)
          have HT3 : Hid (SameR (fun k => (R k ∨ k = Bo) ∨ k = Z1) w5 w103) := Lib.hid (fun k hk' => ((HP2.out.keptS hk).2 k (hk')).trans (HT2.out k hk'))
          have HV3 := Lib.hid (HV2.out.kept hk)
          have HRZ : Hid (¬ (fun k => (R k ∨ k = Bo) ∨ k = Z1) w102.heap.size) := Lib.hid (fun h => by have := HP2.out.lt h; omega)
          have HLT := Lib.hid (HP2.out.keeps.size)
          replace hS := (⟨hk.block hS.1, hk.block hS.2⟩ : (fun (W : World) => W.heap[Bo]? = some (.cells [.int .i64 4, .int .i64 k, .int .i64 t, .int .i64 n, .int .i64 more, .bool a, .int .u64 m].toArray 35 (0, 0)) ∧ W.heap[Z1]? = some (.cells (u8s s).toArray 43 (0, 0))) _)
          obtain ⟨Z2, hE⟩ : ∃ b, b = w102.heap.size := ⟨_, rfl⟩
          rw [← hE] at hz HP3 HRZ HLT ⊢
          have HZ3 := hz
          refine hK _ _ (fun _ => hS) ?_; clear hK K
          clear hz hsz hE hk HP2 HT2 HV2
          refine wpAnyE_one (i := 12) (listed' := #[true, true, true, true, true, true, true, true, true, true, true, true, true, false]) (by rfl) (by kernel_rfl) (by kernel_rfl) (by rfl) (fun K hK => ?_)
          simp only [Act.put, List.getElem_toArray, List.getElem_cons_succ, List.getElem_cons_zero, List.setIfInBounds_toArray, List.set_cons_zero, List.set_cons_succ]
          refine wp_store_agg _ _ rfl ty_sec Z2 0 rfl (u8s s) rfl (by rw [u8s_length, HL.out.1]) (u8s_one _) _ _ HZ3.out (by rw [u8s_length, zeroB_length]; decide) ?_
          intro wz hw
          replace hw := hw.all (by rw [u8s_length, u8s_length, HL.out.1, zeroB_length])
          have HPz := Lib.hid (HP3.out.wrote hw (.inr rfl) HLT.out)
          have HZz := Lib.hid hw.blk
          have HVz := Lib.hid (HV3.out.wrote hw (fun e => HRZ.out (.inl (.inl (HVR.out _ e)))))
          have HTz : Hid (SameR (fun k => (R k ∨ k = Bo) ∨ k = Z1) w5 wz) := Lib.hid (fun k hk => (hw.oth k (fun e => HRZ.out (e ▸ hk))).trans (HT3.out k hk))
          replace hS := (⟨(hw.oth Bo (fun e => HRZ.out (e ▸ .inl (.inr rfl)))).trans hS.1, (hw.oth Z1 (fun e => HRZ.out (e ▸ .inr rfl))).trans hS.2⟩ : (fun (W : World) => W.heap[Bo]? = some (.cells [.int .i64 4, .int .i64 k, .int .i64 t, .int .i64 n, .int .i64 more, .bool a, .int .u64 m].toArray 35 (0, 0)) ∧ W.heap[Z1]? = some (.cells (u8s s).toArray 43 (0, 0))) _)
          refine hK _ _ (fun _ => hS) ?_; clear hK K
          refine wpAnyE_one (i := 13) (listed' := #[true, true, true, true, true, true, true, true, true, true, true, true, true, true]) (by rfl) (by kernel_rfl) (by kernel_rfl) (by rfl) (fun K hK => ?_)
          simp only [Act.put, List.getElem_toArray, List.getElem_cons_succ, List.getElem_cons_zero, List.setIfInBounds_toArray, List.set_cons_zero, List.set_cons_succ]
          go_wp2
          refine hK _ _ (fun _ => hS) ?_; clear hK K
          refine wpAnyE_done (by kernel_rfl) ?_ _
          refine calm_normal ?_
          have HSz := Lib.hid hS
          clear hS
          go_wp2
          go_meet
          case rel => exact ⟨Z2, rfl, rfl, HPz, HZz, HSz, HVz, HTz⟩
        · simp only [Act.put, List.getElem_toArray, List.getElem_cons_succ, List.getElem_cons_zero, List.setIfInBounds_toArray, List.set_cons_zero, List.set_cons_succ]
          refine wp_alloc_abs 43 rfl (u8s zeroB) zero_sec ?_
          intro w102 hz hsz hk
          have HP2 := Lib.hid (HP1.out.box hk hsz)
          have HT2 : Hid (SameR (fun k => (R k ∨ k = Bo) ∨ k = Z1) w5 w102) := Lib.hid (fun k hk' => ((HP1.out.keptS hk).2 k (hk')).trans (HT1.out k hk'))
          have HV2 := Lib.hid (HV1.out.kept hk)
          have HRZ : Hid (¬ (fun k => (R k ∨ k = Bo) ∨ k = Z1) w101.heap.size) := Lib.hid (fun h => by have := HP1.out.lt h; omega)
          have HLT := Lib.hid (HP1.out.keeps.size)
          replace hS := (⟨hk.block hS.1, hk.block hS.2⟩ : (fun (W : World) => W.heap[Bo]? = some (.cells [.int .i64 4, .int .i64 k, .int .i64 t, .int .i64 n, .int .i64 more, .bool a, .int .u64 m].toArray 35 (0, 0)) ∧ W.heap[Z1]? = some (.cells (u8s s).toArray 43 (0, 0))) _)
          obtain ⟨Z2, hE⟩ : ∃ b, b = w101.heap.size := ⟨_, rfl⟩
          rw [← hE] at hz HP2 HRZ HLT ⊢
          have HZ2 := hz
          refine hK _ _ (fun _ => hS) ?_; clear hK K
          clear hz hsz hE hk HP1 HT1 HV1
          refine wpAnyE_one (i := 7) (listed' := #[true, true, true, true, true, true, true, true, false, false, false, true, false, false]) (by rfl) (by kernel_rfl) (by kernel_rfl) (by rfl) (fun K hK => ?_)
          simp only [Act.put, List.getElem_toArray, List.getElem_cons_succ, List.getElem_cons_zero, List.setIfInBounds_toArray, List.set_cons_zero, List.set_cons_succ]
          go_wp2_with fail
          refine Calls.mono (H2.out _ _ HP2.out HV2.out) ?_
          rintro e w103 ⟨rfl, hk⟩
          have HP3 := Lib.hid (HP2.out.keptS hk).1
          have HT3 : Hid (SameR (fun k => (R k ∨ k = Bo) ∨ k = Z1) w5 w103) := Lib.hid (fun k hk' => ((HP2.out.keptS hk).2 k (.inl hk')).trans (HT2.out k hk'))
          have HV3 := Lib.hid (HV2.out.kept hk)
          have HZ3 := Lib.hid (hk.block HZ2.out)
          replace hS := (⟨hk.block hS.1, hk.block hS.2⟩ : (fun (W : World) => W.heap[Bo]? = some (.cells [.int .i64 4, .int .i64 k, .int .i64 t, .int .i64 n, .int .i64 more, .bool a, .int .u64 m].toArray 35 (0, 0)) ∧ W.heap[Z1]? = some (.cells (u8s s).toArray 43 (0, 0))) _)
          refine hK _ _ (fun _ => hS) ?_; clear hK K
          clear hk HP2 HT2 HV2 HZ2
          refine wpAnyE_take (i := 8) (v := ?_) (listed' := #[true, true, true, true, true, true, true, true, true, false, false, true, false, false]) (by rfl) (by kernel_rfl) (by kernel_rfl) calm_put hS (by rfl) ?_ ?_
          rotate_left
          · intro W hW; clear hW; go_simp; try (with_reducible rfl)
          simp only [Act.put, List.getElem_toArray, List.getElem_cons_succ, List.getElem_cons_zero, List.setIfInBounds_toArray, List.set_cons_zero, List.set_cons_succ]
          refine wpAnyE_take (i := 9) (v := ?_) (listed' := #[true, true, true, true, true, true, true, true, true, true, false, true, false, false]) (by rfl) (by kernel_rfl) (by kernel_rfl) calm_put hS (by rfl) ?_ ?_
          rotate_left
          · intro W hW; clear hW; go_simp; try (with_reducible rfl)
          simp only [Act.put, List.getElem_toArray, List.getElem_cons_succ, List.getElem_cons_zero, List.setIfInBounds_toArray, List.set_cons_zero, List.set_cons_succ]
          refine wpAnyE_take (i := 10) (v := ?_) (listed' := #[true, true, true, true, true, true, true, true, true, true, true, true, false, false]) (by rfl) (by kernel_rfl) (by kernel_rfl) calm_put hS (by rfl) ?_ ?_
          rotate_left
          · intro W hW; clear hW; go_simp; try (with_reducible rfl)
          simp only [Act.put, List.getElem_toArray, List.getElem_cons_succ, List.getElem_cons_zero, List.setIfInBounds_toArray, List.set_cons_zero, List.set_cons_succ]
          refine wpAnyE_one (i := 12) (listed' := #[true, true, true, true, true, true, true, true, true, true, true, true, true, false]) (by rfl) (by kernel_rfl) (by kernel_rfl) (by rfl) (fun K hK => ?_)
          simp only [Act.put, List.getElem_toArray, List.getElem_cons_succ, List.getElem_cons_zero, List.setIfInBounds_toArray, List.set_cons_zero, List.set_cons_succ]
          refine wp_store_agg _ _ rfl ty_sec Z2 0 rfl (u8s s) rfl (by rw [u8s_length, HL.out.1]) (u8s_one _) _ _ HZ3.out (by rw [u8s_length, zeroB_length]; decide) ?_
          intro wz hw
          replace hw := hw.all (by rw [u8s_length, u8s_length, HL.out.1, zeroB_length])
          have HPz := Lib.hid (HP3.out.wrote hw (.inr rfl) HLT.out)
          have HZz := Lib.hid hw.blk
          have HVz := Lib.hid (HV3.out.wrote hw (fun e => HRZ.out (.inl (.inl (HVR.out _ e)))))
          have HTz : Hid (SameR (fun k => (R k ∨ k = Bo) ∨ k = Z1) w5 wz) := Lib.hid (fun k hk => (hw.oth k (fun e => HRZ.out (e ▸ hk))).trans (HT3.out k hk))
          replace hS := (⟨(hw.oth Bo (fun e => HRZ.out (e ▸ .inl (.inr rfl)))).trans hS.1, (hw.oth Z1 (fun e => HRZ.out (e ▸ .inr rfl))).trans hS.2⟩ : (fun (W : World) => W.heap[Bo]? = some (.cells [.int .i64 4, .int .i64 k, .int .i64 t, .int .i64 n, .int .i64 more, .bool a, .int .u64 m].toArray 35 (0, 0)) ∧ W.heap[Z1]? = some (.cells (u8s s).toArray 43 (0, 0))) _)
          refine hK _ _ (fun _ => hS) ?_; clear hK K
          refine wpAnyE_one (i := 13) (listed' := #[true, true, true, true, true, true, true, true, true, true, true, true, true, true]) (by rfl) (by kernel_rfl) (by kernel_rfl) (by rfl) (fun K hK => ?_)
          simp only [Act.put, List.getElem_toArray, List.getElem_cons_succ, List.getElem_cons_zero, List.setIfInBounds_toArray, List.set_cons_zero, List.set_cons_succ]
          go_wp2
          refine hK _ _ (fun _ => hS) ?_; clear hK K
          refine wpAnyE_done (by kernel_rfl) ?_ _
          refine calm_normal ?_
          have HSz := Lib.hid hS
          clear hS
          go_wp2
          go_meet
          case rel => exact ⟨Z2, rfl, rfl, HPz, HZz, HSz, HVz, HTz⟩
      · simp only [Act.put, List.getElem_toArray, List.getElem_cons_succ, List.getElem_cons_zero, List.setIfInBounds_toArray, List.set_cons_zero, List.set_cons_succ]
        refine wp_alloc_abs 43 rfl (u8s zeroB) zero_sec ?_
        intro w101 hz hsz hk
        have HP1 := Lib.hid (HP0.out.box hk hsz)
        have HT1 : Hid (SameR (fun k => (R k ∨ k = Bo) ∨ k = Z1) w5 w101) := Lib.hid (fun k hk' => ((HP0.out.keptS hk).2 k (hk')).trans (HT0.out k hk'))
        have HV1 := Lib.hid (HV0.out.kept hk)
        have HRZ : Hid (¬ (fun k => (R k ∨ k = Bo) ∨ k = Z1) w5.drew.heap.size) := Lib.hid (fun h => by have := HP0.out.lt h; omega)
        have HLT := Lib.hid (HP0.out.keeps.size)
        replace hS := (⟨hk.block hS.1, hk.block hS.2⟩ : (fun (W : World) => W.heap[Bo]? = some (.cells [.int .i64 4, .int .i64 k, .int .i64 t, .int .i64 n, .int .i64 more, .bool a, .int .u64 m].toArray 35 (0, 0)) ∧ W.heap[Z1]? = some (.cells (u8s s).toArray 43 (0, 0))) _)
        obtain ⟨Z2, hE⟩ : ∃ b, b = w5.drew.heap.size := ⟨_, rfl⟩
        rw [← hE] at hz HP1 HRZ HLT ⊢
        have HZ1 := hz
        refine hK _ _ (fun _ => hS) ?_; clear hK K
        clear hz hsz hE hk HP0 HT0 HV0
        refine wpAnyE_one (i := 6) (listed' := #[true, true, true, true, true, true, true, false, false, false, false, true, false, false]) (by rfl) (by kernel_rfl) (by kernel_rfl) (by rfl) (fun K hK => ?_)
        simp only [Act.put, List.getElem_toArray, List.getElem_cons_succ, List.getElem_cons_zero, List.setIfInBounds_toArray, List.set_cons_zero, List.set_cons_succ]
        go_wp2_with fail
        refine Calls.mono (s_sector n _) ?_
        rintro e w102 ⟨rfl, hk⟩
        have HP2 := Lib.hid (HP1.out.keptS hk).1
        have HT2 : Hid (SameR (fun k => (R k ∨ k = Bo) ∨ k = Z1) w5 w102) := Lib.hid (fun k hk' => ((HP1.out.keptS hk).2 k (.inl hk')).trans (HT1.out k hk'))
        have HV2 := Lib.hid (HV1.out.kept hk)
        have HZ2 := Lib.hid (hk.block HZ1.out)
        replace hS := (⟨hk.block hS.1, hk.block hS.2⟩ : (fun (W : World) => W.heap[Bo]? = some (.cells [.int .i64 4, .int .i64 k, .int .i64 t, .int .i64 n, .int .i64 more, .bool a, .int .u64 m].toArray 35 (0, 0)) ∧ W.heap[Z1]? = some (.cells (u8s s).toArray 43 (0, 0))) _)
        refine hK _ _ (fun _ => hS) ?_; clear hK K
        clear hk HP1 HT1 HV1 HZ1
        refine wpAnyE_one (i := 7) (listed' := #[true, true, true, true, true, true, true, true, false, false, false, true, false, false]) (by rfl) (by kernel_rfl) (by kernel_rfl) (by rfl) (fun K hK => ?_)
        simp only [Act.put, List.getElem_toArray, List.getElem_cons_succ, List.getElem_cons_zero, List.setIfInBounds_toArray, List.set_cons_zero, List.set_cons_succ]
        go_wp2_with fail
        refine Calls.mono (H2.out _ _ HP2.out HV2.out) ?_
        rintro e w103 ⟨rfl, hk⟩
        have HP3 := Lib.hid (HP2.out.keptS hk).1
        have HT3 : Hid (SameR (fun k => (R k ∨ k = Bo) ∨ k = Z1) w5 w103) := Lib.hid (fun k hk' => ((HP2.out.keptS hk).2 k (.inl hk')).trans (HT2.out k hk'))
        have HV3 := Lib.hid (HV2.out.kept hk)
        have HZ3 := Lib.hid (hk.block HZ2.out)
        replace hS := (⟨hk.block hS.1, hk.block hS.2⟩ : (fun (W : World) => W.heap[Bo]? = some (.cells [.int .i64 4, .int .i64 k, .int .i64 t, .int .i64 n, .int .i64 more, .bool a, .int .u64 m].toArray 35 (0, 0)) ∧ W.heap[Z1]? = some (.cells (u8s s).toArray 43 (0, 0))) _)
        refine hK _ _ (fun _ => hS) ?_; clear hK K
        clear hk HP2 HT2 HV2 HZ2
        refine wpAnyE_take (i := 8) (v := ?_) (listed' := #[true, true, true, true, true, true, true, true, true, false, false, true, false, false]) (by rfl) (by kernel_rfl) (by kernel_rfl) calm_put hS (by rfl) ?_ ?_
        rotate_left
        · intro W hW; clear hW; go_simp; try (with_reducible rfl)
        simp only [Act.put, List.getElem_toArray, List.getElem_cons_succ, List.getElem_cons_zero, List.setIfInBounds_toArray, List.set_cons_zero, List.set_cons_succ]
        refine wpAnyE_take (i := 9) (v := ?_) (listed' := #[true, true, true, true, true, true, true, true, true, true, false, true, false, false]) (by rfl) (by kernel_rfl) (by kernel_rfl) calm_put hS (by rfl) ?_ ?_
        rotate_left
        · intro W hW; clear hW; go_simp; try (with_reducible rfl)
        simp only [Act.put, List.getElem_toArray, List.getElem_cons_succ, List.getElem_cons_zero, List.setIfInBounds_toArray, List.set_cons_zero, List.set_cons_succ]
        refine wpAnyE_take (i := 10) (v := ?_) (listed' := #[true, true, true, true, true, true, true, true, true, true, true, true, false, false]) (by rfl) (by kernel_rfl) (by kernel_rfl) calm_put hS (by rfl) ?_ ?_
        rotate_left
        · intro W hW; clear hW; go_simp; try (with_reducible rfl)
        simp only [Act.put, List.getElem_toArray, List.getElem_cons_succ, List.getElem_cons_zero, List.setIfInBounds_toArray, List.set_cons_zero, List.set_cons_succ]
        refine wpAnyE_one (i := 12) (listed' := #[true, true, true, true, true, true, true, true, true, true, true, true, true, false]) (by rfl) (by kernel_rfl) (by kernel_rfl) (by rfl) (fun K hK => ?_)
        simp only [Act.put, List.getElem_toArray, List.getElem_cons_succ, List.getElem_cons_zero, List.setIfInBounds_toArray, List.set_cons_zero, List.set_cons_succ]
        refine wp_store_agg _ _ rfl ty_sec Z2 0 rfl (u8s s) rfl (by rw [u8s_length, HL.out.1]) (u8s_one _) _ _ HZ3.out (by rw [u8s_length, zeroB_length]; decide) ?_
        intro wz hw
        replace hw := hw.all (by rw [u8s_length, u8s_length, HL.out.1, zeroB_length])
        have HPz := Lib.hid (HP3.out.wrote hw (.inr rfl) HLT.out)
        have HZz := Lib.hid hw.blk
        have HVz := Lib.hid (HV3.out.wrote hw (fun e => HRZ.out (.inl (.inl (HVR.out _ e)))))
        have HTz : Hid (SameR (fun k => (R k ∨ k = Bo) ∨ k = Z1) w5 wz) := Lib.hid (fun k hk => (hw.oth k (fun e => HRZ.out (e ▸ hk))).trans (HT3.out k hk))
        replace hS := (⟨(hw.oth Bo (fun e => HRZ.out (e ▸ .inl (.inr rfl)))).trans hS.1, (hw.oth Z1 (fun e => HRZ.out (e ▸ .inr rfl))).trans hS.2⟩ : (fun (W : World) => W.heap[Bo]? = some (.cells [.int .i64 4, .int .i64 k, .int .i64 t, .int .i64 n, .int .i64 more, .bool a, .int .u64 m].toArray 35 (0, 0)) ∧ W.heap[Z1]? = some (.cells (u8s s).toArray 43 (0, 0))) _)
        refine hK _ _ (fun _ => hS) ?_; clear hK K
        refine wpAnyE_one (i := 13) (listed' := #[true, true, true, true, true, true, true, true, true, true, true, true, true, true]) (by rfl) (by kernel_rfl) (by kernel_rfl) (by rfl) (fun K hK => ?_)
        simp only [Act.put, List.getElem_toArray, List.getElem_cons_succ, List.getElem_cons_zero, List.setIfInBounds_toArray, List.set_cons_zero, List.set_cons_succ]
        go_wp2
        refine hK _ _ (fun _ => hS) ?_; clear hK K
        refine wpAnyE_done (by kernel_rfl) ?_ _
        refine calm_normal ?_
        have HSz := Lib.hid hS
        clear hS
        go_wp2
        go_meet
        case rel => exact ⟨Z2, rfl, rfl, HPz, HZz, HSz, HVz, HTz⟩
    case rest =>
    obtain ⟨Z2, rfl, rfl, HP9, HZ9, HS9b, HV9, HS9⟩ := hcut
    clear HP5 HV5 HB5 HZ5
    obtain ⟨w9, rfl⟩ : ∃ w9, w9 = wc := ⟨_, rfl⟩
    have HB9b := Lib.hid HS9b.out.1
    have HZ1 := Lib.hid HS9b.out.2
    clear HS9b
    go_wp2_with (refine stop_at (o := ⟨some 144, _, _, _, _, _⟩) ?_)
    refine Stop.mk ?_
    refine wpList_load_aggW _ rfl ty_sec Z1 0 rfl (u8s s) (by simpa using Cells.of_block HZ1.out) (by rw [u8s_length, HL.out.1]) rfl ?_
    go_wp2_with (refine stop_at (o := ⟨some 145, _, _, _, _, _⟩) ?_)
    refine Stop.mk ?_
    refine wpList_load_aggW _ rfl ty_sec Z2 0 rfl (u8s s) (by simpa using Cells.of_block HZ9.out) (by rw [u8s_length, HL.out.1]) rfl ?_
    go_wp2_with (refine stop_at (o := ⟨some 146, _, _, _, _, _⟩) ?_)
    refine Stop.mk ?_
    refine wpList_neq_sec rfl _ _ rfl s s rfl rfl HL.out.1 HL.out.1 ?_
    have HT9 : Hid (SameR R W w9) := Lib.hid (fun k hk => (HS9.out k (.inl (.inl hk))).trans ((HS5.out k (.inl hk)).trans (HS0.out k hk)))
    have HP9b : Hid (BR w0 (fun k => (R k ∨ k = Bo) ∨ k = Z1) w9 p T q T.ref) := Lib.hid (HP9.out.less fun k hk => .inl hk)
    clear HS0 HS5 HS9 HZ9 H1 H2 HP9
    by_cases hec : ec = 0
    · have h0 := HPU.out hec
      subst hec
      obtain ⟨s1, rfl, h2, hs8, hsp, hkk, htt⟩ := splitX_ok h0
      obtain ⟨mm, hmm⟩ : ∃ mm, L.length = mm + 1 := ⟨L.length - 1, by omega⟩
      have hm1 : L.length - 1 = mm := by omega
      rw [hm1] at hs8 htt
      have HQ : Hid ((s1 : Int) / (mm : Int) = ((s1 / mm : Nat) : Int)) := Lib.hid (by simp)
      have HHM := Lib.hid (fun (W : World) (he : ESl W (Value.slice oa L.length cap) L) => rf_Home he HN.out (s1 : Int))
      have HPR := Lib.hid (fun (W : World) (he : ESl W (Value.slice oa L.length cap) L) => rf_Parity he HN.out ((s1 / mm : Nat) : Int))
      generalize s1 / mm = tq at *
      obtain ⟨⟨⟨hx, hy⟩, hc1⟩, hhx⟩ : ∃ x, homeX L (s1 : Int) = x := ⟨_, rfl⟩
      obtain ⟨⟨⟨px, py⟩, pc1⟩, hpx⟩ : ∃ x, parityX L (tq : Int) = x := ⟨_, rfl⟩
      rw [hhx] at HHM
      rw [hpx] at HPR
      simp only at HHM HPR
      have hl9 : mm ≤ 8 := by have := HB9.out; omega
      have hm0 : 1 ≤ mm := by omega
      have hs9 : s1 < 64 := by omega
      have htq : tq < 8 := htt
      have HHN := HN
      clear hhx hpx hm1 h2 hs8 hsp hkk htt h0 HPU HN
      simp only [hmm] at HHM HPR HV9 ⊢
      -- the writes: letters for what they make of the bank
      have hq1 := HU.out.2.2.write hx hy (secN_is n)
      have hq2 := hq1.write px py HL.out
      have HW1 := Lib.hid (fun (R : Nat → Prop) (W : World) (h : BR w0 R W p T q T.ref) => br_Write h HU.out.1 hx hy (secN_is n).1)
      have HW2 := Lib.hid (fun (R : Nat → Prop) (W : World) (h : BR w0 R W p (T.write hx hy (secN n)).1 q T.ref) => br_Write2 h HU.out.2.1 hx hy (secN_is n))
      obtain ⟨T1, e1c, hT1⟩ : ∃ T1 e1c, T.write hx hy (secN n) = (T1, e1c) := ⟨_, _, rfl⟩
      rw [hT1] at HW1 HW2 hq1 hq2
      simp only at HW1 HW2 hq1 hq2
      have hcc : c < 90000 := HB9.out.2.2.1
      have HW3 := Lib.hid (fun (R : Nat → Prop) (W : World) (h : BR w0 R W p T1 q T1.ref) => br_Write h (hq1.use (by decide) (by omega)) px py HL.out.1)
      have HW4 := Lib.hid (fun (R : Nat → Prop) (W : World) (h : BR w0 R W p (T1.write px py s).1 q T1.ref) => br_Write2 h (hq1.doc (by decide) (by omega)) px py HL.out)
      obtain ⟨T2, e2c, hT2⟩ : ∃ T2 e2c, T1.write px py s = (T2, e2c) := ⟨_, _, rfl⟩
      rw [hT2] at HW3 HW4 hq2
      simp only at HW3 HW4 hq2
      have HN2 : Hid (Sane T2 5 20 (c + 12)) := Lib.hid (hq2.le (by omega))
      clear hT1 hT2 hq1 hq2 hcc
      have c2 := cell_of_row _ _ 2 _ _ _ HB9b.out
      go_wp2_with fail
      refine Calls.mono (HHM.out _ HV9.out) ?_
      rintro e w10 ⟨rfl, hk⟩
      have HP10 := Lib.hid (HP9b.out.keptS hk).1
      have HS10 := Lib.hid (HP9b.out.keptS hk).2
      have HB10 := Lib.hid (hk.block HB9b.out)
      have HZ10 := Lib.hid (hk.block HZ1.out)
      have HV10 := Lib.hid (HV9.out.kept hk)
      clear hk HP9b HB9b HZ1 HV9 c2 HHM
      go_wp2_with (refine stop_at (o := ⟨some 23, _, _, _, _, _⟩) ?_)
      refine Stop.mk ?_
      refine wpList_new_row rfl rfl _ _ rfl rfl ty_plc _ zero_plc rfl [.int .i64 hx, .int .i64 hy] rfl rfl (one_plc _ _) rfl ?_
      intro w11 hz hsz hk
      have HP11 := Lib.hid (HP10.out.box hk hsz)
      have HS11 := Lib.hid (HP10.out.keptS hk).2
      have HB11 := Lib.hid (hk.block HB10.out)
      have HZ11 := Lib.hid (hk.block HZ10.out)
      have HV11 := Lib.hid (HV10.out.kept hk)
      obtain ⟨P1, hE⟩ : ∃ b, b = w10.heap.size := ⟨_, rfl⟩
      rw [← hE] at hz HP11 ⊢
      have HA11 := hz
      clear hz hsz hk hE HP10 HB10 HZ10 HV10
      have c2 := cell_of_row _ _ 2 _ _ _ HB11.out
      go_wp2_with fail
      simp only [HQ.out, show wrap64 (tq : Int) = (tq : Int) from by unfold wrap64; omega]
      refine Calls.mono (HPR.out _ HV11.out) ?_
      rintro e w12 ⟨rfl, hk⟩
      have HP12 := Lib.hid (HP11.out.keptS hk).1
      have HS12 := Lib.hid (HP11.out.keptS hk).2
      have HB12 := Lib.hid (hk.block HB11.out)
      have HZ12 := Lib.hid (hk.block HZ11.out)
      have HA12 := Lib.hid (hk.block HA11.out)
      clear hk HP11 HB11 HZ11 HA11 HV11 c2 HPR
      go_wp2_with (refine stop_at (o := ⟨some 25, _, _, _, _, _⟩) ?_)
      refine Stop.mk ?_
      refine wpList_new_row rfl rfl _ _ rfl rfl ty_plc _ zero_plc rfl [.int .i64 px, .int .i64 py] rfl rfl (one_plc _ _) rfl ?_
      intro w13 hz hsz hk
      have HP13 := Lib.hid (HP12.out.box hk hsz)
      have HS13 := Lib.hid (HP12.out.keptS hk).2
      have HB13 := Lib.hid (hk.block HB12.out)
      have HZ13 := Lib.hid (hk.block HZ12.out)
      have HA13 := Lib.hid (hk.block HA12.out)
      obtain ⟨P2, hE⟩ : ∃ b, b = w12.heap.size := ⟨_, rfl⟩
      rw [← hE] at hz HP13 ⊢
      have HD13 := hz
      clear hz hsz hk hE HP12 HB12 HZ12 HA12
      go_upto_region 25 with fail
      have HPD := Lib.hid (HP13.out.keptS (Kept.refl w13).drew).1
      have hS : (fun (W : World) => W.heap[Bo]? = some (.cells [.int .i64 4, .int .i64 k, .int .i64 (s1 : Int), .int .i64 n, .int .i64 more, .bool a, .int .u64 m].toArray 35 (0, 0)) ∧ W.heap[Z1]? = some (.cells (u8s s).toArray 43 (0, 0)) ∧ W.heap[P1]? = some (.cells [Value.int .i64 hx, .int .i64 hy].toArray 47 (0, 0)) ∧ W.heap[P2]? = some (.cells [Value.int .i64 px, .int .i64 py].toArray 47 (0, 0))) w13.drew := ⟨(Kept.refl w13).drew.block HB13.out, (Kept.refl w13).drew.block HZ13.out, (Kept.refl w13).drew.block HA13.out, (Kept.refl w13).drew.block HD13.out⟩
      clear HP13 HB13 HZ13 HA13 HD13
      refine wp_region_calm ?_
      refine wp_region_E (fun (W : World) => W.heap[Bo]? = some (.cells [.int .i64 4, .int .i64 k, .int .i64 (s1 : Int), .int .i64 n, .int .i64 more, .bool a, .int .u64 m].toArray 35 (0, 0)) ∧ W.heap[Z1]? = some (.cells (u8s s).toArray 43 (0, 0)) ∧ W.heap[P1]? = some (.cells [Value.int .i64 hx, .int .i64 hy].toArray 47 (0, 0)) ∧ W.heap[P2]? = some (.cells [Value.int .i64 px, .int .i64 py].toArray 47 (0, 0))) 100 (by kernel_rfl) ?_
      refine wpAnyE_take (i := 0) (v := ?_) (listed' := #[true, false, false, false, false, false, false, false, false, false, false, false, false, false, false, false, false, false, false, false, false, false, false, false, false]) (by rfl) (by kernel_rfl) (by kernel_rfl) calm_put hS (by rfl) ?_ ?_
      rotate_left
      · intro W hW; clear hW; go_simp; try (with_reducible rfl)
      simp only [Act.put, List.getElem_toArray, List.getElem_cons_succ, List.getElem_cons_zero, List.setIfInBounds_toArray, List.set_cons_zero, List.set_cons_succ]
      refine wpAnyE_take (i := 1) (v := .agg #[.int .i64 hx, .int .i64 hy]) (listed' := #[true, true, false, false, false, false, false, false, false, false, false, false, false, false, false, false, false, false, false, false, false, false, false, false, false]) (by rfl) (by kernel_rfl) (by kernel_rfl) calm_put hS (by rfl) ?_ ?_
      · intro W hW; obtain ⟨hW, hZ, hA, hD⟩ := hW; have c1 := cell_of_row _ _ 1 _ _ _ hW; have c2 := cell_of_row _ _ 2 _ _ _ hW; have c3 := cell_of_row _ _ 3 _ _ _ hW; have c6 := cell_of_row _ _ 6 _ _ _ hW; clear hW; exact exec_load_plcO _ rfl P1 0 rfl [.int .i64 hx, .int .i64 hy] rfl (by simpa using Cells.of_block hA)
      simp only [Act.put, List.getElem_toArray, List.getElem_cons_succ, List.getElem_cons_zero, List.setIfInBounds_toArray, List.set_cons_zero, List.set_cons_succ]
      refine wpAnyE_take (i := 2) (v := ?_) (listed' := #[true, true, true, false, false, false, false, false, false, false, false, false, false, false, false, false, false, false, false, false, false, false, false, false, false]) (by rfl) (by kernel_rfl) (by kernel_rfl) calm_put hS (by rfl) ?_ ?_
      rotate_left
      · intro W hW; clear hW; go_simp; try (with_reducible rfl)
      simp only [Act.put, List.getElem_toArray, List.getElem_cons_succ, List.getElem_cons_zero, List.setIfInBounds_toArray, List.set_cons_zero, List.set_cons_succ]
      refine wpAnyE_take (i := 3) (v := ?_) (listed' := #[true, true, true, true, false, false, false, false, false, false, false, false, false, false, false, false, false, false, false, false, false, false, false, false, false]) (by rfl) (by kernel_rfl) (by kernel_rfl) calm_put hS (by rfl) ?_ ?_
      rotate_left
      · intro W hW; obtain ⟨hW, hZ, hA, hD⟩ := hW; have c1 := cell_of_row _ _ 1 _ _ _ hW; have c2 := cell_of_row _ _ 2 _ _ _ hW; have c3 := cell_of_row _ _ 3 _ _ _ hW; have c6 := cell_of_row _ _ 6 _ _ _ hW; clear hW; go_simp; try (with_reducible rfl)
      simp only [Act.put, List.getElem_toArray, List.getElem_cons_succ, List.getElem_cons_zero, List.setIfInBounds_toArray, List.set_cons_zero, List.set_cons_succ]
      refine wpAnyE_take (i := 6) (v := ?_) (listed' := #[true, true, true, true, false, false, true, false, false, false, false, false, false, false, false, false, false, false, false, false, false, false, false, false, false]) (by rfl) (by kernel_rfl) (by kernel_rfl) calm_put hS (by rfl) ?_ ?_
      rotate_left
      · intro W hW; clear hW; go_simp; try (with_reducible rfl)
      simp only [Act.put, List.getElem_toArray, List.getElem_cons_succ, List.getElem_cons_zero, List.setIfInBounds_toArray, List.set_cons_zero, List.set_cons_succ]
      refine wpAnyE_take (i := 7) (v := .agg #[.int .i64 hx, .int .i64 hy]) (listed' := #[true, true, true, true, false, false, true, true, false, false, false, false, false, false, false, false, false, false, false, false, false, false, false, false, false]) (by rfl) (by kernel_rfl) (by kernel_rfl) calm_put hS (by rfl) ?_ ?_
      · intro W hW; obtain ⟨hW, hZ, hA, hD⟩ := hW; have c1 := cell_of_row _ _ 1 _ _ _ hW; have c2 := cell_of_row _ _ 2 _ _ _ hW; have c3 := cell_of_row _ _ 3 _ _ _ hW; have c6 := cell_of_row _ _ 6 _ _ _ hW; clear hW; exact exec_load_plcO _ rfl P1 0 rfl [.int .i64 hx, .int .i64 hy] rfl (by simpa using Cells.of_block hA)
      simp only [Act.put, List.getElem_toArray, List.getElem_cons_succ, List.getElem_cons_zero, List.setIfInBounds_toArray, List.set_cons_zero, List.set_cons_succ]
      refine wpAnyE_take (i := 8) (v := ?_) (listed' := #[true, true, true, true, false, false, true, true, true, false, false, false, false, false, false, false, false, false, false, false, false, false, false, false, false]) (by rfl) (by kernel_rfl) (by kernel_rfl) calm_put hS (by rfl) ?_ ?_
      rotate_left
      · intro W hW; clear hW; go_simp; try (with_reducible rfl)
      simp only [Act.put, List.getElem_toArray, List.getElem_cons_succ, List.getElem_cons_zero, List.setIfInBounds_toArray, List.set_cons_zero, List.set_cons_succ]
      refine wpAnyE_take (i := 9) (v := ?_) (listed' := #[true, true, true, true, false, false, true, true, true, true, false, false, false, false, false, false, false, false, false, false, false, false, false, false, false]) (by rfl) (by kernel_rfl) (by kernel_rfl) calm_put hS (by rfl) ?_ ?_
      rotate_left
      · intro W hW; obtain ⟨hW, hZ, hA, hD⟩ := hW; have c1 := cell_of_row _ _ 1 _ _ _ hW; have c2 := cell_of_row _ _ 2 _ _ _ hW; have c3 := cell_of_row _ _ 3 _ _ _ hW; have c6 := cell_of_row _ _ 6 _ _ _ hW; clear hW; go_simp; try (with_reducible rfl)
      simp only [Act.put, List.getElem_toArray, List.getElem_cons_succ, List.getElem_cons_zero, List.setIfInBounds_toArray, List.set_cons_zero, List.set_cons_succ]
      refine wpAnyE_one (i := 4) (listed' := #[true, true, true, true, true, false, true, true, true, true, false, false, false, false, false, false, false, false, false, false, false, false, false, false, false]) (by rfl) (by kernel_rfl) (by kernel_rfl) (by rfl) (fun K hK => ?_)
      simp only [Act.put, List.getElem_toArray, List.getElem_cons_succ, List.getElem_cons_zero, List.setIfInBounds_toArray, List.set_cons_zero, List.set_cons_succ]
      go_wp2_with fail
      refine Calls.mono (s_sector n _) ?_
      rintro e w14 ⟨rfl, hk⟩
      have HP14 := Lib.hid (HPD.out.keptS hk).1
      have HS14 := Lib.hid (HPD.out.keptS hk).2
      replace hS := (⟨hk.block hS.1, hk.block hS.2.1, hk.block hS.2.2.1, hk.block hS.2.2.2⟩ : (fun (W : World) => W.heap[Bo]? = some (.cells [.int .i64 4, .int .i64 k, .int .i64 (s1 : Int), .int .i64 n, .int .i64 more, .bool a, .int .u64 m].toArray 35 (0, 0)) ∧ W.heap[Z1]? = some (.cells (u8s s).toArray 43 (0, 0)) ∧ W.heap[P1]? = some (.cells [Value.int .i64 hx, .int .i64 hy].toArray 47 (0, 0)) ∧ W.heap[P2]? = some (.cells [Value.int .i64 px, .int .i64 py].toArray 47 (0, 0))) _)
      refine hK _ _ (fun _ => hS) ?_; clear hK K
      clear hk HPD
      refine wpAnyE_one (i := 5) (listed' := #[true, true, true, true, true, true, true, true, true, true, false, false, false, false, false, false, false, false, false, false, false, false, false, false, false]) (by rfl) (by kernel_rfl) (by kernel_rfl) (by rfl) (fun K hK => ?_)
      simp only [Act.put, List.getElem_toArray, List.getElem_cons_succ, List.getElem_cons_zero, List.setIfInBounds_toArray, List.set_cons_zero, List.set_cons_succ]
      go_wp2_with fail
      refine Calls.mono (HW1.out _ _ HP14.out) ?_
      rintro e w15 ⟨rfl, hb, hs⟩
      have HP15 := Lib.hid hb
      have HS15 := Lib.hid hs
      replace hS := (⟨(hs Bo (.inl (.inl (.inl (.inr rfl))))).trans hS.1, (hs Z1 (.inl (.inl (.inr rfl)))).trans hS.2.1, (hs P1 (.inl (.inr rfl))).trans hS.2.2.1, (hs P2 (.inr rfl)).trans hS.2.2.2⟩ : (fun (W : World) => W.heap[Bo]? = some (.cells [.int .i64 4, .int .i64 k, .int .i64 (s1 : Int), .int .i64 n, .int .i64 more, .bool a, .int .u64 m].toArray 35 (0, 0)) ∧ W.heap[Z1]? = some (.cells (u8s s).toArray 43 (0, 0)) ∧ W.heap[P1]? = some (.cells [Value.int .i64 hx, .int .i64 hy].toArray 47 (0, 0)) ∧ W.heap[P2]? = some (.cells [Value.int .i64 px, .int .i64 py].toArray 47 (0, 0))) _)
      refine hK _ _ (fun _ => hS) ?_; clear hK K
      clear hb hs HP14
      refine wpAnyE_one (i := 10) (listed' := #[true, true, true, true, true, true, true, true, true, true, true, false, false, false, false, false, false, false, false, false, false, false, false, false, false]) (by rfl) (by kernel_rfl) (by kernel_rfl) (by rfl) (fun K hK => ?_)
      simp only [Act.put, List.getElem_toArray, List.getElem_cons_succ, List.getElem_cons_zero, List.setIfInBounds_toArray, List.set_cons_zero, List.set_cons_succ]
      go_wp2_with fail
      refine Calls.mono (s_sector n _) ?_
      rintro e w16 ⟨rfl, hk⟩
      have HP16 := Lib.hid (HP15.out.keptS hk).1
      have HS16 := Lib.hid (HP15.out.keptS hk).2
      replace hS := (⟨hk.block hS.1, hk.block hS.2.1, hk.block hS.2.2.1, hk.block hS.2.2.2⟩ : (fun (W : World) => W.heap[Bo]? = some (.cells [.int .i64 4, .int .i64 k, .int .i64 (s1 : Int), .int .i64 n, .int .i64 more, .bool a, .int .u64 m].toArray 35 (0, 0)) ∧ W.heap[Z1]? = some (.cells (u8s s).toArray 43 (0, 0)) ∧ W.heap[P1]? = some (.cells [Value.int .i64 hx, .int .i64 hy].toArray 47 (0, 0)) ∧ W.heap[P2]? = some (.cells [Value.int .i64 px, .int .i64 py].toArray 47 (0, 0))) _)
      refine hK _ _ (fun _ => hS) ?_; clear hK K
      clear hk HP15
      refine wpAnyE_one (i := 11) (listed' := #[true, true, true, true, true, true, true, true, true, true, true, true, false, false, false, false, false, false, false, false, false, false, false, false, false]) (by rfl) (by kernel_rfl) (by kernel_rfl) (by rfl) (fun K hK => ?_)
      simp only [Act.put, List.getElem_toArray, List.getElem_cons_succ, List.getElem_cons_zero, List.setIfInBounds_toArray, List.set_cons_zero, List.set_cons_succ]
      go_wp2_with fail
      refine Calls.mono (HW2.out _ _ HP16.out) ?_
      rintro e w17 ⟨rfl, hb, hs⟩
      have HP17 := Lib.hid hb
      have HS17 := Lib.hid hs
      replace hS := (⟨(hs Bo (.inl (.inl (.inl (.inr rfl))))).trans hS.1, (hs Z1 (.inl (.inl (.inr rfl)))).trans hS.2.1, (hs P1 (.inl (.inr rfl))).trans hS.2.2.1, (hs P2 (.inr rfl)).trans hS.2.2.2⟩ : (fun (W : World) => W.heap[Bo]? = some (.cells [.int .i64 4, .int .i64 k, .int .i64 (s1 : Int), .int .i64 n, .int .i64 more, .bool a, .int .u64 m].toArray 35 (0, 0)) ∧ W.heap[Z1]? = some (.cells (u8s s).toArray 43 (0, 0)) ∧ W.heap[P1]? = some (.cells [Value.int .i64 hx, .int .i64 hy].toArray 47 (0, 0)) ∧ W.heap[P2]? = some (.cells [Value.int .i64 px, .int .i64 py].toArray 47 (0, 0))) _)
      refine hK _ _ (fun _ => hS) ?_; clear hK K
      clear hb hs HP16
      refine wpAnyE_take (i := 12) (v := .bool true) (listed' := #[true, true, true, true, true, true, true, true, true, true, true, true, true, false, false, false, false, false, false, false, false, false, false, false, false]) (by rfl) (by kernel_rfl) (by kernel_rfl) calm_put hS (by rfl) ?_ ?_
      · intro W hW; clear hW; go_simp; try simp
      simp only [Act.put, List.getElem_toArray, List.getElem_cons_succ, List.getElem_cons_zero, List.setIfInBounds_toArray, List.set_cons_zero, List.set_cons_succ]
      refine wpAnyE_take (i := 13) (v := ?_) (listed' := #[true, true, true, true, true, true, true, true, true, true, true, true, true, true, false, false, false, false, false, false, false, false, false, false, false]) (by rfl) (by kernel_rfl) (by kernel_rfl) calm_put hS (by rfl) ?_ ?_
      rotate_left
      · intro W hW; clear hW; go_simp; try (with_reducible rfl)
      simp only [Act.put, List.getElem_toArray, List.getElem_cons_succ, List.getElem_cons_zero, List.setIfInBounds_toArray, List.set_cons_zero, List.set_cons_succ]
      refine wpAnyE_take (i := 14) (v := ?_) (listed' := #[true, true, true, true, true, true, true, true, true, true, true, true, true, true, true, false, false, false, false, false, false, false, false, false, false]) (by rfl) (by kernel_rfl) (by kernel_rfl) calm_put hS (by rfl) ?_ ?_
      rotate_left
      · intro W hW; clear hW; go_simp; try (with_reducible rfl)
      simp only [Act.put, List.getElem_toArray, List.getElem_cons_succ, List.getElem_cons_zero, List.setIfInBounds_toArray, List.set_cons_zero, List.set_cons_succ]
      refine wpAnyE_take (i := 15) (v := .agg #[.int .i64 px, .int .i64 py]) (listed' := #[true, true, true, true, true, true, true, true, true, true, true, true, true, true, true, true, false, false, false, false, false, false, false, false, false]) (by rfl) (by kernel_rfl) (by kernel_rfl) calm_put hS (by rfl) ?_ ?_
      · intro W hW; obtain ⟨hW, hZ, hA, hD⟩ := hW; have c1 := cell_of_row _ _ 1 _ _ _ hW; have c2 := cell_of_row _ _ 2 _ _ _ hW; have c3 := cell_of_row _ _ 3 _ _ _ hW; have c6 := cell_of_row _ _ 6 _ _ _ hW; clear hW; exact exec_load_plcO _ rfl P2 0 rfl [.int .i64 px, .int .i64 py] rfl (by simpa using Cells.of_block hD)
      simp only [Act.put, List.getElem_toArray, List.getElem_cons_succ, List.getElem_cons_zero, List.setIfInBounds_toArray, List.set_cons_zero, List.set_cons_succ]
      refine wpAnyE_take (i := 16) (v := (.agg (u8s s).toArray)) (listed' := #[true, true, true, true, true, true, true, true, true, true, true, true, true, true, true, true, true, false, false, false, false, false, false, false, false]) (by rfl) (by kernel_rfl) (by kernel_rfl) calm_put hS (by rfl) ?_ ?_
      · intro W hW; obtain ⟨hW, hZ, hA, hD⟩ := hW; have c1 := cell_of_row _ _ 1 _ _ _ hW; have c2 := cell_of_row _ _ 2 _ _ _ hW; have c3 := cell_of_row _ _ 3 _ _ _ hW; have c6 := cell_of_row _ _ 6 _ _ _ hW; clear hW; exact exec_load_sec _ rfl Z1 rfl s HL.out.1 (Cells.of_block hZ)
      simp only [Act.put, List.getElem_toArray, List.getElem_cons_succ, List.getElem_cons_zero, List.setIfInBounds_toArray, List.set_cons_zero, List.set_cons_succ]
      refine wpAnyE_take (i := 18) (v := ?_) (listed' := #[true, true, true, true, true, true, true, true, true, true, true, true, true, true, true, true, true, false, true, false, false, false, false, false, false]) (by rfl) (by kernel_rfl) (by kernel_rfl) calm_put hS (by rfl) ?_ ?_
      rotate_left
      · intro W hW; clear hW; go_simp; try (with_reducible rfl)
      simp only [Act.put, List.getElem_toArray, List.getElem_cons_succ, List.getElem_cons_zero, List.setIfInBounds_toArray, List.set_cons_zero, List.set_cons_succ]
      refine wpAnyE_take (i := 19) (v := .agg #[.int .i64 px, .int .i64 py]) (listed' := #[true, true, true, true, true, true, true, true, true, true, true, true, true, true, true, true, true, false, true, true, false, false, false, false, false]) (by rfl) (by kernel_rfl) (by kernel_rfl) calm_put hS (by rfl) ?_ ?_
      · intro W hW; obtain ⟨hW, hZ, hA, hD⟩ := hW; have c1 := cell_of_row _ _ 1 _ _ _ hW; have c2 := cell_of_row _ _ 2 _ _ _ hW; have c3 := cell_of_row _ _ 3 _ _ _ hW; have c6 := cell_of_row _ _ 6 _ _ _ hW; clear hW; exact exec_load_plcO _ rfl P2 0 rfl [.int .i64 px, .int .i64 py] rfl (by simpa using Cells.of_block hD)
      simp only [Act.put, List.getElem_toArray, List.getElem_cons_succ, List.getElem_cons_zero, List.setIfInBounds_toArray, List.set_cons_zero, List.set_cons_succ]
      refine wpAnyE_take (i := 20) (v := (.agg (u8s s).toArray)) (listed' := #[true, true, true, true, true, true, true, true, true, true, true, true, true, true, true, true, true, false, true, true, true, false, false, false, false]) (by rfl) (by kernel_rfl) (by kernel_rfl) calm_put hS (by rfl) ?_ ?_
      · intro W hW; obtain ⟨hW, hZ, hA, hD⟩ := hW; have c1 := cell_of_row _ _ 1 _ _ _ hW; have c2 := cell_of_row _ _ 2 _ _ _ hW; have c3 := cell_of_row _ _ 3 _ _ _ hW; have c6 := cell_of_row _ _ 6 _ _ _ hW; clear hW; exact exec_load_sec _ rfl Z1 rfl s HL.out.1 (Cells.of_block hZ)
      simp only [Act.put, List.getElem_toArray, List.getElem_cons_succ, List.getElem_cons_zero, List.setIfInBounds_toArray, List.set_cons_zero, List.set_cons_succ]
      refine wpAnyE_one (i := 17) (listed' := #[true, true, true, true, true, true, true, true, true, true, true, true, true, true, true, true, true, true, true, true, true, false, false, false, false]) (by rfl) (by kernel_rfl) (by kernel_rfl) (by rfl) (fun K hK => ?_)
      simp only [Act.put, List.getElem_toArray, List.getElem_cons_succ, List.getElem_cons_zero, List.setIfInBounds_toArray, List.set_cons_zero, List.set_cons_succ]
      go_wp2_with fail
      refine Calls.mono (HW3.out _ _ HP17.out) ?_
      rintro e w18 ⟨rfl, hb, hs⟩
      have HP18 := Lib.hid hb
      have HS18 := Lib.hid hs
      replace hS := (⟨(hs Bo (.inl (.inl (.inl (.inr rfl))))).trans hS.1, (hs Z1 (.inl (.inl (.inr rfl)))).trans hS.2.1, (hs P1 (.inl (.inr rfl))).trans hS.2.2.1, (hs P2 (.inr rfl)).trans hS.2.2.2⟩ : (fun (W : World) => W.heap[Bo]? = some (.cells [.int .i64 4, .int .i64 k, .int .i64 (s1 : Int), .int .i64 n, .int .i64 more, .bool a, .int .u64 m].toArray 35 (0, 0)) ∧ W.heap[Z1]? = some (.cells (u8s s).toArray 43 (0, 0)) ∧ W.heap[P1]? = some (.cells [Value.int .i64 hx, .int .i64 hy].toArray 47 (0, 0)) ∧ W.heap[P2]? = some (.cells [Value.int .i64 px, .int .i64 py].toArray 47 (0, 0))) _)
      refine hK _ _ (fun _ => hS) ?_; clear hK K
      clear hb hs HP17
      refine wpAnyE_one (i := 21) (listed' := #[true, true, true, true, true, true, true, true, true, true, true, true, true, true, true, true, true, true, true, true, true, true, false, false, false]) (by rfl) (by kernel_rfl) (by kernel_rfl) (by rfl) (fun K hK => ?_)
      simp only [Act.put, List.getElem_toArray, List.getElem_cons_succ, List.getElem_cons_zero, List.setIfInBounds_toArray, List.set_cons_zero, List.set_cons_succ]
      go_wp2_with fail
      refine Calls.mono (HW4.out _ _ HP18.out) ?_
      rintro e w19 ⟨rfl, hb, hs⟩
      have HP19 := Lib.hid hb
      have HS19 := Lib.hid hs
      replace hS := (⟨(hs Bo (.inl (.inl (.inl (.inr rfl))))).trans hS.1, (hs Z1 (.inl (.inl (.inr rfl)))).trans hS.2.1, (hs P1 (.inl (.inr rfl))).trans hS.2.2.1, (hs P2 (.inr rfl)).trans hS.2.2.2⟩ : (fun (W : World) => W.heap[Bo]? = some (.cells [.int .i64 4, .int .i64 k, .int .i64 (s1 : Int), .int .i64 n, .int .i64 more, .bool a, .int .u64 m].toArray 35 (0, 0)) ∧ W.heap[Z1]? = some (.cells (u8s s).toArray 43 (0, 0)) ∧ W.heap[P1]? = some (.cells [Value.int .i64 hx, .int .i64 hy].toArray 47 (0, 0)) ∧ W.heap[P2]? = some (.cells [Value.int .i64 px, .int .i64 py].toArray 47 (0, 0))) _)
      refine hK _ _ (fun _ => hS) ?_; clear hK K
      clear hb hs HP18
      refine wpAnyE_take (i := 22) (v := ?_) (listed' := #[true, true, true, true, true, true, true, true, true, true, true, true, true, true, true, true, true, true, true, true, true, true, true, false, false]) (by rfl) (by kernel_rfl) (by kernel_rfl) calm_put hS (by rfl) ?_ ?_
      rotate_left
      · intro W hW; clear hW; go_simp; try (with_reducible rfl)
      simp only [Act.put, List.getElem_toArray, List.getElem_cons_succ, List.getElem_cons_zero, List.setIfInBounds_toArray, List.set_cons_zero, List.set_cons_succ]
      refine wpAnyE_take (i := 23) (v := ?_) (listed' := #[true, true, true, true, true, true, true, true, true, true, true, true, true, true, true, true, true, true, true, true, true, true, true, true, false]) (by rfl) (by kernel_rfl) (by kernel_rfl) calm_put hS (by rfl) ?_ ?_
      rotate_left
      · intro W hW; clear hW; go_simp; try (with_reducible rfl)
      simp only [Act.put, List.getElem_toArray, List.getElem_cons_succ, List.getElem_cons_zero, List.setIfInBounds_toArray, List.set_cons_zero, List.set_cons_succ]
      refine wpAnyE_one (i := 24) (listed' := #[true, true, true, true, true, true, true, true, true, true, true, true, true, true, true, true, true, true, true, true, true, true, true, true, true]) (by rfl) (by kernel_rfl) (by kernel_rfl) (by rfl) (fun K hK => ?_)
      simp only [Act.put, List.getElem_toArray, List.getElem_cons_succ, List.getElem_cons_zero, List.setIfInBounds_toArray, List.set_cons_zero, List.set_cons_succ]
      go_wp2
      refine hK _ _ (fun _ => hS) ?_; clear hK K
      refine wpAnyE_done (by kernel_rfl) ?_ _
      refine calm_normal ?_
      clear hS
      go_wp2
      go_ret
      exact ⟨by simp, T2, HP19.out.less fun k hk => .inl (.inl (.inl (.inl hk))), HN2.out, fun k hk => (HS19.out k (.inl (.inl (.inl (.inl hk))))).trans ((HS18.out k (.inl (.inl (.inl (.inl hk))))).trans ((HS17.out k (.inl (.inl (.inl (.inl hk))))).trans ((HS16.out k (.inl (.inl (.inl (.inl hk))))).trans ((HS15.out k (.inl (.inl (.inl (.inl hk))))).trans ((HS14.out k (.inl (.inl (.inl (.inl hk))))).trans ((HS13.out k (.inl (.inl (.inl hk)))).trans ((HS12.out k (.inl (.inl (.inl hk)))).trans ((HS11.out k (.inl (.inl hk))).trans ((HS10.out k (.inl (.inl hk))).trans (HT9.out k hk))))))))))⟩
    · have t0 : (ec == 0) = false := by simpa using hec
      go_wp2
      go_ret
      exact ⟨rfl, T, HP9b.out.less fun k hk => .inl (.inl hk), HU.out.2.2.le (by omega), HT9.out⟩
  have k4 : (kd == 4) = false := by simpa using e1
  clear e1
  by_cases e1 : kd = 5
  · subst e1
    have HN2 : Hid (Sane ((T.write k t (secN n)).1) 5 20 (c + 12)) := Lib.hid (by have h9 := HB9.out; exact (HU.out.2.2.write k t (secN_is n)).le (by omega))
    have H1 := Lib.hid (fun (R : Nat → Prop) (W : World) (h : BR w0 R W p T q T.ref) => br_Write h HU.out.1 k t (secN_is n).1)
    have H2 := Lib.hid (fun (R : Nat → Prop) (W : World) (h : BR w0 R W p (T.write k t (secN n)).1 q T.ref) => br_Write2 h HU.out.2.1 k t (secN_is n))
    obtain ⟨T', ec, hT'⟩ : ∃ T' ec, T.write k t (secN n) = (T', ec) := ⟨_, _, rfl⟩
    rw [hT'] at H1 H2 HN2
    simp only at H1 H2 HN2
    clear hT'
    have c1 := cell_of_row _ _ 1 _ _ _ HB.out
    have c2 := cell_of_row _ _ 2 _ _ _ HB.out
    go_wp2_with (refine stop_at (o := ⟨some 27, _, _, _, _, _⟩) ?_)
    refine Stop.mk ?_
    refine wpList_new_row rfl rfl _ _ rfl rfl ty_plc _ zero_plc rfl [.int .i64 k, .int .i64 t] rfl rfl (one_plc _ _) rfl ?_
    intro w2 hz hsz hk
    have HP2 := Lib.hid (HP.out.box hk hsz)
    have HS2 := Lib.hid (HP.out.keptS hk).2
    have HB2 := Lib.hid (hk.block HB.out)
    obtain ⟨P1, hE⟩ : ∃ b, b = w1.heap.size := ⟨_, rfl⟩
    rw [← hE] at hz HP2 ⊢
    have HZ2 := hz
    clear hz hsz hk hE HP HB HV c1 c2
    go_upto_region 28 with fail
    have HPD := Lib.hid (HP2.out.keptS (Kept.refl w2).drew).1
    have hS : (fun (W : World) => W.heap[Bo]? = some (.cells [.int .i64 5, .int .i64 k, .int .i64 t, .int .i64 n, .int .i64 more, .bool a, .int .u64 m].toArray 35 (0, 0)) ∧ W.heap[P1]? = some (.cells [Value.int .i64 k, .int .i64 t].toArray 47 (0, 0))) w2.drew := ⟨(Kept.refl w2).drew.block HB2.out, (Kept.refl w2).drew.block HZ2.out⟩
    clear HP2 HB2 HZ2
    refine wp_region_calm ?_
    refine wp_region_E (fun (W : World) => W.heap[Bo]? = some (.cells [.int .i64 5, .int .i64 k, .int .i64 t, .int .i64 n, .int .i64 more, .bool a, .int .u64 m].toArray 35 (0, 0)) ∧ W.heap[P1]? = some (.cells [Value.int .i64 k, .int .i64 t].toArray 47 (0, 0))) 100 (by kernel_rfl) ?_
    refine wpAnyE_take (i := 0) (v := ?_) (listed' := #[true, false, false, false, false, false, false, false, false, false, false, false, false, false]) (by rfl) (by kernel_rfl) (by kernel_rfl) calm_put hS (by rfl) ?_ ?_
    rotate_left
    · intro W hW; clear hW; go_simp; try (with_reducible rfl)
    simp only [Act.put, List.getElem_toArray, List.getElem_cons_succ, List.getElem_cons_zero, List.setIfInBounds_toArray, List.set_cons_zero, List.set_cons_succ]
    refine wpAnyE_take (i := 1) (v := .agg #[.int .i64 k, .int .i64 t]) (listed' := #[true, true, false, false, false, false, false, false, false, false, false, false, false, false]) (by rfl) (by kernel_rfl) (by kernel_rfl) calm_put hS (by rfl) ?_ ?_
    · intro W hW; obtain ⟨hW, hP⟩ := hW; have c1 := cell_of_row _ _ 1 _ _ _ hW; have c2 := cell_of_row _ _ 2 _ _ _ hW; have c3 := cell_of_row _ _ 3 _ _ _ hW; have c6 := cell_of_row _ _ 6 _ _ _ hW; clear hW; exact exec_load_plcO _ rfl P1 0 rfl [.int .i64 k, .int .i64 t] rfl (by simpa using Cells.of_block hP)
    simp only [Act.put, List.getElem_toArray, List.getElem_cons_succ, List.getElem_cons_zero, List.setIfInBounds_toArray, List.set_cons_zero, List.set_cons_succ]
    refine wpAnyE_take (i := 2) (v := ?_) (listed' := #[true, true, true, false, false, false, false, false, false, false, false, false, false, false]) (by rfl) (by kernel_rfl) (by kernel_rfl) calm_put hS (by rfl) ?_ ?_
    rotate_left
    · intro W hW; clear hW; go_simp; try (with_reducible rfl)
    simp only [Act.put, List.getElem_toArray, List.getElem_cons_succ, List.getElem_cons_zero, List.setIfInBounds_toArray, List.set_cons_zero, List.set_cons_succ]
    refine wpAnyE_take (i := 3) (v := ?_) (listed' := #[true, true, true, true, false, false, false, false, false, false, false, false, false, false]) (by rfl) (by kernel_rfl) (by kernel_rfl) calm_put hS (by rfl) ?_ ?_
    rotate_left
    · intro W hW; obtain ⟨hW, hP⟩ := hW; have c1 := cell_of_row _ _ 1 _ _ _ hW; have c2 := cell_of_row _ _ 2 _ _ _ hW; have c3 := cell_of_row _ _ 3 _ _ _ hW; have c6 := cell_of_row _ _ 6 _ _ _ hW; clear hW; go_simp; try (with_reducible rfl)
    simp only [Act.put, List.getElem_toArray, List.getElem_cons_succ, List.getElem_cons_zero, List.setIfInBounds_toArray, List.set_cons_zero, List.set_cons_succ]
    refine wpAnyE_take (i := 6) (v := ?_) (listed' := #[true, true, true, true, false, false, true, false, false, false, false, false, false, false]) (by rfl) (by kernel_rfl) (by kernel_rfl) calm_put hS (by rfl) ?_ ?_
    rotate_left
    · intro W hW; clear hW; go_simp; try (with_reducible rfl)
    simp only [Act.put, List.getElem_toArray, List.getElem_cons_succ, List.getElem_cons_zero, List.setIfInBounds_toArray, List.set_cons_zero, List.set_cons_succ]
    refine wpAnyE_take (i := 7) (v := .agg #[.int .i64 k, .int .i64 t]) (listed' := #[true, true, true, true, false, false, true, true, false, false, false, false, false, false]) (by rfl) (by kernel_rfl) (by kernel_rfl) calm_put hS (by rfl) ?_ ?_
    · intro W hW; obtain ⟨hW, hP⟩ := hW; have c1 := cell_of_row _ _ 1 _ _ _ hW; have c2 := cell_of_row _ _ 2 _ _ _ hW; have c3 := cell_of_row _ _ 3 _ _ _ hW; have c6 := cell_of_row _ _ 6 _ _ _ hW; clear hW; exact exec_load_plcO _ rfl P1 0 rfl [.int .i64 k, .int .i64 t] rfl (by simpa using Cells.of_block hP)
    simp only [Act.put, List.getElem_toArray, List.getElem_cons_succ, List.getElem_cons_zero, List.setIfInBounds_toArray, List.set_cons_zero, List.set_cons_succ]
    refine wpAnyE_take (i := 8) (v := ?_) (listed' := #[true, true, true, true, false, false, true, true, true, false, false, false, false, false]) (by rfl) (by kernel_rfl) (by kernel_rfl) calm_put hS (by rfl) ?_ ?_
    rotate_left
    · intro W hW; clear hW; go_simp; try (with_reducible rfl)
    simp only [Act.put, List.getElem_toArray, List.getElem_cons_succ, List.getElem_cons_zero, List.setIfInBounds_toArray, List.set_cons_zero, List.set_cons_succ]
    refine wpAnyE_take (i := 9) (v := ?_) (listed' := #[true, true, true, true, false, false, true, true, true, true, false, false, false, false]) (by rfl) (by kernel_rfl) (by kernel_rfl) calm_put hS (by rfl) ?_ ?_
    rotate_left
    · intro W hW; obtain ⟨hW, hP⟩ := hW; have c1 := cell_of_row _ _ 1 _ _ _ hW; have c2 := cell_of_row _ _ 2 _ _ _ hW; have c3 := cell_of_row _ _ 3 _ _ _ hW; have c6 := cell_of_row _ _ 6 _ _ _ hW; clear hW; go_simp; try (with_reducible rfl)
    simp only [Act.put, List.getElem_toArray, List.getElem_cons_succ, List.getElem_cons_zero, List.setIfInBounds_toArray, List.set_cons_zero, List.set_cons_succ]
    refine wpAnyE_one (i := 4) (listed' := #[true, true, true, true, true, false, true, true, true, true, false, false, false, false]) (by rfl) (by kernel_rfl) (by kernel_rfl) (by rfl) (fun K hK => ?_)
    simp only [Act.put, List.getElem_toArray, List.getElem_cons_succ, List.getElem_cons_zero, List.setIfInBounds_toArray, List.set_cons_zero, List.set_cons_succ]
    go_wp2_with fail
    refine Calls.mono (s_sector n _) ?_
    rintro e w3 ⟨rfl, hk⟩
    have HP3 := Lib.hid (HPD.out.keptS hk).1
    have HS3 := Lib.hid (HPD.out.keptS hk).2
    replace hS := (⟨hk.block hS.1, hk.block hS.2⟩ : (fun (W : World) => W.heap[Bo]? = some (.cells [.int .i64 5, .int .i64 k, .int .i64 t, .int .i64 n, .int .i64 more, .bool a, .int .u64 m].toArray 35 (0, 0)) ∧ W.heap[P1]? = some (.cells [Value.int .i64 k, .int .i64 t].toArray 47 (0, 0))) _)
    refine hK _ _ (fun _ => hS) ?_; clear hK K
    clear hk HPD
    refine wpAnyE_one (i := 5) (listed' := #[true, true, true, true, true, true, true, true, true, true, false, false, false, false]) (by rfl) (by kernel_rfl) (by kernel_rfl) (by rfl) (fun K hK => ?_)
    simp only [Act.put, List.getElem_toArray, List.getElem_cons_succ, List.getElem_cons_zero, List.setIfInBounds_toArray, List.set_cons_zero, List.set_cons_succ]
    go_wp2_with fail
    refine Calls.mono (H1.out _ _ HP3.out) ?_
    rintro e w4 ⟨rfl, hb, hs⟩
    have HP4 := Lib.hid hb
    have HS4 := Lib.hid hs
    replace hS := (⟨(hs Bo (.inl (.inr rfl))).trans hS.1, (hs P1 (.inr rfl)).trans hS.2⟩ : (fun (W : World) => W.heap[Bo]? = some (.cells [.int .i64 5, .int .i64 k, .int .i64 t, .int .i64 n, .int .i64 more, .bool a, .int .u64 m].toArray 35 (0, 0)) ∧ W.heap[P1]? = some (.cells [Value.int .i64 k, .int .i64 t].toArray 47 (0, 0))) _)
    refine hK _ _ (fun _ => hS) ?_; clear hK K
    clear hb hs HP3
    refine wpAnyE_one (i := 10) (listed' := #[true, true, true, true, true, true, true, true, true, true, true, false, false, false]) (by rfl) (by kernel_rfl) (by kernel_rfl) (by rfl) (fun K hK => ?_)
    simp only [Act.put, List.getElem_toArray, List.getElem_cons_succ, List.getElem_cons_zero, List.setIfInBounds_toArray, List.set_cons_zero, List.set_cons_succ]
    go_wp2_with fail
    refine Calls.mono (s_sector n _) ?_
    rintro e w5 ⟨rfl, hk⟩
    have HP5 := Lib.hid (HP4.out.keptS hk).1
    have HS5 := Lib.hid (HP4.out.keptS hk).2
    replace hS := (⟨hk.block hS.1, hk.block hS.2⟩ : (fun (W : World) => W.heap[Bo]? = some (.cells [.int .i64 5, .int .i64 k, .int .i64 t, .int .i64 n, .int .i64 more, .bool a, .int .u64 m].toArray 35 (0, 0)) ∧ W.heap[P1]? = some (.cells [Value.int .i64 k, .int .i64 t].toArray 47 (0, 0))) _)
    refine hK _ _ (fun _ => hS) ?_; clear hK K
    clear hk HP4
    refine wpAnyE_one (i := 11) (listed' := #[true, true, true, true, true, true, true, true, true, true, true, true, false, false]) (by rfl) (by kernel_rfl) (by kernel_rfl) (by rfl) (fun K hK => ?_)
    simp only [Act.put, List.getElem_toArray, List.getElem_cons_succ, List.getElem_cons_zero, List.setIfInBounds_toArray, List.set_cons_zero, List.set_cons_succ]
    go_wp2_with fail
    refine Calls.mono (H2.out _ _ HP5.out) ?_
    rintro e w6 ⟨rfl, hb, hs⟩
    have HP6 := Lib.hid hb
    have HS6 := Lib.hid hs
    replace hS := (⟨(hs Bo (.inl (.inr rfl))).trans hS.1, (hs P1 (.inr rfl)).trans hS.2⟩ : (fun (W : World) => W.heap[Bo]? = some (.cells [.int .i64 5, .int .i64 k, .int .i64 t, .int .i64 n, .int .i64 more, .bool a, .int .u64 m].toArray 35 (0, 0)) ∧ W.heap[P1]? = some (.cells [Value.int .i64 k, .int .i64 t].toArray 47 (0, 0))) _)
    refine hK _ _ (fun _ => hS) ?_; clear hK K
    clear hb hs HP5
    refine wpAnyE_take (i := 12) (v := ?_) (listed' := #[true, true, true, true, true, true, true, true, true, true, true, true, true, false]) (by rfl) (by kernel_rfl) (by kernel_rfl) calm_put hS (by rfl) ?_ ?_
    rotate_left
    · intro W hW; clear hW; go_simp; try (with_reducible rfl)
    simp only [Act.put, List.getElem_toArray, List.getElem_cons_succ, List.getElem_cons_zero, List.setIfInBounds_toArray, List.set_cons_zero, List.set_cons_succ]
    refine wpAnyE_one (i := 13) (listed' := #[true, true, true, true, true, true, true, true, true, true, true, true, true, true]) (by rfl) (by kernel_rfl) (by kernel_rfl) (by rfl) (fun K hK => ?_)
    simp only [Act.put, List.getElem_toArray, List.getElem_cons_succ, List.getElem_cons_zero, List.setIfInBounds_toArray, List.set_cons_zero, List.set_cons_succ]
    go_wp2
    refine hK _ _ (fun _ => hS) ?_; clear hK K
    refine wpAnyE_done (by kernel_rfl) ?_ _
    refine calm_normal ?_
    clear hS
    go_wp2
    go_ret
    exact ⟨by simp, T', HP6.out.less fun k hk => .inl (.inl hk), HN2.out, fun k hk => (HS6.out k (.inl (.inl hk))).trans ((HS5.out k (.inl (.inl hk))).trans ((HS4.out k (.inl (.inl hk))).trans ((HS3.out k (.inl (.inl hk))).trans ((HS2.out k (.inl hk)).trans (HS0.out k hk)))))⟩
  have k5 : (kd == 5) = false := by simpa using e1
  clear e1
  by_cases e1 : kd = 6
  · subst e1
    have HN2 : Hid (Sane ((T.failC k).1) 5 20 (c + 12)) := Lib.hid (by have h9 := HB9.out; exact (HU.out.2.2.failC k).le (by omega))
    have H1 := Lib.hid (fun (R : Nat → Prop) (W : World) (h : BR w0 R W p T q T.ref) => br_Fail h HU.out.1 k)
    have H2 := Lib.hid (fun (R : Nat → Prop) (W : World) (h : BR w0 R W p (T.failC k).1 q T.ref) => br_Fail2 h HU.out.2.1 k)
    obtain ⟨T', ec, hT'⟩ : ∃ T' ec, T.failC k = (T', ec) := ⟨_, _, rfl⟩
    rw [hT'] at H1 H2 HN2
    simp only at H1 H2 HN2
    clear hT'
    go_upto_region 30 with fail
    have HPD := Lib.hid (HP.out.keptS (Kept.refl w1).drew).1
    have HVD := Lib.hid (HV.out.kept (Kept.refl w1).drew)
    have hS : (fun (W : World) => W.heap[Bo]? = some (.cells [.int .i64 6, .int .i64 k, .int .i64 t, .int .i64 n, .int .i64 more, .bool a, .int .u64 m].toArray 35 (0, 0))) w1.drew := (Kept.refl w1).drew.block HB.out
    clear HP HV HB
    refine wp_region_calm ?_
    refine wp_region_E (fun (W : World) => W.heap[Bo]? = some (.cells [.int .i64 6, .int .i64 k, .int .i64 t, .int .i64 n, .int .i64 more, .bool a, .int .u64 m].toArray 35 (0, 0))) 100 (by kernel_rfl) ?_
    refine wpAnyE_take (i := 0) (v := ?_) (listed' := #[true, false, false, false, false, false, false, false, false, false]) (by rfl) (by kernel_rfl) (by kernel_rfl) calm_put hS (by rfl) ?_ ?_
    rotate_left
    · intro W hW; clear hW; go_simp; try (with_reducible rfl)
    simp only [Act.put, List.getElem_toArray, List.getElem_cons_succ, List.getElem_cons_zero, List.setIfInBounds_toArray, List.set_cons_zero, List.set_cons_succ]
    refine wpAnyE_take (i := 1) (v := ?_) (listed' := #[true, true, false, false, false, false, false, false, false, false]) (by rfl) (by kernel_rfl) (by kernel_rfl) calm_put hS (by rfl) ?_ ?_
    rotate_left
    · intro W hW; clear hW; go_simp; try (with_reducible rfl)
    simp only [Act.put, List.getElem_toArray, List.getElem_cons_succ, List.getElem_cons_zero, List.setIfInBounds_toArray, List.set_cons_zero, List.set_cons_succ]
    refine wpAnyE_take (i := 2) (v := ?_) (listed' := #[true, true, true, false, false, false, false, false, false, false]) (by rfl) (by kernel_rfl) (by kernel_rfl) calm_put hS (by rfl) ?_ ?_
    rotate_left
    · intro W hW; have c1 := cell_of_row _ _ 1 _ _ _ hW; have c2 := cell_of_row _ _ 2 _ _ _ hW; have c3 := cell_of_row _ _ 3 _ _ _ hW; have c6 := cell_of_row _ _ 6 _ _ _ hW; clear hW; go_simp; try (with_reducible rfl)
    simp only [Act.put, List.getElem_toArray, List.getElem_cons_succ, List.getElem_cons_zero, List.setIfInBounds_toArray, List.set_cons_zero, List.set_cons_succ]
    refine wpAnyE_take (i := 4) (v := ?_) (listed' := #[true, true, true, false, true, false, false, false, false, false]) (by rfl) (by kernel_rfl) (by kernel_rfl) calm_put hS (by rfl) ?_ ?_
    rotate_left
    · intro W hW; clear hW; go_simp; try (with_reducible rfl)
    simp only [Act.put, List.getElem_toArray, List.getElem_cons_succ, List.getElem_cons_zero, List.setIfInBounds_toArray, List.set_cons_zero, List.set_cons_succ]
    refine wpAnyE_take (i := 5) (v := ?_) (listed' := #[true, true, true, false, true, true, false, false, false, false]) (by rfl) (by kernel_rfl) (by kernel_rfl) calm_put hS (by rfl) ?_ ?_
    rotate_left
    · intro W hW; clear hW; go_simp; try (with_reducible rfl)
    simp only [Act.put, List.getElem_toArray, List.getElem_cons_succ, List.getElem_cons_zero, List.setIfInBounds_toArray, List.set_cons_zero, List.set_cons_succ]
    refine wpAnyE_take (i := 6) (v := ?_) (listed' := #[true, true, true, false, true, true, true, false, false, false]) (by rfl) (by kernel_rfl) (by kernel_rfl) calm_put hS (by rfl) ?_ ?_
    rotate_left
    · intro W hW; have c1 := cell_of_row _ _ 1 _ _ _ hW; have c2 := cell_of_row _ _ 2 _ _ _ hW; have c3 := cell_of_row _ _ 3 _ _ _ hW; have c6 := cell_of_row _ _ 6 _ _ _ hW; clear hW; go_simp; try (with_reducible rfl)
    simp only [Act.put, List.getElem_toArray, List.getElem_cons_succ, List.getElem_cons_zero, List.setIfInBounds_toArray, List.set_cons_zero, List.set_cons_succ]
    refine wpAnyE_one (i := 3) (listed' := #[true, true, true, true, true, true, true, false, false, false]) (by rfl) (by kernel_rfl) (by kernel_rfl) (by rfl) (fun K hK => ?_)
    simp only [Act.put, List.getElem_toArray, List.getElem_cons_succ, List.getElem_cons_zero, List.setIfInBounds_toArray, List.set_cons_zero, List.set_cons_succ]
    go_wp2_with fail
    refine Calls.mono (H1.out _ _ HPD.out) ?_
    rintro e w2 ⟨rfl, hb, hs⟩
    have HP2 := Lib.hid hb
    have HS2 := Lib.hid hs
    replace hS := (hs Bo (.inr rfl)).trans hS
    refine hK _ _ (fun _ => hS) ?_; clear hK K
    clear hb hs HPD
    refine wpAnyE_one (i := 7) (listed' := #[true, true, true, true, true, true, true, true, false, false]) (by rfl) (by kernel_rfl) (by kernel_rfl) (by rfl) (fun K hK => ?_)
    simp only [Act.put, List.getElem_toArray, List.getElem_cons_succ, List.getElem_cons_zero, List.setIfInBounds_toArray, List.set_cons_zero, List.set_cons_succ]
    go_wp2_with fail
    refine Calls.mono (H2.out _ _ HP2.out) ?_
    rintro e w3 ⟨rfl, hb, hs⟩
    have HP3 := Lib.hid hb
    have HS3 := Lib.hid hs
    replace hS := (hs Bo (.inr rfl)).trans hS
    refine hK _ _ (fun _ => hS) ?_; clear hK K
    clear hb hs HP2
    refine wpAnyE_take (i := 8) (v := ?_) (listed' := #[true, true, true, true, true, true, true, true, true, false]) (by rfl) (by kernel_rfl) (by kernel_rfl) calm_put hS (by rfl) ?_ ?_
    rotate_left
    · intro W hW; clear hW; go_simp; try (with_reducible rfl)
    simp only [Act.put, List.getElem_toArray, List.getElem_cons_succ, List.getElem_cons_zero, List.setIfInBounds_toArray, List.set_cons_zero, List.set_cons_succ]
    refine wpAnyE_one (i := 9) (listed' := #[true, true, true, true, true, true, true, true, true, true]) (by rfl) (by kernel_rfl) (by kernel_rfl) (by rfl) (fun K hK => ?_)
    simp only [Act.put, List.getElem_toArray, List.getElem_cons_succ, List.getElem_cons_zero, List.setIfInBounds_toArray, List.set_cons_zero, List.set_cons_succ]
    go_wp2
    refine hK _ _ (fun _ => hS) ?_; clear hK K
    refine wpAnyE_done (by kernel_rfl) ?_ _
    refine calm_normal ?_
    clear hS
    go_wp2
    go_ret
    exact ⟨by simp, T', HP3.out.less fun k hk => .inl hk, HN2.out, fun k hk => (HS3.out k (.inl hk)).trans ((HS2.out k (.inl hk)).trans (HS0.out k hk))⟩
  have k6 : (kd == 6) = false := by simpa using e1
  clear e1
  by_cases e1 : kd = 7
  · subst e1
    have HN2 : Hid (Sane (T.failAt k n) 5 20 (c + 12)) := Lib.hid (by have h9 := HB9.out; exact (HU.out.2.2.failAt k h9.1.2).le (by omega))
    have H1 := Lib.hid (fun (R : Nat → Prop) (W : World) (h : BR w0 R W p T q T.ref) => br_FailAt h HU.out.1 k n)
    have H2 := Lib.hid (fun (R : Nat → Prop) (W : World) (h : BR w0 R W p (T.failAt k n) q T.ref) => br_FailAt2 h HU.out.2.1 k n)
    obtain ⟨T', hT'⟩ : ∃ T', T.failAt k n = T' := ⟨_, rfl⟩
    rw [hT'] at H1 H2 HN2
    clear hT'
    have c1 := cell_of_row _ _ 1 _ _ _ HB.out
    have c3 := cell_of_row _ _ 3 _ _ _ HB.out
    go_wp2_with fail
    refine Calls.mono (H1.out _ _ HP.out) ?_
    rintro e w2 ⟨rfl, hb, hs⟩
    have HP2 := Lib.hid hb
    have HS2 := Lib.hid hs
    have HB2 := Lib.hid ((hs Bo (.inr rfl)).trans HB.out)
    clear hb hs HP HB c1 c3
    have c1 := cell_of_row _ _ 1 _ _ _ HB2.out
    have c3 := cell_of_row _ _ 3 _ _ _ HB2.out
    go_wp2_with fail
    refine Calls.mono (H2.out _ _ HP2.out) ?_
    rintro e w3 ⟨rfl, hb, hs⟩
    have HP3 := Lib.hid hb
    have HS3 := Lib.hid hs
    clear hb hs HP2 HB2 c1 c3
    go_wp2
    go_ret
    exact ⟨by simp, T', HP3.out.less fun k hk => .inl hk, HN2.out, fun k hk => (HS3.out k (.inl hk)).trans ((HS2.out k (.inl hk)).trans (HS0.out k hk))⟩
  have k7 : (kd == 7) = false := by simpa using e1
  clear e1
  by_cases e1 : kd = 8
  · subst e1
    have HN2 : Hid (Sane (T.arm n m) 5 20 (c + 12)) := Lib.hid (by have h9 := HB9.out; exact (HU.out.2.2.arm h9.1.2 h9.2.1).le (by omega))
    have H1 := Lib.hid (fun (R : Nat → Prop) (W : World) (h : BR w0 R W p T q T.ref) => br_Arm h n m)
    have H2 := Lib.hid (fun (R : Nat → Prop) (W : World) (h : BR w0 R W p (T.arm n m) q T.ref) => br_Arm2 h n m)
    obtain ⟨T', hT'⟩ : ∃ T', T.arm n m = T' := ⟨_, rfl⟩
    rw [hT'] at H1 H2 HN2
    clear hT'
    have c3 := cell_of_row _ _ 3 _ _ _ HB.out
    have c6 := cell_of_row _ _ 6 _ _ _ HB.out
    go_wp2_with fail
    refine Calls.mono (H1.out _ _ HP.out) ?_
    rintro e w2 ⟨rfl, hb, hs⟩
    have HP2 := Lib.hid hb
    have HS2 := Lib.hid hs
    have HB2 := Lib.hid ((hs Bo (.inr rfl)).trans HB.out)
    clear hb hs HP HB c3 c6
    have c3 := cell_of_row _ _ 3 _ _ _ HB2.out
    have c6 := cell_of_row _ _ 6 _ _ _ HB2.out
    go_wp2_with fail
    refine Calls.mono (H2.out _ _ HP2.out) ?_
    rintro e w3 ⟨rfl, hb, hs⟩
    have HP3 := Lib.hid hb
    have HS3 := Lib.hid hs
    clear hb hs HP2 HB2 c3 c6
    go_wp2
    go_ret
    exact ⟨by simp, T', HP3.out.less fun k hk => .inl hk, HN2.out, fun k hk => (HS3.out k (.inl hk)).trans ((HS2.out k (.inl hk)).trans (HS0.out k hk))⟩
  have k8 : (kd == 8) = false := by simpa using e1
  clear e1
  by_cases e1 : kd = 9
  · subst e1
    have HN2 : Hid (Sane (T.crash m) 5 20 (c + 12)) := Lib.hid (by have h9 := HB9.out; exact (HU.out.2.2.crash m).le (by omega))
    have H1 := Lib.hid (fun (R : Nat → Prop) (W : World) (h : BR w0 R W p T q T.ref) => br_Crash h HU.out.1 m HB9.out.2.1.1 HB9.out.2.1.2)
    have H2 := Lib.hid (fun (R : Nat → Prop) (W : World) (h : BR w0 R W p (T.crash m) q T.ref) => br_Crash2 h HU.out.2.1 m HB9.out.2.1.1)
    obtain ⟨T', hT'⟩ : ∃ T', T.crash m = T' := ⟨_, rfl⟩
    rw [hT'] at H1 H2 HN2
    clear hT'
    have c6 := cell_of_row _ _ 6 _ _ _ HB.out
    go_wp2_with fail
    refine Calls.mono (H1.out _ _ HP.out) ?_
    rintro e w2 ⟨rfl, hb, hs⟩
    have HP2 := Lib.hid hb
    have HS2 := Lib.hid hs
    have HB2 := Lib.hid ((hs Bo (.inr rfl)).trans HB.out)
    clear hb hs HP HB c6
    have c6 := cell_of_row _ _ 6 _ _ _ HB2.out
    go_wp2_with fail
    refine Calls.mono (H2.out _ _ HP2.out) ?_
    rintro e w3 ⟨rfl, hb, hs⟩
    have HP3 := Lib.hid hb
    have HS3 := Lib.hid hs
    clear hb hs HP2 HB2 c6
    go_wp2
    go_ret
    exact ⟨by simp, T', HP3.out.less fun k hk => .inl hk, HN2.out, fun k hk => (HS3.out k (.inl hk)).trans ((HS2.out k (.inl hk)).trans (HS0.out k hk))⟩
  have k9 : (kd == 9) = false := by simpa using e1
  clear e1
  by_cases e1 : kd = 10
  · subst e1
    have HN2 : Hid (Sane (T.start) 5 20 (c + 12)) := Lib.hid (by have h9 := HB9.out; exact HU.out.2.2.start.le (by omega))
    have H1 := Lib.hid (fun (R : Nat → Prop) (W : World) (h : BR w0 R W p T q T.ref) => br_Start h)
    have H2 := Lib.hid (fun (R : Nat → Prop) (W : World) (h : BR w0 R W p (T.start) q T.ref) => br_Start2 h)
    obtain ⟨T', hT'⟩ : ∃ T', T.start = T' := ⟨_, rfl⟩
    rw [hT'] at H1 H2 HN2
    clear hT'

    go_wp2_with fail
    refine Calls.mono (H1.out _ _ HP.out) ?_
    rintro e w2 ⟨rfl, hb, hs⟩
    have HP2 := Lib.hid hb
    have HS2 := Lib.hid hs
    have HB2 := Lib.hid ((hs Bo (.inr rfl)).trans HB.out)
    clear hb hs HP HB 

    go_wp2_with fail
    refine Calls.mono (H2.out _ _ HP2.out) ?_
    rintro e w3 ⟨rfl, hb, hs⟩
    have HP3 := Lib.hid hb
    have HS3 := Lib.hid hs
    clear hb hs HP2 HB2 
    go_wp2
    go_ret
    exact ⟨by simp, T', HP3.out.less fun k hk => .inl hk, HN2.out, fun k hk => (HS3.out k (.inl hk)).trans ((HS2.out k (.inl hk)).trans (HS0.out k hk))⟩
  have k10 : (kd == 10) = false := by simpa using e1
  clear e1
  by_cases e1 : kd = 11
  · subst e1
    have HN2 : Hid (Sane ((T.flushC k).1) 5 20 (c + 12)) := Lib.hid (by have h9 := HB9.out; exact (HU.out.2.2.flushC k).le (by omega))
    have H1 := Lib.hid (fun (R : Nat → Prop) (W : World) (h : BR w0 R W p T q T.ref) => br_Flush h HU.out.1 k)
    have H2 := Lib.hid (fun (R : Nat → Prop) (W : World) (h : BR w0 R W p (T.flushC k).1 q T.ref) => br_Flush2 h HU.out.2.1 k)
    obtain ⟨T', ec, hT'⟩ : ∃ T' ec, T.flushC k = (T', ec) := ⟨_, _, rfl⟩
    rw [hT'] at H1 H2 HN2
    simp only at H1 H2 HN2
    clear hT'
    go_upto_region 44 with fail
    have HPD := Lib.hid (HP.out.keptS (Kept.refl w1).drew).1
    have HVD := Lib.hid (HV.out.kept (Kept.refl w1).drew)
    have hS : (fun (W : World) => W.heap[Bo]? = some (.cells [.int .i64 11, .int .i64 k, .int .i64 t, .int .i64 n, .int .i64 more, .bool a, .int .u64 m].toArray 35 (0, 0))) w1.drew := (Kept.refl w1).drew.block HB.out
    clear HP HV HB
    refine wp_region_calm ?_
    refine wp_region_E (fun (W : World) => W.heap[Bo]? = some (.cells [.int .i64 11, .int .i64 k, .int .i64 t, .int .i64 n, .int .i64 more, .bool a, .int .u64 m].toArray 35 (0, 0))) 100 (by kernel_rfl) ?_
    refine wpAnyE_take (i := 0) (v := ?_) (listed' := #[true, false, false, false, false, false, false, false, false, false]) (by rfl) (by kernel_rfl) (by kernel_rfl) calm_put hS (by rfl) ?_ ?_
    rotate_left
    · intro W hW; clear hW; go_simp; try (with_reducible rfl)
    simp only [Act.put, List.getElem_toArray, List.getElem_cons_succ, List.getElem_cons_zero, List.setIfInBounds_toArray, List.set_cons_zero, List.set_cons_succ]
    refine wpAnyE_take (i := 1) (v := ?_) (listed' := #[true, true, false, false, false, false, false, false, false, false]) (by rfl) (by kernel_rfl) (by kernel_rfl) calm_put hS (by rfl) ?_ ?_
    rotate_left
    · intro W hW; clear hW; go_simp; try (with_reducible rfl)
    simp only [Act.put, List.getElem_toArray, List.getElem_cons_succ, List.getElem_cons_zero, List.setIfInBounds_toArray, List.set_cons_zero, List.set_cons_succ]
    refine wpAnyE_take (i := 2) (v := ?_) (listed' := #[true, true, true, false, false, false, false, false, false, false]) (by rfl) (by kernel_rfl) (by kernel_rfl) calm_put hS (by rfl) ?_ ?_
    rotate_left
    · intro W hW; have c1 := cell_of_row _ _ 1 _ _ _ hW; have c2 := cell_of_row _ _ 2 _ _ _ hW; have c3 := cell_of_row _ _ 3 _ _ _ hW; have c6 := cell_of_row _ _ 6 _ _ _ hW; clear hW; go_simp; try (with_reducible rfl)
    simp only [Act.put, List.getElem_toArray, List.getElem_cons_succ, List.getElem_cons_zero, List.setIfInBounds_toArray, List.set_cons_zero, List.set_cons_succ]
    refine wpAnyE_take (i := 4) (v := ?_) (listed' := #[true, true, true, false, true, false, false, false, false, false]) (by rfl) (by kernel_rfl) (by kernel_rfl) calm_put hS (by rfl) ?_ ?_
    rotate_left
    · intro W hW; clear hW; go_simp; try (with_reducible rfl)
    simp only [Act.put, List.getElem_toArray, List.getElem_cons_succ, List.getElem_cons_zero, List.setIfInBounds_toArray, List.set_cons_zero, List.set_cons_succ]
    refine wpAnyE_take (i := 5) (v := ?_) (listed' := #[true, true, true, false, true, true, false, false, false, false]) (by rfl) (by kernel_rfl) (by kernel_rfl) calm_put hS (by rfl) ?_ ?_
    rotate_left
    · intro W hW; clear hW; go_simp; try (with_reducible rfl)
    simp only [Act.put, List.getElem_toArray, List.getElem_cons_succ, List.getElem_cons_zero, List.setIfInBounds_toArray, List.set_cons_zero, List.set_cons_succ]
    refine wpAnyE_take (i := 6) (v := ?_) (listed' := #[true, true, true, false, true, true, true, false, false, false]) (by rfl) (by kernel_rfl) (by kernel_rfl) calm_put hS (by rfl) ?_ ?_
    rotate_left
    · intro W hW; have c1 := cell_of_row _ _ 1 _ _ _ hW; have c2 := cell_of_row _ _ 2 _ _ _ hW; have c3 := cell_of_row _ _ 3 _ _ _ hW; have c6 := cell_of_row _ _ 6 _ _ _ hW; clear hW; go_simp; try (with_reducible rfl)
    simp only [Act.put, List.getElem_toArray, List.getElem_cons_succ, List.getElem_cons_zero, List.setIfInBounds_toArray, List.set_cons_zero, List.set_cons_succ]
    refine wpAnyE_one (i := 3) (listed' := #[true, true, true, true, true, true, true, false, false, false]) (by rfl) (by kernel_rfl) (by kernel_rfl) (by rfl) (fun K hK => ?_)
    simp only [Act.put, List.getElem_toArray, List.getElem_cons_succ, List.getElem_cons_zero, List.setIfInBounds_toArray, List.set_cons_zero, List.set_cons_succ]
    go_wp2_with fail
    refine Calls.mono (H1.out _ _ HPD.out) ?_
    rintro e w2 ⟨rfl, hb, hs⟩
    have HP2 := Lib.hid hb
    have HS2 := Lib.hid hs
    replace hS := (hs Bo (.inr rfl)).trans hS
    refine hK _ _ (fun _ => hS) ?_; clear hK K
    clear hb hs HPD
    refine wpAnyE_one (i := 7) (listed' := #[true, true, true, true, true, true, true, true, false, false]) (by rfl) (by kernel_rfl) (by kernel_rfl) (by rfl) (fun K hK => ?_)
    simp only [Act.put, List.getElem_toArray, List.getElem_cons_succ, List.getElem_cons_zero, List.setIfInBounds_toArray, List.set_cons_zero, List.set_cons_succ]
    go_wp2_with fail
    refine Calls.mono (H2.out _ _ HP2.out) ?_
    rintro e w3 ⟨rfl, hb, hs⟩
    have HP3 := Lib.hid hb
    have HS3 := Lib.hid hs
    replace hS := (hs Bo (.inr rfl)).trans hS
    refine hK _ _ (fun _ => hS) ?_; clear hK K
    clear hb hs HP2
    refine wpAnyE_take (i := 8) (v := ?_) (listed' := #[true, true, true, true, true, true, true, true, true, false]) (by rfl) (by kernel_rfl) (by kernel_rfl) calm_put hS (by rfl) ?_ ?_
    rotate_left
    · intro W hW; clear hW; go_simp; try (with_reducible rfl)
    simp only [Act.put, List.getElem_toArray, List.getElem_cons_succ, List.getElem_cons_zero, List.setIfInBounds_toArray, List.set_cons_zero, List.set_cons_succ]
    refine wpAnyE_one (i := 9) (listed' := #[true, true, true, true, true, true, true, true, true, true]) (by rfl) (by kernel_rfl) (by kernel_rfl) (by rfl) (fun K hK => ?_)
    simp only [Act.put, List.getElem_toArray, List.getElem_cons_succ, List.getElem_cons_zero, List.setIfInBounds_toArray, List.set_cons_zero, List.set_cons_succ]
    go_wp2
    refine hK _ _ (fun _ => hS) ?_; clear hK K
    refine wpAnyE_done (by kernel_rfl) ?_ _
    refine calm_normal ?_
    clear hS
    go_wp2
    go_ret
    exact ⟨by simp, T', HP3.out.less fun k hk => .inl hk, HN2.out, fun k hk => (HS3.out k (.inl hk)).trans ((HS2.out k (.inl hk)).trans (HS0.out k hk))⟩
  have k11 : (kd == 11) = false := by simpa using e1
  clear e1
  go_wp2
  go_ret
  exact ⟨rfl, T, HP.out.less fun k hk => .inl hk, HU.out.2.2.le (by omega), fun k hk => HS0.out k hk⟩
end
end Go.Proofs.YtglplhmclfekfaaGreat
