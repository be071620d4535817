/- DiskCrash: the walk (gen_crash.py). -/
import Derived.Test.YtfnjgcmghfnjhaaDlp
import Derived.Test.YtfnjgcmghfnjhaaDld
import Derived.Test.YtfnjgcmghfnjhaaDlj
namespace Go.Proofs.Ytfnjgcmghfnjhaa
open Go.RowKit
set_option linter.unusedVariables false
set_option linter.unusedSimpArgs false

theorem flF_snoc (d : Nat) (nw : List (List Int)) (p : Nat × Nat) : ∀ (L : List (Nat × Nat)) (fl : List (List Int)), flF d nw (L ++ [p]) fl = if p.1 = d then (flF d nw L fl).set (code p) (nw.getD (code p) []) else flF d nw L fl
  | [], fl => rfl
  | q :: L, fl => by rw [List.cons_append, flF, flF_snoc d nw p L, flF]
theorem crash_len {T : BankT} (h : Still T 3 8) : T.order.length ≤ 12288 := by
  have := BankT.looseTo_le h.inv.ok (Nat.le_refl _)
  rw [← BankT.looseN_order]
  unfold BankT.looseN
  rw [h.len] at this ⊢
  exact this
theorem RI.at {W : World} {ao : Option Addr} {n cp : Nat} {L : List (Nat × Nat)} (h : RI W (.slice ao n cp) L) (i : Nat) (hi : i < L.length) : ∃ g, ao = some ⟨g, 0, none⟩ ∧ W.cell? ⟨g, i, none⟩ = some (.int .i64 (code L[i] : Int)) := by
  obtain ⟨ao', cp', e, hr⟩ := h.form
  cases e
  obtain ⟨g, h1, _, h2⟩ := hr i hi
  exact ⟨g, h1, h2⟩
theorem RI.made {W : World} {g : Nat} (h : W.heap[g]? = some (.cells #[] 3 (0, 0))) : RI W (.slice (some ⟨g, 0, none⟩) 0 0) [] :=
  ⟨rfl, .inr ⟨g, 0, #[], rfl, Nat.zero_le _, h, Nat.le_refl _, by decide, rfl, rfl⟩⟩
/-- two slices of ints, apart -/
structure TwoS (w wr : World) (v r : Value) (O P : List (Nat × Nat)) : Prop where
  a : RI wr v O
  b : RI wr r P
  ha : ∀ g, v.ownBlock = some g → w.heap.size ≤ g
  hb : ∀ g, r.ownBlock = some g → w.heap.size ≤ g
  ne : ∀ g, v.ownBlock = some g → r.ownBlock ≠ some g
theorem TwoS.kept {w W W' : World} {v r : Value} {O P : List (Nat × Nat)} (h : TwoS w W v r O P) (hk : Kept W W') : TwoS w W' v r O P := ⟨h.a.kept hk, h.b.kept hk, h.ha, h.hb, h.ne⟩
theorem TwoS.wrote {w W W' : World} {v r : Value} {O P : List (Nat × Nat)} (h : TwoS w W v r O P) {B : Nat} {cs : List Value} {t : TypeId} (hw : Wrote W W' B cs t) {cur : Array Value} {t' : TypeId} (hb : W.heap[B]? = some (.cells cur t' (0, 0))) (ht : t' ≠ 3) : TwoS w W' v r O P :=
  ⟨h.a.same fun g hg => hw.oth g (fun e => h.a.not hb ht (e ▸ hg)), h.b.same fun g hg => hw.oth g (fun e => h.b.not hb ht (e ▸ hg)), h.ha, h.hb, h.ne⟩
theorem RI.wrote {W W' : World} {v : Value} {O : List (Nat × Nat)} (h : RI W v O) {B : Nat} {cs : List Value} {t : TypeId} (hw : Wrote W W' B cs t) {cur : Array Value} {t' : TypeId} (hb : W.heap[B]? = some (.cells cur t' (0, 0))) (ht : t' ≠ 3) : RI W' v O :=
  h.same fun g hg => hw.oth g (fun e => h.not hb ht (e ▸ hg))
theorem TwoS.push {w W W' : World} {v r r' : Value} {O P P' : List (Nat × Nat)} (h : TwoS w W v r O P) (hg : Grew W W' r r') (hr : RI W' r' P') (hk : Kept w W) : TwoS w W' v r' O P' := by
  refine ⟨h.a.same fun g hgv => hg.blk (h.a.lt hgv) (h.ne g hgv), hr, h.ha, fun g hgr => ?_, fun g hgv e => ?_⟩
  · rcases hg with ⟨e, _⟩ | ⟨g', e, h1, _, _⟩
    · exact h.hb g (e ▸ hgr)
    · rw [e] at hgr; injection hgr with hgr; have := hk.size; omega
  · rcases hg with ⟨e', _⟩ | ⟨g', e', h1, _, _⟩
    · exact h.ne g hgv (e' ▸ e)
    · rw [e'] at e; injection e with e; have := h.a.lt hgv; omega
theorem take_snoc {O : List (Nat × Nat)} {j : Nat} (hj : j < O.length) : O.take (j + 1) = O.take j ++ [O[j]] := by
  rw [List.take_add_one, List.getElem?_eq_getElem hj, Option.toList_some]
section
variable {w W : World}
set_option maxHeartbeats 4000000
set_option maxRecDepth 100000
theorem law_crash (v : Value) (l : List OpD) (mask : Int) (w : World) (hs : DSrc w v l) (hm : 0 ≤ mask ∧ mask < 18446744073709551616) :
    Calls Try.prog 4 #[v, .int .u64 mask] w fun e w' => e = .returned (.bool true) ∧ Kept w w' := by
  have HS := Lib.hid hs
  have HM := Lib.hid hm
  obtain ⟨oa, cap, rfl, hcap, hmax, hrest⟩ := hs
  clear hrest
  unfold maxLen at hmax
  have HSH := Lib.hid (law_shown03 w)
  go_enter Try.func4, Try.ntmps4
  go_wp2_with fail
  refine Calls.mono HSH.out ?_
  rintro e w1 ⟨rfl, hk1⟩
  have HL := Lib.hid (law_laid w w1 (fun _ => False) hk1 (fun _ h => h.elim))
  clear hk1 HSH
  go_wp2_with fail
  refine Calls.mono HL.out ?_
  rintro e w2 ⟨q, rfl, hb, hr⟩
  have HB2 := Lib.hid hb
  clear hb hr HL
  go_wp2_with (refine stop_at (o := ⟨some 7, _, _, _, _, _⟩) ?_)
  refine Stop.mk ?_
  refine wpList_alloc_abs rfl _ rfl _ zero_24 ?_
  intro w3 hz3 hs3 hn3 hk3
  have HB3 := Lib.hid ((HB2.out.more hk3 w2.heap.size (Nat.le_refl _) hs3).less (R' := fun k => k = w2.heap.size) (fun k h => .inr h))
  have HFL : w.heap.size ≤ w2.heap.size := HB2.out.keeps.size
  generalize w2.heap.size = bF at *
  clear hn3 hk3 HB2
  go_wp2_with (refine stop_at (o := ⟨some 8, _, _, _, _, _⟩) ?_)
  refine Stop.mk ?_
  refine wpList_alloc_abs rfl _ rfl _ zero_24 ?_
  intro w4 hz4 hs4 hn4 hk4
  have HB4 := Lib.hid ((HB3.out.more hk4 w3.heap.size (Nat.le_refl _) hs4).less (R' := fun k => k = bF ∨ k = w3.heap.size ∨ (Value.slice none 0 0).ownBlock = some k) (fun k h => by
    rcases h with h | h | h
    · exact .inl h
    · exact .inr h
    · simp [Value.ownBlock] at h))
  have HNL : w.heap.size ≤ w3.heap.size := HB3.out.keeps.size
  have HF4 := Lib.hid (hk4.block hz3.out)
  have HN4 := hz4
  have hFN : bF ≠ w3.heap.size := by omega
  generalize w3.heap.size = bN at *
  clear hn4 hk4 HB3 hs3 hs4 hz3 hz4
  go_upto_block 0 with fail
  go_cut [9] (fun vo wc => ∃ (T : BankT) (fl nw : List (List Int)), Hid (CrI T fl nw) ∧ T.clock ≤ 100 ∧ T.writes ≤ 100 ∧ Hid (BK w (fun b => b = bF ∨ b = bN ∨ vo.ownBlock = some b) wc q T) ∧ Hid (wc.heap[bF]? = some (.cells (secs fl).toArray 28 (0, 0))) ∧ Hid (wc.heap[bN]? = some (.cells (secs nw).toArray 28 (0, 0))) ∧ Hid (RI wc vo T.order))
  case first =>
    go_wp2
    go_loopw [9, 10] (fun vo i wr => ∃ (k : Nat) (T : BankT) (fl nw : List (List Int)), k ≤ l.length ∧ k ≤ 100 ∧ i = .int .i64 k ∧ T.clock ≤ k ∧ T.writes ≤ k ∧ Hid (CrI T fl nw) ∧ Hid (BK w (fun b => b = bF ∨ b = bN ∨ vo.ownBlock = some b) wr q T) ∧ Hid (wr.heap[bF]? = some (.cells (secs fl).toArray 28 (0, 0))) ∧ Hid (wr.heap[bN]? = some (.cells (secs nw).toArray 28 (0, 0))) ∧ Hid (RI wr vo T.order ∧ ∀ g, vo.ownBlock = some g → w.heap.size ≤ g)) (fun _ i _ => l.length - (intOf i).toNat)
    case atStart => exact ⟨0, addN 3, _, _, Nat.zero_le _, by decide, rfl, by rw [(addN_rest 3).2.2.1]; exact Int.le_refl _, by rw [(addN_rest 3).2.2.2]; exact Int.le_refl _, Lib.hid CrI.start, HB4, HF4, HN4, Lib.hid ⟨by rw [addN_order]; exact RI.nil _, fun g hg => by simp [Value.ownBlock] at hg⟩⟩
    case round =>
      obtain ⟨k, T, fl, nw, hk, hk100, rfl, hclk, hwri, HI, HB, HF, HNw, HO⟩ := hrel
      by_cases hlt : k < l.length ∧ k < 100
      · obtain ⟨hlt, h100⟩ := hlt
        obtain ⟨b, off, rfl, g0, g1, g2, g3, g4, g5, g6⟩ := HS.out.at k hlt
        obtain ⟨y1, hy1, hyl1⟩ := and_low l[k].disk 16 (by decide) (m := 65535) (by decide)
        obtain ⟨a, ha, hal⟩ := and_low l[k].at_ 3 (by decide) (m := 7) (by decide)
        have hym1 : (y1 : Int) % 3 = ((y1 % 3 : Nat) : Int) := by omega
        have hd3 : y1 % 3 < 3 := by omega
        have ha8 : a < 8 := hal
        have hkd : (l[k].kind == 2) = true ∨ (l[k].kind == 2) = false := by cases (l[k].kind == 2) <;> simp
        clear hal hyl1
        generalize l[k].kind = xk at *
        generalize l[k].disk = xd at *
        generalize l[k].at_ = xa at *
        generalize l[k].n = xn at *
        generalize y1 % 3 = d at *
        have HU : Hid T.Use := Lib.hid (bk_use HI.out.still (by decide) hclk hwri (by omega) (by omega))
        have HSN := Lib.hid (show (secN xn).length = 64 ∧ ∀ x ∈ secN xn, IsByte x from ⟨secN_len xn, secN_byte xn⟩)
        have c0 := HB.out.keeps.cell' g0
        have c1 := HB.out.keeps.cell' g1
        have c2 := HB.out.keeps.cell' g2
        have c3 := HB.out.keeps.cell' g3
        have hin : ∀ p ∈ T.order, p.1 < 3 ∧ p.2 < 8 := fun p hp => ⟨(HI.out.still.toShape.order_in hp).1, (HI.out.still.toShape.order_in hp).2.1⟩
        have HIN := Lib.hid hin; clear hin
        have hol := crash_len HI.out.still
        have HLF := Lib.hid HI.out.lf
        have HLN := Lib.hid HI.out.ln
        rcases hkd with hkd | hkd
        · obtain ⟨T', he, hI', hcl', hwr', hord'⟩ := HI.out.flush hd3
          have HE := Lib.hid he; have HI' := Lib.hid hI'; have HORD := Lib.hid hord'
          clear he hI' hord'
          go_wp2_with fail
          refine Calls.mono (st_flush HB.out HU.out (d : Int) (c := 0) (T' := T') (by rw [HE.out]) (by rw [HE.out])) ?_
          rintro e w5 ⟨rfl, hb5, hr5⟩
          have HB5 := Lib.hid hb5
          have HF5 := Lib.hid ((hr5 bF (.inl rfl)).trans HF.out)
          have HN5 := Lib.hid ((hr5 bN (.inr (.inl rfl))).trans HNw.out)
          have HO5 := Lib.hid (And.intro (HO.out.1.same fun g hg => hr5 g (.inr (.inr hg))) HO.out.2)
          clear hb5 hr5 HB HF HNw HO c0 c1 c2 c3 HI HU
          obtain ⟨ao, cp, rfl, _⟩ := HO5.out.1.form
          generalize hO : T.order = O at *
          have HOO := Lib.hid hO; clear hO
          go_wp2
          have hs5 : w5.heap.size < (w5.alloc (Obj.cells #[] 3)).heap.size := by rw [World.size_alloc]; omega
          have hk5 : Kept w5 (w5.alloc (Obj.cells #[] 3)) := (Kept.refl _).alloc _
          have hr5 := heap_alloc_new w5 (Obj.cells #[] 3)
          generalize w5.alloc (Obj.cells #[] 3) = w6 at *
          have HB6 : Hid (BK w (fun b => b = bF ∨ b = bN ∨ (Value.slice ao O.length cp).ownBlock = some b ∨ (Value.slice (some ⟨w5.heap.size, 0, none⟩) 0 0).ownBlock = some b) w6 q T') := Lib.hid ((HB5.out.more hk5 w5.heap.size (Nat.le_refl _) hs5).less fun k h => by
            rcases h with h | h | h | h
            · exact .inl (.inl h)
            · exact .inl (.inr (.inl h))
            · exact .inl (.inr (.inr h))
            · simp only [Value.ownBlock, Option.some.injEq] at h; exact .inr h.symm)
          have HF6 := Lib.hid (hk5.block HF5.out)
          have HN6 := Lib.hid (hk5.block HN5.out)
          have HT6 : Hid (TwoS w w6 (.slice ao O.length cp) (.slice (some ⟨w5.heap.size, 0, none⟩) 0 0) O []) := Lib.hid ⟨HO5.out.1.kept hk5, RI.made hr5, HO5.out.2, fun g hg => by
            simp only [Value.ownBlock, Option.some.injEq] at hg
            have := HB5.out.keeps.size; omega, fun g hg e => by
            simp only [Value.ownBlock, Option.some.injEq] at e
            have := HO5.out.1.lt hg; omega⟩
          clear hs5 hk5 hr5 HB5 HF5 HN5 HO5
          generalize (Value.slice (some ⟨w5.heap.size, 0, none⟩) 0 0) = r0 at *
          go_loopw [13, 14] (fun r i wr => ∃ (j : Nat) (fl' : List (List Int)), j ≤ O.length ∧ i = .int .i64 j ∧ Hid (fl' = flF d nw (O.take j) fl) ∧ Hid (L24 fl') ∧ Hid (BK w (fun b => b = bF ∨ b = bN ∨ (Value.slice ao O.length cp).ownBlock = some b ∨ r.ownBlock = some b) wr q T') ∧ Hid (wr.heap[bF]? = some (.cells (secs fl').toArray 28 (0, 0))) ∧ Hid (wr.heap[bN]? = some (.cells (secs nw).toArray 28 (0, 0))) ∧ Hid (TwoS w wr (.slice ao O.length cp) r O ((O.take j).filter (fun p => p.1 != d)))) (fun _ i _ => O.length - (intOf i).toNat)
          case atStart => exact ⟨0, fl, Nat.zero_le _, rfl, Lib.hid rfl, HLF, HB6, HF6, HN6, HT6⟩
          case round =>
            obtain ⟨j, fl', hj, rfl, HFL', HL', HBr, HFr, HNr, HTr⟩ := hrel
            by_cases hjl : j < O.length
            · obtain ⟨gg, rfl, ck⟩ := HTr.out.a.at j hjl
              obtain ⟨hp1, hp2⟩ := HIN.out O[j] (List.getElem_mem hjl)
              have hq8 : ((code O[j] : Nat) : Int) / 8 = (O[j].1 : Int) := by unfold code; omega
              have hc24 : code O[j] < 24 := by unfold code; omega
              have hci : ((code O[j] : Nat) : Int) < 24 := by omega
              have HSN2 := Lib.hid (take_snoc hjl)
              have HPC : Hid (O[j] = O[j]) := Lib.hid rfl
              generalize hp : O[j] = p at *
              generalize hc : code p = c at *
              have HC := Lib.hid hc; have HP := Lib.hid hp
              obtain ⟨p1, p2⟩ := p
              dsimp only at hp1 hp2 hq8
              clear hc hp HPC
              have h64 := HLN.out.at hc24
              have HSL := Lib.hid (cells_sec (Cells.of_block HNr.out) HLN.out.2 (a := c) (by rw [HLN.out.1]; exact hc24))
              generalize hxs : nw.getD c [] = xs at *
              have HXS := Lib.hid hxs; have H64 := Lib.hid h64; clear hxs h64
              by_cases hpd : p1 = d
              · have hbe : ((p1 : Int) == (d : Int)) = true := by simp [hpd]
                have HJ : Hid (splice (secs fl') (c * 64) (u8s xs) = secs (fl'.set c xs)) := Lib.hid (splice_flat fl' HL'.out.2 c (by rw [HL'.out.1]; exact hc24) _ H64.out)
                have HQ : Hid ((secs fl').length = 24 * 64) := Lib.hid (by rw [secs_length fl' HL'.out.2, HL'.out.1])
                go_upto_region 20 with fail
                refine wp_still_tail 11 (by kernel_rfl) (by kernel_rfl) fun ws hks hhs => ?_
                have ck' := hks.cell' ck
                simp only [List.take_succ_cons, List.take_zero, List.drop_succ_cons, List.drop_zero]
                iterate 9 still_step
                refine still_load_agg rfl _ rfl ty_sec bN (c * 64) rfl _ (HSL.out.kept hks) (by rw [u8s_length, H64.out]) ?_
                iterate 1 still_step
                refine wpStill_nil ?_
                refine wpList_store_agg rfl _ _ rfl ty_sec bF (c * 64) rfl (u8s xs) rfl (by rw [u8s_length, H64.out]) (u8s_one _) (secs fl') 28 (hks.block HFr.out) (by rw [HQ.out]; omega) ?_
                intro w7 hw7
                rw [HJ.out] at hw7
                have HT7 : Hid (TwoS w w7 (.slice (some ⟨gg, 0, none⟩) O.length cp) _ O ((O.take (j + 1)).filter (fun p => p.1 != d))) := Lib.hid (by
                  have := (HTr.out.kept hks).wrote hw7 (hks.block HFr.out) (by decide)
                  rw [HSN2.out, List.filter_append, List.filter_cons]
                  simpa [hpd] using this)
                have HB7 := Lib.hid ((HBr.out.kept hks).1.wrote hw7 (.inl rfl) HFL)
                have HF7 := Lib.hid hw7.blk
                have HN7 := Lib.hid ((hw7.oth bN (Ne.symm hFN)).trans (hks.block HNr.out))
                have HL7 : Hid (L24 (fl'.set c xs)) := Lib.hid (HL'.out.set c H64.out)
                have HFL7 : Hid (fl'.set c xs = flF d nw (O.take (j + 1)) fl) := Lib.hid (by rw [HSN2.out, flF_snoc, if_pos hpd, ← HFL'.out, HC.out, HXS.out])
                clear hw7 hks hhs ck ck' HBr HFr HNr HTr HSL HJ HQ HFL' HL'
                go_wp2
                go_roundw
                case rel => exact ⟨j + 1, _, hjl, by go_num, HFL7, HL7, HB7, HF7, HN7, HT7⟩
                case measure => simp [intOf]; omega
              · have hbe : ((p1 : Int) == (d : Int)) = false := by simp; omega
                go_wp2_with (refine stop_at (o := ⟨some 91, _, _, _, _, _⟩) ?_)
                refine Stop.mk ?_
                have hk6 : Kept wr (wr.alloc (Obj.cells #[Value.int .i64 (c : Int)] 3)) := (Kept.refl _).alloc _
                have hb6 := heap_alloc_new wr (Obj.cells #[Value.int .i64 (c : Int)] 3)
                refine wpList_append1 rfl _ _ rfl _ ((O.take j).filter (fun p => p.1 != d)) (p1, p2) rfl (HTr.out.b.kept hk6) (by have := List.length_filter_le (fun p : Nat × Nat => p.1 != d) (O.take j); rw [List.length_take] at this; omega) wr.heap.size rfl (by rw [HC.out]; exact hb6) ?_
                intro r' w7 hri hgr
                have hTw := HTr.out.kept hk6
                have HT7 : Hid (TwoS w w7 (.slice (some ⟨gg, 0, none⟩) O.length cp) r' O ((O.take (j + 1)).filter (fun p => p.1 != d))) := Lib.hid (by
                  have := hTw.push hgr hri (HBr.out.kept hk6).1.keeps
                  rw [HSN2.out, List.filter_append, List.filter_cons]
                  simpa [hpd] using this)
                have HB7 : Hid (BK w (fun b => b = bF ∨ b = bN ∨ (Value.slice (some ⟨gg, 0, none⟩) O.length cp).ownBlock = some b ∨ r'.ownBlock = some b) w7 q T') := Lib.hid (((HBr.out.kept hk6).1.grew hgr (fun k hk => .inr (.inr (.inr hk))) hTw.hb).less fun k h => by
                  rcases h with h | h | h | h
                  · exact .inl (.inl h)
                  · exact .inl (.inr (.inl h))
                  · exact .inl (.inr (.inr (.inl h)))
                  · exact .inr h)
                have HF7 := Lib.hid ((hgr.blk (Array.getElem?_eq_some_iff.1 (hk6.block HFr.out)).1 (hTw.b.not (hk6.block HFr.out) (by decide))).trans (hk6.block HFr.out))
                have HN7 := Lib.hid ((hgr.blk (Array.getElem?_eq_some_iff.1 (hk6.block HNr.out)).1 (hTw.b.not (hk6.block HNr.out) (by decide))).trans (hk6.block HNr.out))
                have HFL7 : Hid (fl' = flF d nw (O.take (j + 1)) fl) := Lib.hid (by rw [HSN2.out, flF_snoc, if_neg hpd]; exact HFL'.out)
                clear hri hgr hTw hk6 hb6 ck HBr HFr HNr HTr HSL HFL'
                go_wp2
                go_roundw
                case rel => exact ⟨j + 1, _, hjl, by go_num, HFL7, HL', HB7, HF7, HN7, HT7⟩
                case measure => simp [intOf]; omega
            · have hje : j = O.length := by omega
              subst hje
              have HT8 := HTr
              rw [List.take_length] at HT8 HFL'
              have HF8 : Hid (wr.heap[bF]? = some (.cells (secs (flF d nw O fl)).toArray 28 (0, 0))) := Lib.hid (by rw [← HFL'.out]; exact HFr.out)
              have HB8 := Lib.hid (HBr.out.less (R' := fun b => b = bF ∨ b = bN ∨ u13.ownBlock = some b) (fun b h => by
                rcases h with h | h | h
                · exact .inl h
                · exact .inr (.inl h)
                · exact .inr (.inr (.inr h))))
              have HO8 : Hid (RI wr u13 T'.order ∧ ∀ g, u13.ownBlock = some g → w.heap.size ≤ g) := Lib.hid ⟨by rw [HORD.out]; exact HT8.out.b, HT8.out.hb⟩
              clear HBr HFr HTr HT8 HFL' HL'
              go_wp2
              go_roundw
              case rel => exact ⟨k + 1, T', _, nw, hlt, h100, by go_num, by omega, by omega, HI', HB8, HF8, HNr, HO8⟩
              case measure => simp [intOf]; omega
        · obtain ⟨T', he, hI', hcl', hwr', hord'⟩ := HI.out.write hd3 ha8 HSN.out
          have HE := Lib.hid he; have HI' := Lib.hid hI'; have HORD := Lib.hid hord'
          clear he hI' hord'
          have hj : (8 : Int) * (d : Int) + (a : Int) = ((8 * d + a : Nat) : Int) := by omega
          have hjl : 8 * d + a < 24 := by omega
          have hji : ((8 * d + a : Nat) : Int) < 24 := by omega
          have HCD : Hid (code (d, a) = 8 * d + a) := Lib.hid rfl
          have HJ : Hid (splice (secs nw) ((8 * d + a) * 64) (u8s (secN xn)) = secs (nw.set (8 * d + a) (secN xn))) := Lib.hid (splice_flat nw HLN.out.2 _ (by rw [HLN.out.1]; exact hjl) _ (secN_len xn))
          have HQ : Hid ((secs nw).length = 24 * 64) := Lib.hid (by rw [secs_length nw HLN.out.2, HLN.out.1])
          generalize 8 * d + a = jj at *
          go_wp2_with fail
          refine Calls.mono (law_sector xn wr) ?_
          rintro e w5 ⟨rfl, hk5⟩
          have HB5 := Lib.hid (HB.out.kept hk5).1
          have HF5 := Lib.hid (hk5.block HF.out)
          have HN5 := Lib.hid (hk5.block HNw.out)
          have HO5 := Lib.hid (And.intro (HO.out.1.kept hk5) HO.out.2)
          clear hk5 HB HF HNw HO c0 c1 c2 c3 HI
          go_wp2_with fail
          refine Calls.mono (st_write HB5.out HU.out (d : Int) (a : Int) (s := secN xn) (secN_len xn) (by rw [HE.out]) (T' := T') (by rw [HE.out])) ?_
          rintro e w6 ⟨rfl, hb6, hr6⟩
          have HB6 := Lib.hid hb6
          have HF6 := Lib.hid ((hr6 bF (.inl rfl)).trans HF5.out)
          have HN6 := Lib.hid ((hr6 bN (.inr (.inl rfl))).trans HN5.out)
          have HO6 := Lib.hid (And.intro (HO5.out.1.same fun g hg => hr6 g (.inr (.inr hg))) HO5.out.2)
          have c36 := hb6.keeps.cell' g3
          clear hb6 hr6 HB5 HF5 HN5 HO5 HU
          go_wp2_with fail
          refine Calls.mono (law_sector xn w6) ?_
          rintro e w7 ⟨rfl, hk7⟩
          have HB7 := Lib.hid (HB6.out.kept hk7).1
          have HF7 := Lib.hid (hk7.block HF6.out)
          have HN7 := Lib.hid (hk7.block HN6.out)
          have HO7 := Lib.hid (And.intro (HO6.out.1.kept hk7) HO6.out.2)
          clear hk7 HB6 HF6 HN6 HO6 c36
          go_wp2_with (refine stop_at (o := ⟨none, .store _ _ _, _, _, _, _⟩) ?_)
          refine Stop.mk ?_
          refine wpList_store_agg rfl _ _ rfl ty_sec bN (jj * 64) rfl (u8s (secN xn)) rfl (by rw [u8s_length, secN_len]) (u8s_one _) (secs nw) 28 HN7.out (by rw [HQ.out]; omega) ?_
          intro w8 hw8
          rw [HJ.out] at hw8
          have HB8 := Lib.hid (HB7.out.wrote hw8 (.inr (.inl rfl)) HNL)
          have HN8 := Lib.hid hw8.blk
          have HF8 := Lib.hid ((hw8.oth bF hFN).trans HF7.out)
          have HO8 := Lib.hid (And.intro (HO7.out.1.wrote hw8 HN7.out (by decide)) HO7.out.2)
          clear hw8 HB7 HF7 HN7 HO7 HJ HQ
          obtain ⟨ao, cp, rfl, _⟩ := HO8.out.1.form
          generalize hO : T.order = O at *
          have HOO := Lib.hid hO; clear hO
          go_wp2
          go_loopw [15, 16] (fun kn i wr => ∃ j : Nat, j ≤ O.length ∧ i = .int .i64 j ∧ kn = .bool (decide ((d, a) ∈ O.take j)) ∧ wr = w8) (fun _ i _ => O.length - (intOf i).toNat)
          case atStart => exact ⟨0, Nat.zero_le _, rfl, by simp, rfl⟩
          case round =>
            obtain ⟨j, hj', rfl, rfl, rfl⟩ := hrel
            by_cases hjl' : j < O.length
            · obtain ⟨gg, rfl, ck⟩ := HO8.out.1.at j hjl'
              obtain ⟨hp1, hp2⟩ := HIN.out O[j] (List.getElem_mem hjl')
              have hmem : ((d, a) ∈ O.take (j + 1)) ↔ ((d, a) ∈ O.take j ∨ (code O[j] : Nat) = jj) := by
                rw [take_snoc hjl', List.mem_append, List.mem_singleton]
                constructor
                · rintro (h | h)
                  · exact .inl h
                  · exact .inr (by rw [← h]; exact HCD.out)
                · rintro (h | h)
                  · exact .inl h
                  · exact .inr (code_inj ha8 hp2 (by rw [h]; exact HCD.out))
              have HMEM := Lib.hid hmem; clear hmem
              generalize code O[j] = c at *
              by_cases hkn : (d, a) ∈ O.take j
              · have hdk : decide ((d, a) ∈ O.take j) = true := by simp [hkn]
                have hdn : decide ((d, a) ∈ O.take (j + 1)) = true := by simp [HMEM.out, hkn]
                rw [hdk]
                clear hkn hdk
                go_wp2
                go_roundw
                case rel => exact ⟨j + 1, hjl', by go_num, by rw [hdn], trivial⟩
                case measure => simp [intOf]; omega
              · have hdk : decide ((d, a) ∈ O.take j) = false := by simp [hkn]
                have hdn : decide ((d, a) ∈ O.take (j + 1)) = ((c : Int) == (jj : Int)) := by
                  rw [Bool.eq_iff_iff]; simp only [decide_eq_true_eq, HMEM.out, hkn, false_or, beq_iff_eq]; omega
                rw [hdk]
                clear hkn hdk
                go_wp2
                go_roundw
                case rel => exact ⟨j + 1, hjl', by go_num, by rw [hdn], trivial⟩
                case measure => simp [intOf]; omega
            · have hje : j = O.length := by omega
              subst hje
              rw [List.take_length]
              by_cases hkn : (d, a) ∈ O
              · have hdk : decide ((d, a) ∈ O) = true := by simp [hkn]
                have HO9 : Hid (RI wr (.slice ao O.length cp) T'.order ∧ ∀ g, (Value.slice ao O.length cp).ownBlock = some g → w.heap.size ≤ g) := Lib.hid ⟨by rw [HORD.out, if_pos hkn]; exact HO8.out.1, HO8.out.2⟩
                rw [hdk]
                clear hkn hdk HO8
                go_wp2
                go_roundw
                case rel => exact ⟨k + 1, T', fl, _, hlt, h100, by go_num, by omega, by omega, HI', HB8, HF8, HN8, HO9⟩
                case measure => simp [intOf]; omega
              · have hdk : decide ((d, a) ∈ O) = false := by simp [hkn]
                have HOR : Hid (T'.order = O ++ [(d, a)]) := Lib.hid (by rw [HORD.out, if_neg hkn])
                rw [hdk]
                clear hkn hdk
                go_wp2_with (refine stop_at (o := ⟨some 142, _, _, _, _, _⟩) ?_)
                refine Stop.mk ?_
                have hk9 : Kept wr (wr.alloc (Obj.cells #[Value.int .i64 (jj : Int)] 3)) := (Kept.refl _).alloc _
                have hb9 := heap_alloc_new wr (Obj.cells #[Value.int .i64 (jj : Int)] 3)
                refine wpList_append1 rfl _ _ rfl _ O (d, a) rfl (HO8.out.1.kept hk9) (by omega) wr.heap.size rfl (by rw [HCD.out]; exact hb9) ?_
                intro v' w9 hri hgr
                have HB9 : Hid (BK w (fun b => b = bF ∨ b = bN ∨ v'.ownBlock = some b) w9 q T') := Lib.hid (((HB8.out.kept hk9).1.grew hgr (fun k hk => .inr (.inr hk)) HO8.out.2).less fun k h => by
                  rcases h with h | h | h
                  · exact .inl (.inl h)
                  · exact .inl (.inr (.inl h))
                  · exact .inr h)
                have HF9 := Lib.hid ((hgr.blk (Array.getElem?_eq_some_iff.1 (hk9.block HF8.out)).1 ((HO8.out.1.kept hk9).not (hk9.block HF8.out) (by decide))).trans (hk9.block HF8.out))
                have HN9 := Lib.hid ((hgr.blk (Array.getElem?_eq_some_iff.1 (hk9.block HN8.out)).1 ((HO8.out.1.kept hk9).not (hk9.block HN8.out) (by decide))).trans (hk9.block HN8.out))
                have HO9 : Hid (RI w9 v' T'.order ∧ ∀ g, v'.ownBlock = some g → w.heap.size ≤ g) := Lib.hid ⟨by rw [HOR.out]; exact hri, fun g hg => by
                  rcases hgr with ⟨e, _⟩ | ⟨g', e, h1, _, _⟩
                  · exact HO8.out.2 g (e ▸ hg)
                  · rw [e] at hg; injection hg with hg
                    have := (HB8.out.kept hk9).1.keeps.size; omega⟩
                clear hri hgr hk9 hb9 HB8 HF8 HN8 HO8
                go_wp2
                go_roundw
                case rel => exact ⟨k + 1, T', fl, _, hlt, h100, by go_num, by omega, by omega, HI', HB9, HF9, HN9, HO9⟩
                case measure => simp [intOf]; omega
      · have hkk : l.length ≤ k ∨ (k < l.length ∧ 100 ≤ k) := by omega
        clear hlt
        rcases hkk with hkk | ⟨hkk, h100⟩
        all_goals
          go_wp2
          go_meet
          case rel => exact ⟨T, fl, nw, HI, by omega, by omega, HB, HF, HNw, Lib.hid HO.out.1⟩
  case rest =>
    obtain ⟨T, fl, nw, HI, hclk, hwri, HB, HF, HNw, HO⟩ := hcut
    clear HS HB4 HF4 HN4
    obtain ⟨m, rfl⟩ := Int.eq_ofNat_of_zero_le HM.out.1
    have hm64 : m < 18446744073709551616 := by have := HM.out.2; omega
    obtain ⟨e1, e2, e3, e4, e5, i1, l1, cl1, wr1, st1, hr⟩ := HI.out.fin (m : Int)
    have HU := Lib.hid (bk_use HI.out.still (by decide) hclk hwri (by decide) (by decide))
    have HU1 : Hid (T.crash (m : Int)).Use := Lib.hid ⟨i1, by rw [l1]; decide, by omega, by omega⟩
    have HU2 : Hid (T.crash (m : Int)).start.Use := Lib.hid (bk_use st1 (by decide) (c := 100) (x := 100) (by show (T.crash (m : Int)).clock ≤ 100; omega) (by show (T.crash (m : Int)).writes ≤ 100; omega) (by decide) (by decide))
    have HLO : Hid (T.looseN = T.order.length) := Lib.hid T.looseN_order
    have hin : ∀ p ∈ T.order, p.1 < 3 ∧ p.2 < 8 := fun p hp => ⟨(HI.out.still.toShape.order_in hp).1, (HI.out.still.toShape.order_in hp).2.1⟩
    have HIN := Lib.hid hin; clear hin
    have hol := crash_len HI.out.still
    have HLF := Lib.hid HI.out.lf
    have HLN := Lib.hid HI.out.ln
    have HCR : Hid (∀ j, L24 (crF (m : Int) nw T.order fl j)) := Lib.hid (crF_24 HLN.out HLF.out HIN.out)
    generalize hT1 : T.crash (m : Int) = T1 at *
    have HT1 := Lib.hid hT1
    have HE1 := Lib.hid e1; have HE2 := Lib.hid e2; have HE3 := Lib.hid e3; have HE4 := Lib.hid e4; have HE5 := Lib.hid e5
    have HR := Lib.hid hr
    generalize T.order = O at *
    obtain ⟨ao, cp, rfl, _⟩ := HO.out.form
    clear e1 e2 e3 e4 e5 i1 l1 cl1 wr1 st1 hr hT1 hclk hwri HI HM hm
    go_wp2_with fail
    refine Calls.mono (st_loose HB.out HU.out HLO.out) ?_
    rintro e w5 ⟨rfl, hb5, hk5⟩
    have HB5 := Lib.hid hb5
    have HF5 := Lib.hid (hk5.block HF.out)
    have HN5 := Lib.hid (hk5.block HNw.out)
    have HO5 := Lib.hid (HO.out.kept hk5)
    clear hb5 hk5 HB HF HNw HO HLO
    go_wp2_with fail
    refine Calls.mono (bk_Crash HB5.out HU.out (m : Int) (by omega) (by omega)) ?_
    rintro e w6 ⟨rfl, hb6, hr6⟩
    rw [HT1.out] at hb6
    have HB6 := Lib.hid hb6
    have HF6 := Lib.hid ((hr6 bF (.inl rfl)).trans HF5.out)
    have HN6 := Lib.hid ((hr6 bN (.inr (.inl rfl))).trans HN5.out)
    have HO6 := Lib.hid (HO5.out.same fun g hg => hr6 g (.inr (.inr hg)))
    clear hb6 hr6 HB5 HF5 HN5 HO5 HU HT1
    go_wp2_with fail
    refine Calls.mono (st_read HB6.out HU1.out 0 0 HE1.out) ?_
    rintro e w7 ⟨rfl, hb7, hk7⟩
    have HB7 := Lib.hid hb7
    have HF7 := Lib.hid (hk7.block HF6.out)
    have HN7 := Lib.hid (hk7.block HN6.out)
    have HO7 := Lib.hid (HO6.out.kept hk7)
    clear hb7 hk7 HB6 HF6 HN6 HO6 HE1
    go_wp2_with (refine stop_at (o := ⟨some 17, _, _, _, _, _⟩) ?_)
    refine Stop.mk ?_
    refine wpList_new_row rfl rfl _ _ rfl rfl ty_sec (u8s zeroB) zero_sec (by rw [u8s_length, zeroB_length]) (u8s zeroB) rfl (by rw [u8s_length]; rfl) (u8s_one _) rfl ?_
    intro w8 hz8 hs8 hk8
    have HB8 := Lib.hid (HB7.out.kept hk8).1
    have HF8 := Lib.hid (hk8.block HF7.out)
    have HN8 := Lib.hid (hk8.block HN7.out)
    have HO8 := Lib.hid (HO7.out.kept hk8)
    clear hz8 hs8 hk8 HB7 HF7 HN7 HO7
    have HUP := Lib.hid ((bk_Up HB8.out).mono (R' := fun e w' => e = .returned (.bool false) ∧ w8 = w') fun e w' ⟨h1, h2⟩ => ⟨by rw [h1, HE2.out]; rfl, h2⟩)
    go_wp2_with fail
    refine Calls.mono HUP.out ?_
    rintro e w9 ⟨rfl, rfl⟩
    clear HUP
    go_wp2_with fail
    refine Calls.mono (st_loose HB8.out HU1.out HE3.out) ?_
    rintro e w9 ⟨rfl, hb9, hk9⟩
    have HB9 := Lib.hid hb9
    have HF9 := Lib.hid (hk9.block HF8.out)
    have HN9 := Lib.hid (hk9.block HN8.out)
    have HO9 := Lib.hid (HO8.out.kept hk9)
    clear hb9 hk9 HB8 HF8 HN8 HO8 HE3
    go_wp2_with fail
    refine Calls.mono (st_writeE HB9.out HU1.out 0 0 (s := zeroB) zeroB_length HE4.out) ?_
    rintro e w10 ⟨rfl, hb10, hr10⟩
    have HB10 := Lib.hid hb10
    have HF10 := Lib.hid ((hr10 bF (.inl rfl)).trans HF9.out)
    have HN10 := Lib.hid ((hr10 bN (.inr (.inl rfl))).trans HN9.out)
    have HO10 := Lib.hid (HO9.out.same fun g hg => hr10 g (.inr (.inr hg)))
    clear hb10 hr10 HB9 HF9 HN9 HO9 HE4
    go_wp2_with fail
    refine Calls.mono (st_flush HB10.out HU1.out 0 (c := 6) (T' := T1) (by rw [HE5.out]) (by rw [HE5.out])) ?_
    rintro e w11 ⟨rfl, hb11, hr11⟩
    have HB11 := Lib.hid hb11
    have HF11 := Lib.hid ((hr11 bF (.inl rfl)).trans HF10.out)
    have HN11 := Lib.hid ((hr11 bN (.inr (.inl rfl))).trans HN10.out)
    have HO11 := Lib.hid (HO10.out.same fun g hg => hr11 g (.inr (.inr hg)))
    clear hb11 hr11 HB10 HF10 HN10 HO10 HE5 HU1 HE2
    go_wp2_with fail
    refine Calls.mono (bk_Start HB11.out) ?_
    rintro e w12 ⟨rfl, hb12, hr12⟩
    have HB12 := Lib.hid hb12
    have HF12 := Lib.hid ((hr12 bF (.inl rfl)).trans HF11.out)
    have HN12 := Lib.hid ((hr12 bN (.inr (.inl rfl))).trans HN11.out)
    have HO12 := Lib.hid (HO11.out.same fun g hg => hr12 g (.inr (.inr hg)))
    clear hb12 hr12 HB11 HF11 HN11 HO11
    generalize T1.start = T2 at *
    go_wp2
    go_loopw [19] (fun i wr => ∃ (j : Nat) (fl' : List (List Int)), j ≤ O.length ∧ i = .int .i64 j ∧ Hid (fl' = crF (m : Int) nw O fl j) ∧ Hid (L24 fl') ∧ Hid (BK w (fun b => b = bF ∨ b = bN ∨ (Value.slice ao O.length cp).ownBlock = some b) wr q T2) ∧ Hid (wr.heap[bF]? = some (.cells (secs fl').toArray 28 (0, 0))) ∧ Hid (wr.heap[bN]? = some (.cells (secs nw).toArray 28 (0, 0))) ∧ Hid (RI wr (.slice ao O.length cp) O)) (fun i _ => O.length - (intOf i).toNat)
    case atStart => exact ⟨0, fl, Nat.zero_le _, rfl, Lib.hid rfl, HLF, HB12, HF12, HN12, HO12⟩
    case round =>
      obtain ⟨j, fl', hj, rfl, HFL', HL', HBr, HFr, HNr, HOr⟩ := hrel
      by_cases hjl : j < O.length
      · obtain ⟨gg, rfl, ck⟩ := HOr.out.at j hjl
        obtain ⟨hp1, hp2⟩ := HIN.out O[j] (List.getElem_mem hjl)
        have hgd : O.getD j (0, 0) = O[j] := by rw [List.getD_eq_getElem?_getD, List.getElem?_eq_getElem hjl]; rfl
        have HCS : Hid (crF (m : Int) nw O fl (j + 1) = if bitOf (m : Int) j then fl'.set (code O[j]) (nw.getD (code O[j]) []) else fl') := Lib.hid (by rw [crF, hgd, ← HFL'.out])
        have hc24 : code O[j] < 24 := by unfold code; omega
        clear hgd
        generalize code O[j] = c at *
        have hci : (c : Int) < 24 := by omega
        have h64 := HLN.out.at hc24
        have HSL := Lib.hid (cells_sec (Cells.of_block HNr.out) HLN.out.2 (a := c) (by rw [HLN.out.1]; exact hc24))
        generalize hxs : nw.getD c [] = xs at *
        have H64 := Lib.hid h64; clear hxs h64
        have HJ : Hid (splice (secs fl') (c * 64) (u8s xs) = secs (fl'.set c xs)) := Lib.hid (splice_flat fl' HL'.out.2 c (by rw [HL'.out.1]; exact hc24) _ H64.out)
        have HQ : Hid ((secs fl').length = 24 * 64) := Lib.hid (by rw [secs_length fl' HL'.out.2, HL'.out.1])
        obtain ⟨y, hy, hyl⟩ := and_low (j : Int) 6 (by decide) (m := 63) (by decide)
        have hyj : y = j % 64 := by
          have h1 := i64_and_mask (j : Int) 6 (by decide)
          rw [show (2 : Int) ^ 6 - 1 = 63 by decide, hy] at h1
          omega
        have hbit : ((bits .and .u64 ((m : Int) / 2 ^ y) 1 : Int) == 1) = bitOf (m : Int) j := by
          rw [show (m : Int) / 2 ^ y = ((m / 2 ^ y : Nat) : Int) by push_cast; rfl, and1_bit _ (Nat.lt_of_le_of_lt (Nat.div_le_self _ _) (by omega)), bitOf_eq, hyj]
        have hyl' : y < 64 := hyl
        clear hyj hyl
        have hbb : bitOf (m : Int) j = true ∨ bitOf (m : Int) j = false := by cases bitOf (m : Int) j <;> simp
        generalize hbt : bitOf (m : Int) j = bt at *
        clear hbt
        rcases hbb with rfl | rfl
        · go_upto_region 44 with fail
          refine wp_still_tail 11 (by kernel_rfl) (by kernel_rfl) fun ws hks hhs => ?_
          have ck' := hks.cell' ck
          simp only [List.take_succ_cons, List.take_zero, List.drop_succ_cons, List.drop_zero]
          iterate 9 still_step
          refine still_load_agg rfl _ rfl ty_sec bN (c * 64) rfl _ (HSL.out.kept hks) (by rw [u8s_length, H64.out]) ?_
          iterate 1 still_step
          refine wpStill_nil ?_
          refine wpList_store_agg rfl _ _ rfl ty_sec bF (c * 64) rfl (u8s xs) rfl (by rw [u8s_length, H64.out]) (u8s_one _) (secs fl') 28 (hks.block HFr.out) (by rw [HQ.out]; omega) ?_
          intro w13 hw13
          rw [HJ.out] at hw13
          have HB13 := Lib.hid ((HBr.out.kept hks).1.wrote hw13 (.inl rfl) HFL)
          have HF13 := Lib.hid hw13.blk
          have HN13 := Lib.hid ((hw13.oth bN (Ne.symm hFN)).trans (hks.block HNr.out))
          have HO13 := Lib.hid ((HOr.out.kept hks).wrote hw13 (hks.block HFr.out) (by decide))
          have HL13 : Hid (L24 (fl'.set c xs)) := Lib.hid (HL'.out.set c H64.out)
          have HFL13 : Hid (fl'.set c xs = crF (m : Int) nw O fl (j + 1)) := Lib.hid (by rw [HCS.out, if_pos rfl])
          clear hw13 hks hhs ck ck' HBr HFr HNr HOr HSL HJ HQ HFL' HL' HCS hbit hy
          go_wp2
          go_roundw
          case rel => exact ⟨j + 1, _, hjl, by go_num, HFL13, HL13, HB13, HF13, HN13, HO13⟩
          case measure => simp [intOf]; omega
        · have HFL13 : Hid (fl' = crF (m : Int) nw O fl (j + 1)) := Lib.hid (by rw [HCS.out, if_neg (by decide)])
          clear HSL HJ HQ HFL' HCS ck
          go_wp2
          go_roundw
          case rel => exact ⟨j + 1, _, hjl, by go_num, HFL13, HL', HBr, HFr, HNr, HOr⟩
          case measure => simp [intOf]; omega
      · have hje : j = O.length := by omega
        subst hje
        have HR2 : Hid (∀ d k : Nat, d < 3 → k < 8 → T2.read (d : Int) (k : Int) = (fl'.getD (8 * d + k) [], 0)) := Lib.hid (by rw [HFL'.out]; exact HR.out)
        clear HFL' HR HCR HOr HNr HLN HLF
        go_wp2
        go_loopw [20] (fun i wr => ∃ k : Nat, k ≤ 24 ∧ i = .int .i64 k ∧ Hid (BK w (fun b => b = bF ∨ b = bN ∨ (Value.slice ao O.length cp).ownBlock = some b) wr q T2) ∧ Hid (wr.heap[bF]? = some (.cells (secs fl').toArray 28 (0, 0)))) (fun i _ => 24 - (intOf i).toNat)
        case atStart => exact ⟨0, Nat.zero_le _, rfl, HBr, HFr⟩
        case round =>
          obtain ⟨k, hk, rfl, HB, HBl⟩ := hrel
          by_cases hlt : k < 24
          · have hdq : ((k : Int) / 8) = ((k / 8 : Nat) : Int) := by omega
            obtain ⟨a, ha, hal⟩ := and_low (k : Int) 3 (by decide) (m := 7) (by decide)
            have ha2 : a = k % 8 := by
              have h1 := i64_and_mask (k : Int) 3 (by decide)
              rw [show (2 : Int) ^ 3 - 1 = 7 by decide, ha] at h1
              omega
            have hd3 : k / 8 < 3 := by omega
            have hka : 8 * (k / 8) + a = k := by omega
            have hrd := HR2.out (k / 8) a hd3 (by omega)
            rw [hka] at hrd
            have HRD := Lib.hid hrd
            have hx64 : (fl'.getD k []).length = 64 := HL'.out.at hlt
            have HX64 := Lib.hid hx64
            have HSL := Lib.hid (cells_sec (Cells.of_block HBl.out) HL'.out.2 (a := k) (by rw [HL'.out.1]; exact hlt))
            generalize k / 8 = d at *
            generalize hxs : fl'.getD k [] = xs at *
            clear hrd hx64 ha2 hka hxs
            go_wp2_with fail
            refine Calls.mono (st_read HB.out HU2.out (d : Int) (a : Int) HRD.out) ?_
            rintro e w13 ⟨rfl, hb13, hk13⟩
            have HB13 := Lib.hid hb13
            have HBl13 := Lib.hid (hk13.block HBl.out)
            have HSL13 := Lib.hid (HSL.out.kept hk13)
            clear hb13 hk13 HB HBl HSL
            go_wp2_with (refine stop_at (o := ⟨some 21, _, _, _, _, _⟩) ?_)
            refine Stop.mk ?_
            refine wpList_new_row rfl rfl _ _ rfl rfl ty_sec (u8s zeroB) zero_sec (by rw [u8s_length, zeroB_length]) (u8s xs) rfl (by rw [u8s_length, HX64.out]) (u8s_one _) rfl ?_
            intro w14 hz14 hs14 hk14
            have HB14 := Lib.hid (HB13.out.kept hk14).1
            have HBl14 := Lib.hid (hk14.block HBl13.out)
            have HSL14 := Lib.hid (HSL13.out.kept hk14)
            clear hs14 hk14 HB13 HBl13 HSL13
            have HX := hz14; clear hz14
            have cx : Hid (Cells w14 w13.heap.size 0 (u8s xs)) := Lib.hid (by simpa using Cells.of_block HX.out)
            go_wp2
            refine wp_still_all (by kernel_rfl) (by kernel_rfl) fun ws hks hhs => ?_
            iterate 3 still_step
            refine still_load_agg rfl _ rfl ty_sec w13.heap.size 0 rfl _ (cx.out.kept hks) (by rw [u8s_length, HX64.out]) ?_
            iterate 2 still_step
            refine still_load_agg rfl _ rfl ty_sec bF (k * 64) rfl _ (HSL14.out.kept hks) (by rw [u8s_length, HX64.out]) ?_
            refine still_neq_sec rfl _ _ rfl xs xs rfl rfl HX64.out HX64.out ?_
            rw [show (xs == xs) = true by simp]
            iterate 1 still_step
            refine wpStill_nil ?_
            have HB15 := Lib.hid (HB14.out.kept hks).1
            have HBl15 := Lib.hid (hks.block HBl14.out)
            clear hks hhs HB14 HBl14
            go_wp2
            go_roundw
            case rel => exact ⟨k + 1, hlt, by go_num, HB15, HBl15⟩
            case measure => simp [intOf]; omega
          · have hk24 : k = 24 := by omega
            have HK := Lib.hid HB.out.keeps
            go_wp2
            go_ret
            exact ⟨rfl, HK.out⟩
end
end Go.Proofs.Ytfnjgcmghfnjhaa
