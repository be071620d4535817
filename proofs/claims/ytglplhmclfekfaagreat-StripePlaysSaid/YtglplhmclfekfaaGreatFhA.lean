/- FhA: several texts in one: Pca Pcb Pcp Pcd Pcc Pce Pcf Pcg. -/
import Derived.Test.YtglplhmclfekfaaGreatFcA
import Derived.Test.YtglplhmclfekfaaGreatRsl
import Derived.Test.YtglplhmclfekfaaGreatFgA
import Derived.Test.YtglplhmclfekfaaGreatDlh
import Derived.Test.YtglplhmclfekfaaGreatStq
import Derived.ProofKit
import Derived.OpenShut
import Derived.ChangeOld
import Derived.Deep.Slices
import Derived.Deep.Fields
import Derived.Deep.DeepCutAuto
/- ref13 on the document's bank: what is read at some places (plain part), and Xor and Build of ref11. -/
namespace Go.Proofs.YtglplhmclfekfaaGreat
open Go.RowKit
set_option linter.unusedVariables false
set_option linter.unusedSimpArgs false

/-- what is read at some places; the first error that is not of a lost place, or 5 -/
def BankT.gatherL (T : BankT) : List (Int × Int) → List (List Int) → Bool → List (List Int) × Int
  | [], acc, f => if f then ([], 5) else (acc, 0)
  | p :: l, acc, f => if (T.read p.1 p.2).2 = 0 then BankT.gatherL T l (acc ++ [(T.read p.1 p.2).1]) f else if lostB (T.read p.1 p.2).2 then BankT.gatherL T l acc true else ([], (T.read p.1 p.2).2)
theorem joinL_true {T : BankT} : ∀ (l : List (Int × Int)) (out : List Int) (acc : List (List Int)), T.joinL l out true = (zeroB, (T.gatherL l acc true).2) ∧ (T.gatherL l acc true).2 ≠ 0
  | [], out, acc => by simp [BankT.joinL, BankT.gatherL]
  | p :: l, out, acc => by
    unfold BankT.joinL BankT.gatherL
    by_cases h0 : (T.read p.1 p.2).2 = 0
    · have hl : lostB (T.read p.1 p.2).2 = false := by rw [h0]; rfl
      rw [if_neg (by rw [hl]; simp), if_neg (by simpa using h0), if_pos h0]
      exact joinL_true l _ _
    · rw [if_neg h0]
      by_cases hl : lostB (T.read p.1 p.2).2 = true
      · rw [if_pos hl, if_pos hl]; exact joinL_true l _ _
      · rw [if_neg hl, if_pos h0, if_neg hl]; exact ⟨rfl, h0⟩
theorem joinL_gather {T : BankT} (h : T.Inv) {o : List Int} (ho : IsSec o) : ∀ (l : List (Int × Int)) (acc : List (List Int)), (∀ s ∈ acc, IsSec s) →
    T.joinL l (xorS o (xorL acc)) false = if (T.gatherL l acc false).2 = 0 then (xorS o (xorL (T.gatherL l acc false).1), 0) else (zeroB, (T.gatherL l acc false).2)
  | [], acc, ha => by simp [BankT.joinL, BankT.gatherL]
  | p :: l, acc, ha => by
    have hs := BankT.read_sec h p.1 p.2
    unfold BankT.joinL BankT.gatherL
    by_cases h0 : (T.read p.1 p.2).2 = 0
    · have hl : lostB (T.read p.1 p.2).2 = false := by rw [h0]; rfl
      rw [if_neg (by rw [hl]; simp), if_neg (by simpa using h0), if_pos h0, xorS_assoc, ← xorL_snoc]
      refine joinL_gather h ho l _ fun s hs' => ?_
      rcases List.mem_append.1 hs' with hs' | hs'
      · exact ha s hs'
      · rw [List.mem_singleton.1 hs']; exact hs
    · rw [if_neg h0]
      by_cases hl : lostB (T.read p.1 p.2).2 = true
      · rw [if_pos hl, if_pos hl]
        obtain ⟨e1, e2⟩ := joinL_true (T := T) l (xorS (xorS o (xorL acc)) (T.read p.1 p.2).1) acc
        rw [if_neg e2, e1]
      · rw [if_neg hl, if_pos h0, if_neg hl, if_neg h0]
theorem gatherL_sec {T : BankT} (h : T.Inv) : ∀ (l : List (Int × Int)) (acc : List (List Int)) (f : Bool), (∀ s ∈ acc, IsSec s) → ∀ s ∈ (T.gatherL l acc f).1, IsSec s
  | [], acc, f, ha => by
    unfold BankT.gatherL
    split
    · intro s hs; cases hs
    · exact ha
  | p :: l, acc, f, ha => by
    have hs := BankT.read_sec h p.1 p.2
    unfold BankT.gatherL
    split
    · refine gatherL_sec h l _ _ fun s hs' => ?_
      rcases List.mem_append.1 hs' with hs' | hs'
      · exact ha s hs'
      · rw [List.mem_singleton.1 hs']; exact hs
    · split
      · exact gatherL_sec h l _ _ ha
      · intro s hs; cases hs
theorem gatherL_len {T : BankT} : ∀ (l : List (Int × Int)) (acc : List (List Int)) (f : Bool), (T.gatherL l acc f).1.length ≤ acc.length + l.length
  | [], acc, f => by
    unfold BankT.gatherL
    split
    · simp
    · simp
  | p :: l, acc, f => by
    unfold BankT.gatherL
    split
    · have := gatherL_len (T := T) l (acc ++ [(T.read p.1 p.2).1]) f
      simp at this ⊢; omega
    · split
      · have := gatherL_len (T := T) l acc true
        simp at this ⊢; omega
      · simp
/-- what ref13's read and Build tell of some places -/
theorem joinL_doc {T : BankT} (h : T.Inv) (l : List (Int × Int)) : T.joinL l zeroB false = if (T.gatherL l [] false).2 = 0 then (xorL (T.gatherL l [] false).1, 0) else (zeroB, (T.gatherL l [] false).2) := by
  have hz : xorS zeroB (xorL []) = zeroB := xorS_zero zeroB_sec1
  have h1 := joinL_gather h zeroB_sec1 l [] (fun s hs => by cases hs)
  rw [hz] at h1
  rw [h1]
  split
  · rw [xorS_comm, xorS_zero (xorL_sec (gatherL_sec h l [] false fun s hs => by cases hs))]
  · rfl
theorem joinL_docS {T : BankT} (h : T.Inv) {s : List Int} (hs : IsSec s) (l : List (Int × Int)) : T.joinL l s false = if (T.gatherL l [] false).2 = 0 then (xorL ((T.gatherL l [] false).1 ++ [s]), 0) else (zeroB, (T.gatherL l [] false).2) := by
  have h1 := joinL_gather h hs l [] (fun s hs => by cases hs)
  rw [show xorS s (xorL []) = s from xorS_zero hs] at h1
  rw [h1, xorL_snoc, xorS_comm]
/-- the own block of v, if there is one, lies from n on -/
def From (n : Nat) (v : Value) : Prop := ∀ g, v.ownBlock = some g → n ≤ g
/-- '[]api.Sector{}' -/
theorem wpList_empty_sec {ops : Array Oper} {rest : List Oper} {o : Oper} {a : Act} {w : World} {Q : Exit → Act → World → Prop} (hg : o.guard = none) (ho : o.op = .buildSlice 56 0 #[])
    (h : ∀ w1 v, SL w1 v [] → From w.heap.size v → Kept w w1 → wpList Tryz.prog ops Q rest (a.put o.dst v) w1) : wpList Tryz.prog ops Q (o :: rest) a w := by
  have h1 := secs_info
  cases hi : Tryz.prog.info? 43 with
  | none => simp [hi] at h1
  | some i =>
    simp only [hi, Option.map_some, Option.some.injEq, Prod.mk.injEq] at h1
    have hr : (Instr.buildSlice 56 0 #[]).run Tryz.prog w = .ok (.slice (some ⟨w.heap.size, 0, none⟩) 0 0) (w.alloc (.cells #[] 43)) := by
      simp [Instr.buildSlice, run_underlying Tryz.underlying56, sizeOf, typeInfo, hi, Instr.fill, newRow, show Array.range 0 = #[] from rfl]
    refine wpList_plain hg fun K hK => ?_
    unfold Oper.wp execOp
    simp only [ho, List.map_toArray, List.map_nil, Sem.run_bind, hr, Result.andThen_ok, Sem.run_pure]
    exact hK _ _ (h _ _ ⟨ownsRow_base (owns_empty w 43 64) (Nat.zero_le _), fun s hs => by cases hs⟩ (fun g hg => by simp [Value.ownBlock] at hg; omega) ((Kept.refl _).alloc _))
/-- the first k bytes of the exclusive or, noughts behind them -/
def xorTo (a b : List Int) (k : Nat) : List Int := xorS (a.take k) (b.take k) ++ zeroB.drop k
theorem xorTo_zero (a b : List Int) : xorTo a b 0 = zeroB := by simp [xorTo, xorS]
theorem xorTo_all {a b : List Int} (ha : a.length = 64) (hb : b.length = 64) : xorTo a b 64 = xorS a b := by
  unfold xorTo
  rw [List.take_of_length_le (by omega), List.take_of_length_le (by omega), List.drop_eq_nil_of_le (by rw [zeroB_length]; omega), List.append_nil]
theorem xorTo_len {a b : List Int} (ha : a.length = 64) (hb : b.length = 64) {k : Nat} (hk : k ≤ 64) : (xorTo a b k).length = 64 := by
  unfold xorTo xorS
  simp [ha, hb, zeroB_length]; omega
theorem xorTo_succ {a b : List Int} (ha : a.length = 64) (hb : b.length = 64) {k : Nat} (hk : k < 64) : (xorTo a b k).set k (xorI (a[k]'(by omega)) (b[k]'(by omega))) = xorTo a b (k + 1) := by
  unfold xorTo
  have hl : (xorS (a.take k) (b.take k)).length = k := by simp [xorS, ha, hb]; omega
  rw [List.set_append_right _ _ (by omega), hl, Nat.sub_self]
  have hd : zeroB.drop k = zeroB[k]'(by rw [zeroB_length]; omega) :: zeroB.drop (k + 1) := List.drop_eq_getElem_cons (by rw [zeroB_length]; omega)
  rw [hd, List.set_cons_zero]
  have e : xorS (a.take (k + 1)) (b.take (k + 1)) = xorS (a.take k) (b.take k) ++ [xorI (a[k]'(by omega)) (b[k]'(by omega))] := by
    unfold xorS
    rw [List.take_succ_eq_append_getElem (by omega), List.take_succ_eq_append_getElem (by omega), List.zipWith_append (by simp [ha, hb])]
    rfl
  rw [e, List.append_assoc, List.singleton_append]
section
variable {w : World}
set_option maxHeartbeats 2000000
set_option maxRecDepth 100000
theorem ref_Xor {a b : List Int} (ha : IsSec a) (hb : IsSec b) (w : World) :
    Calls Tryz.prog 87 #[.agg (u8s a).toArray, .agg (u8s b).toArray] w fun e w' => e = .returned (secV (xorS a b)) ∧ Kept w w' := by
  have HA := Lib.hid ha; have HB := Lib.hid hb
  have HZ := Lib.hid (xorS_sec ha hb)
  clear ha hb
  go_enter Tryz.func87, Tryz.ntmps87
  go_wp2_with (refine stop_at (o := ⟨some 2, _, _, _, _, _⟩) ?_)
  refine Stop.mk ?_
  refine wpList_box_rowS rfl _ _ rfl (u8s a) rfl ?_
  intro w1 hz hs hk
  have HXA1 := hz
  have HK1 := Lib.hid hk
  have HS1 := Lib.hid hs
  generalize hPA : w.heap.size = PA at *
  have HPE := Lib.hid hPA
  clear hPA hz hs hk
  go_wp2_with (refine stop_at (o := ⟨some 3, _, _, _, _, _⟩) ?_)
  refine Stop.mk ?_
  refine wpList_box_rowS rfl _ _ rfl (u8s b) rfl ?_
  intro w2 hz hs hk
  have HXB2 := hz
  have HXA2 := Lib.hid (hk.block HXA1.out)
  have HK2 := Lib.hid (HK1.out.trans hk)
  have HS2 := Lib.hid hs
  generalize w1.heap.size = PB at *
  clear hz hs hk HXA1 HK1
  go_wp2_with (refine stop_at (o := ⟨some 4, _, _, _, _, _⟩) ?_)
  refine Stop.mk ?_
  refine wpList_alloc_abs rfl 43 rfl (u8s zeroB) zero_sec ?_
  intro w3 hz hs hn hk
  have HR3 := hz
  have HXA3 := Lib.hid (hk.block HXA2.out)
  have HXB3 := Lib.hid (hk.block HXB2.out)
  have HK3 := Lib.hid (HK2.out.trans hk)
  have HS3 := Lib.hid hs
  generalize w2.heap.size = R at *
  clear hz hs hn hk HXA2 HXB2 HK2
  go_wp2_with (refine stop_at (o := ⟨some 7, _, _, _, _, _⟩) ?_)
  refine Stop.mk ?_
  refine wpList_zero_sec rfl rfl ?_
  go_wp2_with (refine stop_at (o := ⟨some 5, _, _, _, _, _⟩) ?_)
  refine Stop.mk ?_
  refine wpList_new_rowS rfl rfl _ _ rfl rfl ty_sec (u8s zeroB) zero_sec (by rw [u8s_length, zeroB_length]) (u8s zeroB) rfl (by rw [u8s_length, zeroB_length]) (u8s_one _) rfl ?_
  intro w4 hz hs hk
  have HO4 := hz
  have HR4 := Lib.hid (hk.block HR3.out)
  have HXA4 := Lib.hid (hk.block HXA3.out)
  have HXB4 := Lib.hid (hk.block HXB3.out)
  have HK4 := Lib.hid (HK3.out.trans hk)
  have HS4 := Lib.hid hs
  generalize w3.heap.size = O at *
  clear hz hs hk HR3 HXA3 HXB3 HK3
  go_wp2
  go_loopw [6] (fun i wr => ∃ k : Nat, k ≤ 64 ∧ i = .int .i64 k ∧ Hid (wr.heap[O]? = some (.cells (u8s (xorTo a b k)).toArray 43 (0, 0))) ∧ Hid (But (fun j => j = O) w4 wr)) (fun i _ => 64 - (intOf i).toNat)
  case atStart => exact ⟨0, Nat.zero_le _, rfl, Lib.hid (by rw [xorTo_zero]; exact HO4.out), Lib.hid (But.refl _ _)⟩
  case round =>
    obtain ⟨k, hk, rfl, HR, HU⟩ := hrel
    by_cases hlt : k < 64
    · have hka : k < a.length := by rw [HA.out.1]; exact hlt
      have hkb : k < b.length := by rw [HB.out.1]; exact hlt
      have hkf : k < (xorTo a b k).length := by rw [xorTo_len HA.out.1 HB.out.1 hk]; exact hlt
      have c1 := u8s_at (HU.out.blk (show PA ≠ O by have := HS1.out; have := HS2.out; have := HS3.out; omega) HXA4.out) hka
      have c2 := u8s_at (HU.out.blk (show PB ≠ O by have := HS2.out; have := HS3.out; omega) HXB4.out) hkb
      have hx : bits .xor .u8 a[k] b[k] = xorI a[k] b[k] := bits_xorI (HA.out.2 _ (List.getElem_mem hka)) (HB.out.2 _ (List.getElem_mem hkb))
      have HSU := Lib.hid (xorTo_succ HA.out.1 HB.out.1 hlt)
      have HLN := Lib.hid hkf
      generalize a[k]'hka = x at *
      generalize b[k]'hkb = y at *
      clear hka hkb hkf
      go_wp2
      refine wp_still_tail 9 (by kernel_rfl) (by kernel_rfl) fun ws hks hhs => ?_
      have c1 := hks.cell' c1
      have c2 := hks.cell' c2
      have HRS := Lib.hid (hks.block HR.out)
      have HUS := Lib.hid (HU.out.keep hks)
      simp only [List.take_succ_cons, List.take_zero, List.drop_succ_cons, List.drop_zero]
      iterate 9 still_step
      refine wpStill_nil ?_
      refine wpList_set_cell rfl _ _ rfl size_u8 O k rfl (.int .u8 (xorI x y)) (by first | rfl | (simp only [hx]; rfl) | simp [hx]) rfl rfl _ _ HRS.out (by rw [u8s_length]; exact HLN.out) ?_
      intro w5 hw
      rw [u8s_set, HSU.out] at hw
      have HR2 := Lib.hid hw.blk
      have HU2 := Lib.hid (HUS.out.trans (But.wrote (S := fun j => j = O) hw rfl))
      clear hw HR HU HRS HUS c1 c2 hx HSU HLN hks hhs
      go_wp2
      go_roundw
      case rel => exact ⟨k + 1, hlt, by go_num, HR2, HU2⟩
      case measure => simp [intOf]; omega
    · have : k = 64 := by omega
      subst this
      have HRX : Hid (wr.heap[O]? = some (.cells (u8s (xorS a b)).toArray 43 (0, 0))) := Lib.hid (by have := HR.out; rw [xorTo_all HA.out.1 HB.out.1] at this; exact this)
      have HR5 := Lib.hid (HU.out.blk (show R ≠ O by have := HS3.out; omega) HR4.out)
      have HK5 : Hid (Kept w wr) := Lib.hid (But.to_kept HK4.out HU.out (fun i hi => by subst hi; have := HPE.out; have := HS1.out; have := HS2.out; have := HS3.out; omega))
      clear HR HU
      go_wp2_with (refine stop_at (o := ⟨some 21, _, _, _, _, _⟩) ?_)
      refine Stop.mk ?_
      refine wpList_load_agg rfl _ rfl ty_sec O 0 rfl (u8s (xorS a b)) (by simpa using Cells.of_block HRX.out) (by rw [u8s_length, HZ.out.1]) ?_
      go_wp2_with (refine stop_at (o := ⟨none, .store _ _ _, _, _, _, _⟩) ?_)
      refine Stop.mk ?_
      refine wpList_store_agg rfl _ _ rfl ty_sec R 0 rfl (u8s (xorS a b)) rfl (by rw [u8s_length, HZ.out.1]) (u8s_one _) _ _ HR5.out (by rw [u8s_length, zeroB_length]; decide) ?_
      intro w9 hw
      replace hw := hw.all (by rw [u8s_length, u8s_length, HZ.out.1, zeroB_length])
      have HK9 := Lib.hid (hw.kept HK5.out (by have := HPE.out; have := HS1.out; have := HS2.out; omega))
      have HW := Lib.hid hw
      clear hw
      go_wp2
      refine bodyPost_ret (results_sec1 rfl _ _ R (xorS a b) rfl HW.out.cells HZ.out.1) rfl ?_
      exact ⟨rfl, HK9.out⟩
theorem ref_Build {v : Value} {L : List (List Int)} (h : SecSl w v L) (hs : ∀ s ∈ L, IsSec s) (hn : L.length ≤ 100000) :
    Calls Tryz.prog 65 #[v] w fun e w' => e = .returned (secV (xorL L)) ∧ Kept w w' := by
  obtain ⟨oa, cap, rfl, h⟩ := h
  have HH := Lib.hid h; have HS := Lib.hid hs
  have HZ := Lib.hid (xorL_sec hs)
  clear h hs
  go_enter Tryz.func65, Tryz.ntmps65
  go_wp2_with (refine stop_at (o := ⟨some 2, _, _, _, _, _⟩) ?_)
  refine Stop.mk ?_
  refine wpList_alloc_abs rfl 43 rfl (u8s zeroB) zero_sec ?_
  intro w1 hz hs hn1 hk
  have HR1 := hz
  have HK1 := Lib.hid hk
  have HS1 := Lib.hid hs
  generalize hR : w.heap.size = R at *
  have HRE := Lib.hid hR
  clear hz hs hn1 hk hR
  go_wp2_with (refine stop_at (o := ⟨some 5, _, _, _, _, _⟩) ?_)
  refine Stop.mk ?_
  refine wpList_zero_sec rfl rfl ?_
  go_wp2_with (refine stop_at (o := ⟨some 3, _, _, _, _, _⟩) ?_)
  refine Stop.mk ?_
  refine wpList_new_rowS rfl rfl _ _ rfl rfl ty_sec (u8s zeroB) zero_sec (by rw [u8s_length, zeroB_length]) (u8s zeroB) rfl (by rw [u8s_length, zeroB_length]) (u8s_one _) rfl ?_
  intro w2 hz hs hk
  have HO2 := hz
  have HR2 := Lib.hid (hk.block HR1.out)
  have HK2 := Lib.hid (HK1.out.trans hk)
  generalize w1.heap.size = O at *
  clear hz hs hk HR1 HK1
  go_wp2
  go_loopw [4] (fun i wr => ∃ k : Nat, k ≤ L.length ∧ i = .int .i64 k ∧ Hid (wr.heap[O]? = some (.cells (u8s (xorL (L.take k))).toArray 43 (0, 0))) ∧ Hid (But (fun j => j = O) w2 wr)) (fun i _ => L.length - (intOf i).toNat)
  case atStart => exact ⟨0, Nat.zero_le _, rfl, Lib.hid (by simpa [xorL] using HO2.out), Lib.hid (But.refl _ _)⟩
  case round =>
    obtain ⟨k, hk, rfl, HR, HU⟩ := hrel
    by_cases hlt : k < L.length
    · obtain ⟨b, off, rfl, hbl, hc⟩ := HH.out k hlt
      have HSK := Lib.hid (HS.out _ (List.getElem_mem hlt))
      have HXK := Lib.hid (xorL_sec (L := L.take k) (fun s hs => HS.out s (List.mem_of_mem_take hs)))
      have HXN : Hid (xorL (L.take (k + 1)) = xorS (xorL (L.take k)) L[k]) := Lib.hid (by rw [List.take_succ_eq_append_getElem hlt, xorL_snoc])
      have HCC := Lib.hid (HU.out.cells (by have := HK2.out.size; have := HRE.out; omega) (by have := HS1.out; have := HRE.out; omega) (Cells.kept hc HK2.out))
      have hk0 : (0 : Int) ≤ (k : Int) := by omega
      have hk1 : (k : Int) < (L.length : Int) := by omega
      have hkw : IntKind.i64.wrap (k : Int) = (k : Int) := IntWalk.i64_in _ (by omega)
      have HLT := Lib.hid hlt
      clear hc hbl HH
      generalize L[k]'hlt = s at *
      generalize xorL (L.take k) = x at *
      go_wp2
      refine wp_still_tail 5 (by kernel_rfl) (by kernel_rfl) fun ws hks hhs => ?_
      have HR3 := Lib.hid (hks.block HR.out)
      have HC3 := Lib.hid (Cells.kept HCC.out hks)
      have HU3 := Lib.hid (HU.out.keep hks)
      simp only [List.take_succ_cons, List.take_zero, List.drop_succ_cons, List.drop_zero]
      refine still_load_agg rfl _ rfl ty_sec O 0 rfl (u8s x) (by simpa using Cells.of_block HR3.out) (by rw [u8s_length, HXK.out.1]) ?_
      iterate 3 still_step
      refine still_load_agg rfl _ rfl ty_sec b (off + k * 64) rfl (u8s s) HC3.out (by rw [u8s_length, HSK.out.1]) ?_
      refine wpStill_nil ?_
      clear hks hhs HR HCC HU
      go_wp2_with fail
      refine Calls.mono (ref_Xor HXK.out HSK.out _) ?_
      rintro e w5 ⟨rfl, hk5⟩
      have HR5 := Lib.hid (hk5.block HR3.out)
      have HU5 := Lib.hid (HU3.out.keep hk5)
      have HZ5 := Lib.hid (xorS_sec HXK.out HSK.out)
      clear hk5 HR3 HU3
      go_wp2_with (refine stop_at (o := ⟨none, .store _ _ _, _, _, _, _⟩) ?_)
      refine Stop.mk ?_
      refine wpList_store_agg rfl _ _ rfl ty_sec O 0 rfl (u8s (xorS x s)) rfl (by rw [u8s_length, HZ5.out.1]) (u8s_one _) _ _ HR5.out (by rw [u8s_length, HXK.out.1]; decide) ?_
      intro w6 hw
      replace hw := hw.all (by rw [u8s_length, u8s_length, HZ5.out.1, HXK.out.1])
      rw [← HXN.out] at hw
      have HR6 := Lib.hid hw.blk
      have HU6 := Lib.hid (HU5.out.trans (But.wrote (S := fun j => j = O) hw rfl))
      clear hw HR5 HU5 HXN HXK HSK
      go_wp2
      go_roundw
      case rel => exact ⟨k + 1, HLT.out, by go_num, HR6, HU6⟩
      case measure => simp [intOf]; have := HLT.out; omega
    · have hkl : k = L.length := by omega
      subst hkl
      have HRX : Hid (wr.heap[O]? = some (.cells (u8s (xorL L)).toArray 43 (0, 0))) := Lib.hid (by have := HR.out; rw [List.take_length] at this; exact this)
      have HR5 := Lib.hid (HU.out.blk (show R ≠ O by have := HS1.out; omega) HR2.out)
      have HK5 : Hid (Kept w wr) := Lib.hid (But.to_kept HK2.out HU.out (fun i hi => by subst hi; have := HRE.out; have := HS1.out; omega))
      clear HR HU HH
      go_wp2_with (refine stop_at (o := ⟨some 18, _, _, _, _, _⟩) ?_)
      refine Stop.mk ?_
      refine wpList_load_agg rfl _ rfl ty_sec O 0 rfl (u8s (xorL L)) (by simpa using Cells.of_block HRX.out) (by rw [u8s_length, HZ.out.1]) ?_
      go_wp2_with (refine stop_at (o := ⟨none, .store _ _ _, _, _, _, _⟩) ?_)
      refine Stop.mk ?_
      refine wpList_store_agg rfl _ _ rfl ty_sec R 0 rfl (u8s (xorL L)) rfl (by rw [u8s_length, HZ.out.1]) (u8s_one _) _ _ HR5.out (by rw [u8s_length, zeroB_length]; decide) ?_
      intro w9 hw
      replace hw := hw.all (by rw [u8s_length, u8s_length, HZ.out.1, zeroB_length])
      have HK9 := Lib.hid (hw.kept HK5.out (by have := HRE.out; omega))
      have HW := Lib.hid hw
      clear hw
      go_wp2
      refine bodyPost_ret (results_sec1 rfl _ _ R (xorL L) rfl HW.out.cells HZ.out.1) rfl ?_
      exact ⟨rfl, HK9.out⟩
end
end Go.Proofs.YtglplhmclfekfaaGreat
/- ref13 on the document's bank: read. -/
namespace Go.Proofs.YtglplhmclfekfaaGreat
open Go.RowKit
set_option linter.unusedVariables false
set_option linter.unusedSimpArgs false

theorem SL.sl {W : World} {v : Value} {L : List (List Int)} (h : SL W v L) : SecSl W v L := by
  obtain ⟨ao, cap, rfl, hf⟩ := h.form
  refine ⟨ao, cap, rfl, fun k hk => ?_⟩
  obtain ⟨g, rfl, hc, hl⟩ := hf k hk
  refine ⟨g, 0, rfl, ?_, by rw [Nat.zero_add]; exact hc⟩
  have h0 := hc 0 (by rw [u8s_length, hl]; decide)
  by_cases hg : g < W.heap.size
  · exact hg
  · rw [World.cell?, Array.getElem?_eq_none (by simpa using hg)] at h0
    simp at h0
theorem From.grw {W W' : World} {v v' : Value} {n : Nat} (h : From n v) (hg : Grw W W' v v') (hn : n ≤ W.heap.size) : From n v' := fun g hb => by
  rcases hg with ⟨e, _⟩ | ⟨g', e, h1, _, _⟩
  · exact h g (e ▸ hb)
  · rw [e] at hb; cases hb; omega
theorem Grw.keeps {w W W' : World} {v v' : Value} (h : Grw W W' v v') (hk : Kept w W) (hf : From w.heap.size v) : Kept w W' := by
  rcases h with ⟨_, hb⟩ | ⟨_, _, _, _, hk'⟩
  · exact But.to_kept hk hb fun i hi => hf i hi
  · exact hk.trans hk'
section
variable {w0 W : World} {R : Nat → Prop} {q : Nat} {B : BankT}
set_option maxHeartbeats 4000000
set_option maxRecDepth 100000
theorem s13_read (h : RB w0 R W q B) (u : B.Doc) {v : Value} {L : List (Int × Int)} (hv : ESl W v L) (hl : L.length ≤ 1000) :
    Calls Tryz.prog 68 #[.pointer (some ⟨q, 0, none⟩), v] W fun e w' => ∃ r, e = .returned (.tuple #[r, .int .i64 (B.gatherL L [] false).2]) ∧ SL w' r (B.gatherL L [] false).1 ∧ From W.heap.size r ∧ Kept W w' := by
  have HV := Lib.hid hv; have HI := Lib.hid u.inv
  have HRD := Lib.hid (fun (W' : World) (x y : Int) (hk : Kept W W') => rb_Read (h.kept hk).1 u x y)
  obtain ⟨acc0, rc, hres⟩ : ∃ acc0 rc, B.gatherL L [] false = (acc0, rc) := ⟨_, _, rfl⟩
  rw [hres]
  have HRES := Lib.hid hres
  obtain ⟨oa, cap, rfl, _⟩ := hv
  clear h u hres
  have HVK : Hid (∀ k, k < L.length → ∃ b off, oa = some ⟨b, off, none⟩ ∧ b < W.heap.size ∧ W.cell? ⟨b, off + k * 2, none⟩ = some (.int .i64 (L.getD k (0, 0)).1) ∧ W.cell? ⟨b, off + k * 2 + 1, none⟩ = some (.int .i64 (L.getD k (0, 0)).2)) := Lib.hid (by
    obtain ⟨oa', cap', e, hh⟩ := HV.out
    cases e
    exact hh)
  clear HV
  go_enter Tryz.func68, Tryz.ntmps68
  go_wp2_with (refine stop_at (o := ⟨some 12, _, _, _, _, _⟩) ?_)
  refine Stop.mk ?_
  refine wpList_empty_sec rfl rfl ?_
  intro w1 v0 hsl hf hk
  have HK1 := Lib.hid hk
  have HS1 := Lib.hid hsl
  have HF1 := Lib.hid hf
  clear hsl hf hk
  go_wp2
  go_loopw [6, 7, 8] (fun o g i wr => ∃ (k n : Nat) (acc : List (List Int)), k ≤ L.length ∧ i = .int .i64 k ∧ g = .int .i64 n ∧ n ≤ k ∧ Hid (SL wr o acc) ∧ Hid (From W.heap.size o) ∧ acc.length ≤ k ∧ Hid (B.gatherL (L.drop k) acc (decide (0 < n)) = (acc0, rc)) ∧ Hid (Kept W wr)) (fun _ _ i _ => L.length - (intOf i).toNat)
  case atStart => exact ⟨0, 0, [], Nat.zero_le _, rfl, rfl, Nat.le_refl _, HS1, HF1, Nat.le_refl _, Lib.hid (by rw [List.drop_zero]; exact HRES.out), HK1⟩
  case round =>
    obtain ⟨k, n, acc, hk, rfl, rfl, hn, HS, HF, hacc, HJ, HK⟩ := hrel
    by_cases hlt : k < L.length
    · obtain ⟨b, off, rfl, hbl, c0, c1⟩ := HVK.out k hlt
      have d0 := HK.out.cell' c0
      have d1 := HK.out.cell' c1
      have HJ2 : Hid (B.gatherL ((L.getD k (0, 0)) :: L.drop (k + 1)) acc (decide (0 < n)) = (acc0, rc)) := Lib.hid (by
        have := HJ.out
        rw [List.drop_eq_getElem_cons hlt] at this
        rw [show L.getD k (0, 0) = L[k] by rw [List.getD_eq_getElem?_getD, List.getElem?_eq_getElem hlt]; rfl]
        exact this)
      clear c0 c1 hbl HVK HJ
      generalize L.getD k (0, 0) = p at *
      obtain ⟨x, y⟩ := p
      have HC : Hid (Cells wr b (off + k * 2) [.int .i64 x, .int .i64 y]) := Lib.hid (fun j hj => by
        have hj2 : j < 2 := hj
        have : j = 0 ∨ j = 1 := by omega
        rcases this with rfl | rfl
        · exact d0
        · exact d1)
      clear d0 d1
      have hrd := HRD.out wr x y HK.out
      obtain ⟨sx, c, hr⟩ : ∃ sx c, B.read x y = (sx, c) := ⟨_, _, rfl⟩
      have HSX : Hid (IsSec sx) := Lib.hid (by have := BankT.read_sec HI.out x y; rw [hr] at this; exact this)
      have HJ3 : Hid ((if c = 0 then B.gatherL (L.drop (k + 1)) (acc ++ [sx]) (decide (0 < n)) else if lostB c then B.gatherL (L.drop (k + 1)) acc true else ([], c)) = (acc0, rc)) := Lib.hid (by
        have := HJ2.out
        unfold BankT.gatherL at this
        simp only [hr] at this
        exact this)
      rw [hr] at hrd
      have HR := Lib.hid hrd
      clear hr HJ2 hrd
      have HLT := Lib.hid hlt
      have HNK := Lib.hid (And.intro hn hacc)
      go_wp2_with (refine stop_at (o := ⟨some 24, _, _, _, _, _⟩) ?_)
      refine Stop.mk ?_
      refine wpList_load_agg rfl _ rfl ty_plc b (off + k * 2) rfl [.int .i64 x, .int .i64 y] HC.out rfl ?_
      go_wp2_with fail
      refine Calls.mono HR.out ?_
      rintro e w3 ⟨rfl, hk3⟩
      have HS3 := Lib.hid (HS.out.kept hk3); have HK3 := Lib.hid (HK.out.trans hk3)
      clear hk3 HS HK HR HC
      go_wp2_with (refine stop_at (o := ⟨some 9, _, _, _, _, _⟩) ?_)
      refine Stop.mk ?_
      refine wpList_new_row rfl rfl _ _ rfl rfl ty_sec (u8s zeroB) zero_sec (by rw [u8s_length, zeroB_length]) (u8s sx) rfl (by rw [u8s_length, HSX.out.1]) (u8s_one _) rfl ?_
      intro w4 hz hs hk4
      have HX4 := hz; have HS4 := Lib.hid (HS3.out.kept hk4); have HK4 := Lib.hid (HK3.out.trans hk4)
      generalize w3.heap.size = Sb at *
      clear hz hs hk4 HS3 HK3
      by_cases hc0 : c = 0
      · subst hc0
        have HJ4 : Hid (B.gatherL (L.drop (k + 1)) (acc ++ [sx]) (decide (0 < n)) = (acc0, rc)) := Lib.hid (by have := HJ3.out; rw [if_pos rfl] at this; exact this)
        clear HJ3
        go_wp2_with (refine stop_at (o := ⟨some 31, _, _, _, _, _⟩) ?_)
        refine Stop.mk ?_
        refine wpList_load_agg rfl _ rfl ty_sec Sb 0 rfl (u8s sx) (by simpa using Cells.of_block HX4.out) (by rw [u8s_length, HSX.out.1]) ?_
        go_wp2_with (refine stop_at (o := ⟨some 32, _, _, _, _, _⟩) ?_)
        refine Stop.mk ?_
        refine wpList_one_sec rfl _ rfl sx HSX.out.1 rfl ?_
        intro w5 hz hs hk5
        have HZ5 := hz; have HS5 := Lib.hid (HS4.out.kept hk5); have HK5 := Lib.hid (HK4.out.trans hk5)
        generalize w4.heap.size = Zb at *
        clear hz hs hk5 HS4 HK4
        go_wp2_with (refine stop_at (o := ⟨some 33, _, _, _, _, _⟩) ?_)
        refine Stop.mk ?_
        refine wpList_append_sec rfl _ _ rfl acc rfl HS5.out (by have := HNK.out; have := HLT.out; omega) Zb rfl sx HSX.out.1 HZ5.out ?_
        intro v' w6 hv' hg
        have HS6 := Lib.hid hv'
        have HF6 := Lib.hid (HF.out.grw hg HK5.out.size)
        have HK6 := Lib.hid (hg.keeps HK5.out HF.out)
        clear hv' hg HS5 HK5 HZ5 HX4 HF
        go_wp2
        go_roundw
        case rel => exact ⟨k + 1, n, acc ++ [sx], HLT.out, by go_num, rfl, by have := HNK.out; omega, HS6, HF6, by rw [List.length_append]; have := HNK.out; simp; omega, HJ4, HK6⟩
        case measure => simp [intOf]; have := HLT.out; omega
      · have t1 : (c == 0) = false := by simpa using hc0
        go_wp2_with fail
        refine Calls.mono (doc_Lost c _) ?_
        rintro e w' ⟨rfl, rfl⟩
        by_cases hlost : lostB c = true
        · have HJ4 : Hid (B.gatherL (L.drop (k + 1)) acc (decide (0 < n + 1)) = (acc0, rc)) := Lib.hid (by have := HJ3.out; rw [if_neg hc0, if_pos hlost] at this; rw [show decide (0 < n + 1) = true by simp]; exact this)
          rw [hlost]
          clear HJ3
          go_wp2
          go_roundw
          case rel => exact ⟨k + 1, n + 1, acc, HLT.out, by go_num, by go_num, by have := HNK.out; omega, HS4, HF, by have := HNK.out; omega, HJ4, HK4⟩
          case measure => simp [intOf]; have := HLT.out; omega
        · have hlf : lostB c = false := by simpa using hlost
          have hj := HJ3.out
          rw [if_neg hc0, if_neg hlost] at hj
          injection hj with hj1 hj2
          subst hj1
          subst hj2
          rw [hlf]
          clear HJ3
          go_wp2
          go_ret2
          exact ⟨_, rfl, SL.nil _, fun g hg => by simp [Value.ownBlock] at hg, HK4.out⟩
    · have hkl : k = L.length := by omega
      have hj := HJ.out
      rw [List.drop_eq_nil_of_le (by omega)] at hj
      have HNK := Lib.hid (And.intro hn hk)
      clear HJ HVK
      by_cases h0 : 0 < n
      · have hd : decide (0 < n) = true := by simpa using h0
        rw [hd] at hj
        unfold BankT.gatherL at hj
        injection hj with hj1 hj2
        subst hj1
        subst hj2
        have h0i : (0 : Int) < (n : Int) := by omega
        have hlf : ¬ ((k : Int) < (L.length : Int)) := by omega
        go_wp2
        go_ret2
        exact ⟨_, rfl, SL.nil _, fun g hg => by simp [Value.ownBlock] at hg, HK.out⟩
      · have hd : decide (0 < n) = false := by simpa using h0
        rw [hd] at hj
        unfold BankT.gatherL at hj
        injection hj with hj1 hj2
        subst hj1
        subst hj2
        have h0n : n = 0 := by omega
        subst h0n
        go_wp2
        go_ret2
        exact ⟨_, rfl, HS.out, HF.out, HK.out⟩
end
end Go.Proofs.YtglplhmclfekfaaGreat
/- ref11's Plug (gen_pcp.py); a slice's front; a row of cells that an append does not touch. -/
namespace Go.Proofs.YtglplhmclfekfaaGreat
open Go.RowKit
set_option linter.unusedVariables false
set_option linter.unusedSimpArgs false

theorem ESl.front {w : World} {oa : Option Addr} {cap : Nat} {D : List (Int × Int)} {p : Int × Int} (h : ESl w (.slice oa (D.length + 1) cap) (D ++ [p])) : ESl w (.slice oa D.length cap) D := by
  obtain ⟨oa', cap', e, hh⟩ := h
  injection e with e1 e2 e3
  subst e1
  subst e3
  refine ⟨_, _, rfl, fun k hk => ?_⟩
  obtain ⟨b, off, e, hb, c1, c2⟩ := hh k (by simp; omega)
  refine ⟨b, off, e, hb, ?_, ?_⟩
  · rw [c1, List.getD_eq_getElem?_getD, List.getElem?_append_left hk, ← List.getD_eq_getElem?_getD]
  · rw [c2, List.getD_eq_getElem?_getD, List.getElem?_append_left hk, ← List.getD_eq_getElem?_getD]
section
set_option maxHeartbeats 2000000
set_option maxRecDepth 100000
theorem ref_Plug {a b c : List Int} (ha : IsSec a) (hb : IsSec b) (hc : IsSec c) (w : World) :
    Calls Tryz.prog 71 #[.agg (u8s a).toArray, .agg (u8s b).toArray, .agg (u8s c).toArray] w fun e w' => e = .returned (secV (xorS (xorS a b) c)) ∧ Kept w w' := by
  have HA := Lib.hid ha; have HB := Lib.hid hb; have HC := Lib.hid hc
  have HY := Lib.hid (xorS_sec ha hb)
  have HZ := Lib.hid (xorS_sec (xorS_sec ha hb) hc)
  clear ha hb hc
  go_enter Tryz.func71, Tryz.ntmps71
  go_wp2_with (refine stop_at (o := ⟨some 3, _, _, _, _, _⟩) ?_)
  refine Stop.mk ?_
  refine wpList_box_rowS rfl _ _ rfl (u8s a) rfl ?_
  intro w1 hz hs hk
  have HPA := hz
  have HS0 := Lib.hid hs
  have HK1 := Lib.hid (hk)
  generalize hPA : w.heap.size = PA at *
  have HPE := Lib.hid hPA
  clear hPA
  clear hz hs hk
  go_wp2_with (refine stop_at (o := ⟨some 4, _, _, _, _, _⟩) ?_)
  refine Stop.mk ?_
  refine wpList_box_rowS rfl _ _ rfl (u8s b) rfl ?_
  intro w2 hz hs hk
  have HPB := hz
  have HS1 := Lib.hid hs
  replace HPA := Lib.hid (hk.block HPA.out)
  have HK2 := Lib.hid (HK1.out.trans hk)
  generalize w1.heap.size = PB at *
  clear hz hs hk HK1
  go_wp2_with (refine stop_at (o := ⟨some 5, _, _, _, _, _⟩) ?_)
  refine Stop.mk ?_
  refine wpList_box_rowS rfl _ _ rfl (u8s c) rfl ?_
  intro w3 hz hs hk
  have HPC := hz
  have HS2 := Lib.hid hs
  replace HPA := Lib.hid (hk.block HPA.out)
  replace HPB := Lib.hid (hk.block HPB.out)
  have HK3 := Lib.hid (HK2.out.trans hk)
  generalize w2.heap.size = PC at *
  clear hz hs hk HK2
  go_wp2_with (refine stop_at (o := ⟨some 6, _, _, _, _, _⟩) ?_)
  refine Stop.mk ?_
  refine wpList_alloc_abs rfl 43 rfl (u8s zeroB) zero_sec ?_
  intro w4 hz hs hn hk
  have HR := hz
  have HS3 := Lib.hid hs
  replace HPA := Lib.hid (hk.block HPA.out)
  replace HPB := Lib.hid (hk.block HPB.out)
  replace HPC := Lib.hid (hk.block HPC.out)
  have HK4 := Lib.hid (HK3.out.trans hk)
  generalize w3.heap.size = R at *
  clear hz hs hk hn HK3
  go_upto_region 1 with fail
  have hS : (fun W => W.heap[PA]? = some (.cells (u8s a).toArray 43 (0, 0)) ∧ W.heap[PB]? = some (.cells (u8s b).toArray 43 (0, 0)) ∧ W.heap[PC]? = some (.cells (u8s c).toArray 43 (0, 0))) w4.drew := ⟨(Kept.refl w4).drew.block HPA.out, (Kept.refl w4).drew.block HPB.out, (Kept.refl w4).drew.block HPC.out⟩
  have HRD := Lib.hid ((Kept.refl w4).drew.block HR.out)
  have HKD := Lib.hid (HK4.out.trans (Kept.refl w4).drew)
  clear HR HPA HPB HPC HK4
  refine wp_region_calm ?_
  refine wp_region_E (fun W => W.heap[PA]? = some (.cells (u8s a).toArray 43 (0, 0)) ∧ W.heap[PB]? = some (.cells (u8s b).toArray 43 (0, 0)) ∧ W.heap[PC]? = some (.cells (u8s c).toArray 43 (0, 0))) 100 (by kernel_rfl) ?_
  refine wpAnyE_take (i := 0) (v := (.agg (u8s a).toArray)) (listed' := #[true, false, false, false, false, false]) (by rfl) (by kernel_rfl) (by kernel_rfl) calm_put hS (by rfl) ?_ ?_
  · intro W hW; skip; exact exec_load_sec _ rfl PA rfl a HA.out.1 (Cells.of_block hW.1)
  simp only [Act.put, List.getElem_toArray, List.getElem_cons_succ, List.getElem_cons_zero, List.setIfInBounds_toArray, List.set_cons_zero, List.set_cons_succ]
  refine wpAnyE_take (i := 1) (v := (.agg (u8s b).toArray)) (listed' := #[true, true, false, false, false, false]) (by rfl) (by kernel_rfl) (by kernel_rfl) calm_put hS (by rfl) ?_ ?_
  · intro W hW; skip; exact exec_load_sec _ rfl PB rfl b HB.out.1 (Cells.of_block hW.2.1)
  simp only [Act.put, List.getElem_toArray, List.getElem_cons_succ, List.getElem_cons_zero, List.setIfInBounds_toArray, List.set_cons_zero, List.set_cons_succ]
  refine wpAnyE_take (i := 3) (v := (.agg (u8s c).toArray)) (listed' := #[true, true, false, true, false, false]) (by rfl) (by kernel_rfl) (by kernel_rfl) calm_put hS (by rfl) ?_ ?_
  · intro W hW; skip; exact exec_load_sec _ rfl PC rfl c HC.out.1 (Cells.of_block hW.2.2)
  simp only [Act.put, List.getElem_toArray, List.getElem_cons_succ, List.getElem_cons_zero, List.setIfInBounds_toArray, List.set_cons_zero, List.set_cons_succ]
  refine wpAnyE_one (i := 2) (listed' := #[true, true, true, true, false, false]) (by rfl) (by kernel_rfl) (by kernel_rfl) (by rfl) (fun K hK => ?_)
  simp only [Act.put, List.getElem_toArray, List.getElem_cons_succ, List.getElem_cons_zero, List.setIfInBounds_toArray, List.set_cons_zero, List.set_cons_succ]
  go_wp2_with fail
  refine Calls.mono (ref_Xor HA.out HB.out _) ?_
  rintro e w5 ⟨rfl, hk⟩
  replace hS := (⟨hk.block hS.1, hk.block hS.2.1, hk.block hS.2.2⟩ : (fun W => W.heap[PA]? = some (.cells (u8s a).toArray 43 (0, 0)) ∧ W.heap[PB]? = some (.cells (u8s b).toArray 43 (0, 0)) ∧ W.heap[PC]? = some (.cells (u8s c).toArray 43 (0, 0))) w5)
  have HR5 := Lib.hid (hk.block HRD.out)
  have HK5 := Lib.hid (HKD.out.trans hk)
  clear hk HRD HKD
  refine hK _ _ (fun _ => hS) ?_; clear hK K
  refine wpAnyE_one (i := 4) (listed' := #[true, true, true, true, true, false]) (by rfl) (by kernel_rfl) (by kernel_rfl) (by rfl) (fun K hK => ?_)
  simp only [Act.put, List.getElem_toArray, List.getElem_cons_succ, List.getElem_cons_zero, List.setIfInBounds_toArray, List.set_cons_zero, List.set_cons_succ]
  go_wp2_with fail
  refine Calls.mono (ref_Xor HY.out HC.out _) ?_
  rintro e w6 ⟨rfl, hk⟩
  replace hS := (⟨hk.block hS.1, hk.block hS.2.1, hk.block hS.2.2⟩ : (fun W => W.heap[PA]? = some (.cells (u8s a).toArray 43 (0, 0)) ∧ W.heap[PB]? = some (.cells (u8s b).toArray 43 (0, 0)) ∧ W.heap[PC]? = some (.cells (u8s c).toArray 43 (0, 0))) w6)
  have HR6 := Lib.hid (hk.block HR5.out)
  have HK6 := Lib.hid (HK5.out.trans hk)
  clear hk HR5 HK5
  refine hK _ _ (fun _ => hS) ?_; clear hK K
  refine wpAnyE_one (i := 5) (listed' := #[true, true, true, true, true, true]) (by rfl) (by kernel_rfl) (by kernel_rfl) (by rfl) (fun K hK => ?_)
  simp only [Act.put, List.getElem_toArray, List.getElem_cons_succ, List.getElem_cons_zero, List.setIfInBounds_toArray, List.set_cons_zero, List.set_cons_succ]
  refine wp_store_agg _ _ rfl ty_sec R 0 rfl (u8s (xorS (xorS a b) c)) rfl (by rw [u8s_length, HZ.out.1]) (u8s_one _) _ _ HR6.out (by rw [u8s_length, zeroB_length]; decide) ?_
  intro w7 hw
  replace hw := hw.all (by rw [u8s_length, u8s_length, HZ.out.1, zeroB_length])
  have HK7 := Lib.hid (hw.kept HK6.out (by have := HPE.out; have := HS0.out; have := HS1.out; have := HS2.out; omega))
  replace hS := (⟨(hw.oth _ (by have := HS0.out; have := HS1.out; have := HS2.out; omega)).trans hS.1, (hw.oth _ (by have := HS1.out; have := HS2.out; omega)).trans hS.2.1, (hw.oth _ (by have := HS2.out; omega)).trans hS.2.2⟩ : (fun W => W.heap[PA]? = some (.cells (u8s a).toArray 43 (0, 0)) ∧ W.heap[PB]? = some (.cells (u8s b).toArray 43 (0, 0)) ∧ W.heap[PC]? = some (.cells (u8s c).toArray 43 (0, 0))) w7)
  have HW := Lib.hid hw
  clear hw HR6 HK6
  refine hK _ _ (fun _ => hS) ?_; clear hK K
  refine wpAnyE_done (by kernel_rfl) ?_ _
  refine calm_normal ?_
  clear hS
  go_wp2
  refine bodyPost_ret (results_sec1 rfl _ _ R (xorS (xorS a b) c) rfl HW.out.cells HZ.out.1) rfl ?_
  exact ⟨rfl, HK7.out⟩
end
end Go.Proofs.YtglplhmclfekfaaGreat
/- ref13 on the document's bank: WriteFull. -/
namespace Go.Proofs.YtglplhmclfekfaaGreat
open Go.RowKit
set_option linter.unusedVariables false
set_option linter.unusedSimpArgs false

theorem SecSl.same {W W' : World} {R : Nat → Prop} {v : Value} {S : List (List Int)} (h : SecSl W v S) (hR : ∀ k, v.ownBlock = some k → R k) (hs : SameR R W W') (hlt : ∀ k, R k → k < W'.heap.size) : SecSl W' v S := by
  obtain ⟨oa, cap, rfl, hh⟩ := h
  refine ⟨oa, cap, rfl, fun k hk => ?_⟩
  obtain ⟨b, off, rfl, hb, hc⟩ := hh k hk
  have hRb : R b := hR b rfl
  exact ⟨b, off, rfl, hlt b hRb, hs.cells hRb hc⟩
theorem Sane.fullL {n z : Nat} : ∀ (l : List ((Int × Int) × List Int)) {T : BankT} {c g : Nat}, Sane T n z c → (∀ x ∈ l, IsSec x.2) → Sane (T.fullL l g).1 n z (c + l.length)
  | [], T, c, g, h, hl => by unfold BankT.fullL; exact h
  | (p, s) :: l, T, c, g, h, hl => by
    have h1 := h.write p.1 p.2 (hl _ (List.mem_cons_self ..))
    have hl' : ∀ x ∈ l, IsSec x.2 := fun x hx => hl x (List.mem_cons_of_mem _ hx)
    have e : c + ((p, s) :: l).length = c + 1 + l.length := by simp; omega
    rw [e]
    unfold BankT.fullL
    split
    · exact Sane.fullL l h1 hl'
    · split
      · exact h1.le (by omega)
      · exact Sane.fullL l h1 hl'
/-- what stripe.WriteFull does with any stripe and data -/
def BankT.fullU (T : BankT) (L : List (Int × Int)) (t : Int) (S : List (List Int)) : BankT × Int :=
  if L.length < 2 ∨ S.length + 1 ≠ L.length then (T, 1) else if rightX L.length t ≠ 0 then (T, rightX L.length t) else T.fullL ((dataS L t.toNat (-1) ++ [plcAt L t.toNat (holdN L.length t.toNat)]).zip (S ++ [xorL S])) 0
theorem Sane.fullU {n z c : Nat} {T : BankT} (h : Sane T n z c) (L : List (Int × Int)) (t : Int) {S : List (List Int)} (hS : ∀ s ∈ S, IsSec s) : Sane (T.fullU L t S).1 n z (c + L.length + 1) := by
  unfold BankT.fullU
  split
  · exact h.le (by omega)
  · split
    · exact h.le (by omega)
    · rename_i h1 _
      have hx : ∀ x ∈ S ++ [xorL S], IsSec x := fun x hx => by
        rcases List.mem_append.1 hx with hx | hx
        · exact hS x hx
        · rw [List.mem_singleton.1 hx]; exact xorL_sec hS
      refine (Sane.fullL _ h fun x hm => hx x.2 (List.of_mem_zip (a := x.1) (b := x.2) hm).2).le ?_
      rw [List.length_zip, List.length_append, List.length_append]
      simp only [List.length_singleton]
      omega
section
variable {w0 W : World} {R : Nat → Prop} {q : Nat} {B : BankT}
set_option maxHeartbeats 4000000
set_option maxRecDepth 100000
theorem RB.lt (h : RB w0 R W q B) {k : Nat} (hk : R k) : k < W.heap.size := by obtain ⟨_, _, _, _, _, h⟩ := h; exact (h k hk).1
theorem RB.more {W' : World} (h : RB w0 R W q B) (hk : Kept W W') (b : Nat) (h1 : W.heap.size ≤ b) (h2 : b < W'.heap.size) : RB w0 (fun k => R k ∨ k = b) W' q B := RK.more h hk b h1 h2
theorem s13_WriteFull {n z c : Nat} (h : RB w0 R W q B) (hs : Sane B n z c) (hm : n * z < 9000) (hc : c < 900000000) {v : Value} {L : List (Int × Int)} (hv : ESl W v L) (hN : Near L) (hl9 : L.length ≤ 900) (t : Int)
    {sv : Value} {S : List (List Int)} (hsv : SecSl W sv S) (hS : ∀ s ∈ S, IsSec s) (hSl : S.length ≤ 1000) (hR : ∀ k, sv.ownBlock = some k → R k) :
    Calls Tryz.prog 26 #[.pointer (some ⟨q, 0, none⟩), v, .int .i64 t, sv] W fun e w' => e = .returned (.int .i64 (B.fullU L t S).2) ∧ RB w0 R w' q (B.fullU L t S).1 ∧ SameR R W w' := by
  obtain ⟨oa, cap, hvv⟩ : ∃ oa cap, v = .slice oa L.length cap := by obtain ⟨oa, cap, e, _⟩ := hv; exact ⟨oa, cap, e⟩
  subst hvv
  obtain ⟨sa, scap, hss⟩ : ∃ sa scap, sv = .slice sa S.length scap := by obtain ⟨oa, cap, e, _⟩ := hsv; exact ⟨oa, cap, e⟩
  subst hss
  have HB := Lib.hid h
  have HV := Lib.hid hv
  have HSS := Lib.hid hS
  unfold BankT.fullU
  by_cases h2 : L.length < 2
  · rw [if_pos (.inl h2)]
    have t1 : (L.length : Int) < 2 := by omega
    clear h hs hv hN hsv hS hR
    go_enter Tryz.func26, Tryz.ntmps26
    go_wp2
    go_ret
    exact ⟨rfl, HB.out, SameR.refl _ _⟩
  by_cases hne : S.length + 1 ≠ L.length
  · rw [if_pos (.inr hne)]
    have t1 : ¬ (L.length : Int) < 2 := by omega
    have t2 : ((S.length : Int) != (L.length : Int) - 1) = true := by simp; omega
    clear h hs hv hN hsv hS hR h2
    go_enter Tryz.func26, Tryz.ntmps26
    go_wp2
    go_ret
    exact ⟨rfl, HB.out, SameR.refl _ _⟩
  have hSL : S.length + 1 = L.length := by omega
  rw [if_neg (by omega)]
  have t1 : ¬ (L.length : Int) < 2 := by omega
  have t2 : ((S.length : Int) != (L.length : Int) - 1) = false := by simp; omega
  by_cases hr : rightX L.length t = 0
  · rw [if_neg (by simpa using hr)]
    obtain ⟨t, rfl, _, ht⟩ := rightX_ok hr
    rw [Int.toNat_natCast]
    have HD := Lib.hid fun (W : World) (he : ESl W (.slice oa L.length cap) L) => rf_Data he hN (by omega) t ht
    have HPR := Lib.hid fun (W : World) (he : ESl W (.slice oa L.length cap) L) => rf_Parity he hN (t : Int)
    have hpx : parityX L (t : Int) = (plcAt L t (holdN L.length t), 0) := by unfold parityX; rw [if_pos hr, Int.toNat_natCast]
    simp only [hpx] at HPR
    have hdl := dataS_len (L := L) (by omega) t
    have HSV := Lib.hid hsv
    have HXL := Lib.hid (xorL_sec hS)
    have hRg := hR
    have HRS : Hid (∀ k, (Value.slice sa S.length scap).ownBlock = some k → R k) := Lib.hid hRg
    have HSN := Lib.hid hs
    have HMC := Lib.hid (And.intro hm hc)
    generalize plcAt L t (holdN L.length t) = pp at *
    obtain ⟨px, py⟩ := pp
    have HLL := Lib.hid (And.intro hSL (And.intro hl9 ht))
    obtain ⟨D, hD⟩ : ∃ D, dataS L t (-1) = D := ⟨_, rfl⟩
    rw [hD] at HD hdl ⊢
    obtain ⟨T', rc, hres⟩ : ∃ T' rc, B.fullL ((D ++ [(px, py)]).zip (S ++ [xorL S])) 0 = (T', rc) := ⟨_, _, rfl⟩
    rw [hres]
    have HRES := Lib.hid hres
    have hDS : D.length = S.length := by omega
    have HDS := Lib.hid hDS
    clear h hs hm hc hv hN hsv hS hR hRg hr hpx hdl hD hres hDS h2 hne hSl ht
    go_enter Tryz.func26, Tryz.ntmps26
    go_wp2_with fail
    refine Calls.mono (HD.out _ HV.out) ?_
    rintro e w1 ⟨r, rfl, hrow, hk1⟩
    obtain ⟨gl, lc, rfl, hgl0, hgl1, hcl⟩ : ∃ gl lc, r = .slice (some ⟨gl, 0, none⟩) S.length lc ∧ W.heap.size ≤ gl ∧ gl < w1.heap.size ∧ Cells w1 gl 0 (evals D) := by
      rw [HDS.out] at hrow
      obtain ⟨g, c, e, h1, h2, h3, _⟩ := row_form hrow (by have := HLL.out.1; omega)
      exact ⟨g, c, e, h1, h2, h3⟩
    have HB1 := Lib.hid (HB.out.more hk1 gl hgl0 hgl1)
    have HS1 := Lib.hid (HB.out.kept hk1).2
    have HV1 := Lib.hid (HV.out.kept hk1); have HC1 := Lib.hid hcl; have HSV1 := Lib.hid (HSV.out.kept hk1)
    clear hrow hk1 hgl0 hgl1 hcl HB HV HSV HD
    go_wp2_with fail
    refine Calls.mono (HPR.out _ HV1.out) ?_
    rintro e w2 ⟨rfl, hk2⟩
    have HB2 := Lib.hid (HB1.out.kept hk2).1
    have HS2 := Lib.hid (fun k (hk : R k) => ((HB1.out.kept hk2).2 k (.inl hk)).trans (HS1.out k hk))
    have HC2 := Lib.hid (Cells.kept HC1.out hk2); have HSV2 := Lib.hid (HSV1.out.kept hk2)
    clear hk2 HB1 HS1 HC1 HSV1 HV1 HPR
    go_wp2_with (refine stop_at (o := ⟨some 11, _, _, _, _, _⟩) ?_)
    refine Stop.mk ?_
    refine wpList_new_row rfl rfl _ _ rfl rfl ty_plc _ zero_plc rfl [.int .i64 px, .int .i64 py] rfl rfl (one_plc _ _) rfl ?_
    intro w3 hz hs3 hk3
    have HP3 := hz
    have HB3 := Lib.hid (HB2.out.box hk3 hs3)
    have HS3 := Lib.hid (fun k (hk : R k) => ((HB2.out.kept hk3).2 k (.inl hk)).trans (HS2.out k hk))
    have HC3 := Lib.hid (Cells.kept HC2.out hk3); have HSV3 := Lib.hid (HSV2.out.kept hk3)
    obtain ⟨Pb, hE⟩ : ∃ b, b = w2.heap.size := ⟨_, rfl⟩
    rw [← hE] at HP3 HB3 hs3 ⊢
    clear hz hs3 hk3 hE HB2 HS2 HC2 HSV2
    go_wp2
    go_loopw [13, 14] (fun gn i wr => ∃ (k gone : Nat) (T1 : BankT), k ≤ S.length + 1 ∧ gone ≤ k ∧ i = .int .i64 k ∧ gn = .int .i64 gone ∧ Hid (T1.fullL (((D ++ [(px, py)]).zip (S ++ [xorL S])).drop k) gone = (T', rc)) ∧ Hid (Sane T1 n z (c + k)) ∧ Hid (RB w0 (fun k => (R k ∨ k = gl) ∨ k = Pb) wr q T1) ∧ Hid (SameR (fun k => (R k ∨ k = gl) ∨ k = Pb) w3 wr)) (fun _ i _ => S.length + 1 - (intOf i).toNat)
    case atStart => exact ⟨0, 0, B, Nat.zero_le _, Nat.le_refl _, rfl, rfl, Lib.hid (by rw [List.drop_zero]; exact HRES.out), Lib.hid HSN.out, HB3, Lib.hid (SameR.refl _ _)⟩
    case round =>
      obtain ⟨k, gone, T1, hk, hgk, rfl, rfl, HF, HI1, HBr, HSR⟩ := hrel
      have HDC : Hid T1.Doc := Lib.hid (HI1.out.doc HMC.out.1 (by have := HMC.out.2; have := HLL.out; omega))
      have HKK := Lib.hid (And.intro hk hgk)
      by_cases hlt : k < S.length + 1
      · obtain ⟨x, y, sx, hsx, hF⟩ : ∃ x y sx, IsSec sx ∧ ((if k < S.length then (D.getD k (0, 0) = (x, y) ∧ S.getD k [] = sx) else ((px, py) = (x, y) ∧ xorL S = sx)) ∧ T1.fullL (((x, y), sx) :: (((D ++ [(px, py)]).zip (S ++ [xorL S])).drop (k + 1))) gone = (T', rc)) := by
          have hF := HF.out
          rw [List.drop_eq_getElem_cons (by rw [List.length_zip, List.length_append, List.length_append, HDS.out]; simp; omega), List.getElem_zip] at hF
          by_cases hkS : k < S.length
          · have hkD : k < D.length := by rw [HDS.out]; exact hkS
            rw [List.getElem_append_left hkD, List.getElem_append_left hkS] at hF
            refine ⟨D[k].1, D[k].2, S[k], HSS.out _ (List.getElem_mem hkS), ?_, hF⟩
            rw [if_pos hkS]
            exact ⟨by rw [List.getD_eq_getElem?_getD, List.getElem?_eq_getElem hkD]; rfl, by rw [List.getD_eq_getElem?_getD, List.getElem?_eq_getElem hkS]; rfl⟩
          · have hke : k = S.length := by omega
            subst hke
            rw [List.getElem_append_right (by rw [HDS.out]; exact Nat.le_refl _), List.getElem_append_right (Nat.le_refl _)] at hF
            refine ⟨px, py, xorL S, HXL.out, ?_, ?_⟩
            · rw [if_neg hkS]; exact ⟨rfl, rfl⟩
            · simpa using hF
        obtain ⟨T2, cc, hw⟩ : ∃ T2 cc, T1.write x y sx = (T2, cc) := ⟨_, _, rfl⟩
        have HF2 : Hid ((if lostB cc then T2.fullL (((D ++ [(px, py)]).zip (S ++ [xorL S])).drop (k + 1)) (gone + 1) else if cc ≠ 0 then (T2, cc) else T2.fullL (((D ++ [(px, py)]).zip (S ++ [xorL S])).drop (k + 1)) gone) = (T', rc)) := Lib.hid (by
          have := hF.2
          unfold BankT.fullL at this
          simp only [hw] at this
          exact this)
        have hkb : (k : Int) ≤ 1001 := by have := HLL.out; omega
        have hgb : (gone : Int) ≤ 1001 := by have := HLL.out; omega
        have HXY := Lib.hid hF.1
        have HSX := Lib.hid hsx
        have HI2 : Hid (Sane T2 n z (c + (k + 1))) := Lib.hid (by
          have := HI1.out.write x y hsx
          rw [hw] at this
          exact this)
        have HWR := Lib.hid (fun (R' : Nat → Prop) (W' : World) (h' : RB w0 R' W' q T1) => (rb_Write h' HDC.out x y hsx).mono (R' := fun e w' => e = .returned (.int .i64 cc) ∧ RB w0 R' w' q T2 ∧ SameR R' W' w') fun e w' hh => by rw [hw] at hh; exact hh)
        clear hw hF hsx HF HI1 HDC
        by_cases hkS : k < S.length
        · have hcl := HSR.out.cells (B := gl) (.inl (.inr rfl)) HC3.out
          have hcp := evals_take hcl (k := k) (by rw [HDS.out]; exact hkS)
          have hsw := HSV3.out.same (R := fun k => (R k ∨ k = gl) ∨ k = Pb) (fun k hk => .inl (.inl (HRS.out k hk))) HSR.out (fun k hk => HBr.out.lt hk)
          obtain ⟨oa', cap', e, hh⟩ := hsw
          injection e with e1 e2 e3
          subst e1
          clear e2 e3
          obtain ⟨bd, od, rfl, hbd, hcd⟩ := hh k hkS
          have hxy := HXY.out
          rw [if_pos hkS] at hxy
          rw [hxy.1] at hcp
          have hS2 : S[k] = sx := by rw [← hxy.2, List.getD_eq_getElem?_getD, List.getElem?_eq_getElem hkS]; rfl
          rw [hS2] at hcd
          have HCP := Lib.hid hcp; have HCD := Lib.hid hcd
          have hk0 : (0 : Int) ≤ (k : Int) := by omega
          have hk1 : (k : Int) < (S.length : Int) := by omega
          have hkw : IntKind.i64.wrap (k : Int) = (k : Int) := IntWalk.i64_in _ (by have := HLL.out; omega)
          have HLT := Lib.hid hlt
          clear hcl hcp hh hbd hcd hxy hS2 HXY hkS hlt hk hgk
          go_wp2
          refine wp_still_tail 9 (by kernel_rfl) (by kernel_rfl) fun ws hks hhs => ?_
          have HBs := Lib.hid (HBr.out.kept hks).1
          have HSRs := Lib.hid (HSR.out.trans (HBr.out.kept hks).2)
          have HCPs := Lib.hid (Cells.kept HCP.out hks); have HCDs := Lib.hid (Cells.kept HCD.out hks)
          clear hks hhs HBr HSR HCP HCD
          simp only [List.take_succ_cons, List.take_zero, List.drop_succ_cons, List.drop_zero]
          iterate 4 still_step
          refine still_load_agg rfl _ rfl ty_plc gl (k * 2) rfl [.int .i64 x, .int .i64 y] (by simpa using HCPs.out) rfl ?_
          iterate 3 still_step
          refine still_load_agg rfl _ rfl ty_sec bd (od + k * 64) rfl (u8s sx) HCDs.out (by rw [u8s_length, HSX.out.1]) ?_
          refine wpStill_nil ?_
          clear HCPs HCDs hk0 hk1 hkw
          go_wp2_with fail
          refine Calls.mono (HWR.out _ _ HBs.out) ?_
          rintro e w5 ⟨rfl, hb5, hsr5⟩
          have HB5 := Lib.hid hb5
          have HSR5 := Lib.hid (HSRs.out.trans fun b hb => hsr5 b hb)
          clear hb5 hsr5 HBs HSRs
          by_cases hc0 : cc = 0
          · have HF3 : Hid (T2.fullL (((D ++ [(px, py)]).zip (S ++ [xorL S])).drop (k + 1)) gone = (T', rc)) := Lib.hid (by have := HF2.out; rw [hc0] at this; simpa [lostB] using this)
            subst hc0
            clear HF2
            go_wp2
            go_roundw
            case rel => exact ⟨k + 1, gone, T2, HLT.out, by have := HKK.out; omega, by go_num, rfl, HF3, HI2, HB5, HSR5⟩
            case measure => simp [intOf]; have := HLT.out; omega
          · have t3 : (cc == 0) = false := by simpa using hc0
            go_wp2_with fail
            refine Calls.mono (doc_Lost cc _) ?_
            rintro e w' ⟨rfl, rfl⟩
            cases hlost : lostB cc with
            | true =>
              have HF3 : Hid (T2.fullL (((D ++ [(px, py)]).zip (S ++ [xorL S])).drop (k + 1)) (gone + 1) = (T', rc)) := Lib.hid (by have := HF2.out; rw [if_pos hlost] at this; exact this)
              clear HF2
              go_wp2
              go_roundw
              case rel => exact ⟨k + 1, gone + 1, T2, HLT.out, by have := HKK.out; omega, by go_num, by go_num, HF3, HI2, HB5, HSR5⟩
              case measure => simp [intOf]; have := HLT.out; omega
            | false =>
              have hf3 := HF2.out
              rw [hlost, if_neg (by decide), if_pos hc0] at hf3
              obtain ⟨rfl, rfl⟩ : T2 = T' ∧ cc = rc := by cases hf3; exact ⟨rfl, rfl⟩
              clear hf3 HF2
              go_wp2
              go_ret
              exact ⟨rfl, HB5.out.less (fun k hk => .inl (.inl hk)), fun b hb => (HSR5.out b (.inl (.inl hb))).trans (HS3.out b hb)⟩
        · have hxy := HXY.out
          rw [if_neg hkS] at hxy
          obtain ⟨e1, e2⟩ := hxy
          injection e1 with e3 e4
          subst e3
          subst e4
          have HE2 := Lib.hid e2
          have HPr := Lib.hid ((HSR.out Pb (.inr rfl)).trans HP3.out)
          have HSVr := Lib.hid (HSV3.out.same (R := fun k => (R k ∨ k = gl) ∨ k = Pb) (fun k hk => .inl (.inl (HRS.out k hk))) HSR.out (fun k hk => HBr.out.lt hk))
          have hk1 : ¬ (k : Int) < (S.length : Int) := by omega
          have HLT := Lib.hid hlt
          have hk2 : (k : Int) ≤ (S.length : Int) := by omega
          clear e2 HXY hkS hlt hk hgk
          go_wp2
          have HBs := Lib.hid (HBr.out.kept (Kept.refl wr).drew).1
          have HSRs := Lib.hid (HSR.out.trans (HBr.out.kept (Kept.refl wr).drew).2)
          have HSVs := Lib.hid (HSVr.out.kept (Kept.refl wr).drew)
          have hS : (fun W => W.heap[Pb]? = some (.cells [Value.int .i64 px, .int .i64 py].toArray 47 (0, 0))) wr.drew := (Kept.refl wr).drew.block HPr.out
          clear hk1 hk2 HBr HSR HPr HSVr
          refine wp_region_calm ?_
          refine wp_region_E (fun W => W.heap[Pb]? = some (.cells [Value.int .i64 px, .int .i64 py].toArray 47 (0, 0))) 100 (by kernel_rfl) ?_
          refine wpAnyE_take (i := 0) (v := ?_) (listed' := #[true, false, false, false, false, false]) (by rfl) (by kernel_rfl) (by kernel_rfl) calm_put hS (by rfl) ?_ ?_
          rotate_left
          · intro W hW; clear hW; go_simp; try (with_reducible rfl)
          simp only [Act.put, List.getElem_toArray, List.getElem_cons_succ, List.getElem_cons_zero, List.setIfInBounds_toArray, List.set_cons_zero, List.set_cons_succ]
          refine wpAnyE_take (i := 1) (v := .agg #[.int .i64 px, .int .i64 py]) (listed' := #[true, true, false, false, false, false]) (by rfl) (by kernel_rfl) (by kernel_rfl) calm_put hS (by rfl) ?_ ?_
          · intro W hW; skip; exact exec_load_plcO _ rfl Pb 0 rfl [.int .i64 px, .int .i64 py] rfl (by simpa using Cells.of_block hW)
          simp only [Act.put, List.getElem_toArray, List.getElem_cons_succ, List.getElem_cons_zero, List.setIfInBounds_toArray, List.set_cons_zero, List.set_cons_succ]
          refine wpAnyE_take (i := 2) (v := ?_) (listed' := #[true, true, true, false, false, false]) (by rfl) (by kernel_rfl) (by kernel_rfl) calm_put hS (by rfl) ?_ ?_
          rotate_left
          · intro W hW; clear hW; go_simp; try (with_reducible rfl)
          simp only [Act.put, List.getElem_toArray, List.getElem_cons_succ, List.getElem_cons_zero, List.setIfInBounds_toArray, List.set_cons_zero, List.set_cons_succ]
          refine wpAnyE_one (i := 3) (listed' := #[true, true, true, true, false, false]) (by rfl) (by kernel_rfl) (by kernel_rfl) (by rfl) (fun K hK => ?_)
          simp only [Act.put, List.getElem_toArray, List.getElem_cons_succ, List.getElem_cons_zero, List.setIfInBounds_toArray, List.set_cons_zero, List.set_cons_succ]
          go_wp2_with fail
          refine Calls.mono (ref_Build HSVs.out HSS.out (by have := HLL.out; omega)) ?_
          rintro e w4 ⟨rfl, hk4⟩
          have HB4 := Lib.hid (HBs.out.kept hk4).1
          have HSR4 := Lib.hid (HSRs.out.trans (HBs.out.kept hk4).2)
          replace hS := hk4.block hS
          clear hk4 HBs HSRs HSVs
          rw [HE2.out]
          refine hK _ _ (fun _ => hS) ?_; clear hK K
          refine wpAnyE_one (i := 4) (listed' := #[true, true, true, true, true, false]) (by rfl) (by kernel_rfl) (by kernel_rfl) (by rfl) (fun K hK => ?_)
          simp only [Act.put, List.getElem_toArray, List.getElem_cons_succ, List.getElem_cons_zero, List.setIfInBounds_toArray, List.set_cons_zero, List.set_cons_succ]
          go_wp2_with fail
          refine Calls.mono (HWR.out _ _ HB4.out) ?_
          rintro e w5 ⟨rfl, hb5, hsr5⟩
          replace hS := (hsr5 Pb (.inr rfl)).trans hS
          have HB5 := Lib.hid hb5
          have HSR5 := Lib.hid (HSR4.out.trans fun b hb => hsr5 b hb)
          clear hb5 hsr5 HB4 HSR4
          refine hK _ _ (fun _ => hS) ?_; clear hK K
          refine wpAnyE_one (i := 5) (listed' := #[true, true, true, true, true, true]) (by rfl) (by kernel_rfl) (by kernel_rfl) (by rfl) (fun K hK => ?_)
          simp only [Act.put, List.getElem_toArray, List.getElem_cons_succ, List.getElem_cons_zero, List.setIfInBounds_toArray, List.set_cons_zero, List.set_cons_succ]
          go_wp2
          refine hK _ _ (fun _ => hS) ?_; clear hK K
          refine wpAnyE_done (by kernel_rfl) ?_ _
          refine calm_normal ?_
          clear hS
          by_cases hc0 : cc = 0
          · have HF3 : Hid (T2.fullL (((D ++ [(px, py)]).zip (S ++ [xorL S])).drop (k + 1)) gone = (T', rc)) := Lib.hid (by have := HF2.out; rw [hc0] at this; simpa [lostB] using this)
            subst hc0
            clear HF2
            go_wp2
            go_roundw
            case rel => exact ⟨k + 1, gone, T2, HLT.out, by have := HKK.out; omega, by go_num, rfl, HF3, HI2, HB5, HSR5⟩
            case measure => simp [intOf]; have := HLT.out; omega
          · have t3 : (cc == 0) = false := by simpa using hc0
            go_wp2_with fail
            refine Calls.mono (doc_Lost cc _) ?_
            rintro e w' ⟨rfl, rfl⟩
            cases hlost : lostB cc with
            | true =>
              have HF3 : Hid (T2.fullL (((D ++ [(px, py)]).zip (S ++ [xorL S])).drop (k + 1)) (gone + 1) = (T', rc)) := Lib.hid (by have := HF2.out; rw [if_pos hlost] at this; exact this)
              clear HF2
              go_wp2
              go_roundw
              case rel => exact ⟨k + 1, gone + 1, T2, HLT.out, by have := HKK.out; omega, by go_num, by go_num, HF3, HI2, HB5, HSR5⟩
              case measure => simp [intOf]; have := HLT.out; omega
            | false =>
              have hf3 := HF2.out
              rw [hlost, if_neg (by decide), if_pos hc0] at hf3
              obtain ⟨rfl, rfl⟩ : T2 = T' ∧ cc = rc := by cases hf3; exact ⟨rfl, rfl⟩
              clear hf3 HF2
              go_wp2
              go_ret
              exact ⟨rfl, HB5.out.less (fun k hk => .inl (.inl hk)), fun b hb => (HSR5.out b (.inl (.inl hb))).trans (HS3.out b hb)⟩
      · have hkl : k = S.length + 1 := by omega
        subst hkl
        have hf3 := HF.out
        rw [List.drop_eq_nil_of_le (by rw [List.length_zip, List.length_append, List.length_append, HDS.out]; simp)] at hf3
        unfold BankT.fullL at hf3
        by_cases hg1 : 1 < gone
        · rw [if_pos hg1] at hf3
          obtain ⟨rfl, rfl⟩ : T1 = T' ∧ 5 = rc := by cases hf3; exact ⟨rfl, rfl⟩
          clear hf3 HF
          go_wp2
          go_ret
          exact ⟨rfl, HBr.out.less (fun k hk => .inl (.inl hk)), fun b hb => (HSR.out b (.inl (.inl hb))).trans (HS3.out b hb)⟩
        · rw [if_neg hg1] at hf3
          obtain ⟨rfl, rfl⟩ : T1 = T' ∧ 0 = rc := by cases hf3; exact ⟨rfl, rfl⟩
          clear hf3 HF
          go_wp2
          go_ret
          exact ⟨rfl, HBr.out.less (fun k hk => .inl (.inl hk)), fun b hb => (HSR.out b (.inl (.inl hb))).trans (HS3.out b hb)⟩
  · rw [if_pos (by simpa using hr)]
    have HD := Lib.hid fun (W : World) => rf_Data_no oa L.length cap hN.1 t hr W
    generalize rightX L.length t = rc at *
    have t3 : (rc != 0) = true := by simpa using hr
    clear h hs hv hN hsv hS hR hr
    go_enter Tryz.func26, Tryz.ntmps26
    go_wp2_with fail
    refine Calls.mono (HD.out _) ?_
    rintro e w' ⟨rfl, rfl⟩
    go_wp2
    go_ret
    exact ⟨rfl, HB.out, SameR.refl _ _⟩
end
end Go.Proofs.YtglplhmclfekfaaGreat
/- ref13 on the document's bank: Read, Rebuilt, Plug (gen_pcc.py). -/
namespace Go.Proofs.YtglplhmclfekfaaGreat
open Go.RowKit
set_option linter.unusedVariables false
set_option linter.unusedSimpArgs false

/-- what stripe.Read tells of any slot -/
def BankT.readU (T : BankT) (L : List (Int × Int)) (slot : Int) : List Int × Int :=
  if (homeX L slot).2 ≠ 0 then (zeroB, (homeX L slot).2) else if lostB (T.read (homeX L slot).1.1 (homeX L slot).1.2).2 then T.joinL (matesU L slot) zeroB false else T.read (homeX L slot).1.1 (homeX L slot).1.2
/-- what stripe.Rebuilt tells of any extent and stripe -/
def BankT.rebuiltU (T : BankT) (L : List (Int × Int)) (k t : Int) : List Int × Int :=
  if L.length < 2 ∨ k < 0 ∨ (L.length : Int) ≤ k then (zeroB, 1) else if t < 0 ∨ 8 ≤ t then (zeroB, 3) else T.joinL (restL L t.toNat k.toNat) zeroB false
/-- what stripe.Plug tells of any slot -/
def BankT.plugU (T : BankT) (L : List (Int × Int)) (slot : Int) (s : List Int) : List Int × Int :=
  if (splitX L.length slot).2.2 ≠ 0 then (zeroB, (splitX L.length slot).2.2) else T.plugL L (splitX L.length slot).1.toNat (splitX L.length slot).2.1.toNat s
theorem BankT.readU_ok {T : BankT} {L : List (Int × Int)} {slot : Int} {t k : Nat} (hs : splitX L.length slot = ((t : Int), (k : Int), 0)) : T.readU L slot = T.readL L t k := by
  have h1 : homeX L slot = (plcAt L t k, 0) := by unfold homeX; rw [hs]; rfl
  have h2 : matesU L slot = matesL L t k := by unfold matesU matesL; rw [hs]; rfl
  unfold BankT.readU BankT.readL
  rw [h1, h2, if_neg (by simp)]
theorem BankT.joinL_is {T : BankT} (h : T.Inv) (l : List (Int × Int)) : IsSec (T.joinL l zeroB false).1 := joinL_sec h l zeroB false zeroB_sec1
theorem BankT.readU_is {T : BankT} (h : T.Inv) (L : List (Int × Int)) (slot : Int) : IsSec (T.readU L slot).1 := by
  unfold BankT.readU
  split
  · exact zeroB_sec1
  · split
    · exact BankT.joinL_is h _
    · exact BankT.read_sec h _ _
theorem BankT.rebuiltU_is {T : BankT} (h : T.Inv) (L : List (Int × Int)) (k t : Int) : IsSec (T.rebuiltU L k t).1 := by
  unfold BankT.rebuiltU
  split
  · exact zeroB_sec1
  · split
    · exact zeroB_sec1
    · exact BankT.joinL_is h _
theorem BankT.plugU_is {T : BankT} (h : T.Inv) (L : List (Int × Int)) (slot : Int) {s : List Int} (hs : IsSec s) : IsSec (T.plugU L slot s).1 := by
  unfold BankT.plugU BankT.plugL
  split
  · exact zeroB_sec1
  · split
    · exact zeroB_sec1
    · split
      · exact zeroB_sec1
      · split
        · exact xorS_sec (xorS_sec (BankT.read_sec h _ _) (BankT.read_sec h _ _)) hs
        · exact joinL_sec h _ s false hs
theorem rf_MatesF {w : World} {v : Value} {L : List (Int × Int)} (h : ESl w v L) (hN : Near L) {s m : Nat} (hL : L.length = m + 1) (hm : 1 ≤ m) (hs : s < 8 * m) {t kk : Nat} (hsp : splitX L.length (s : Int) = ((t : Int), (kk : Int), 0)) :
    Calls Tryz.prog 67 #[v, .int .i64 (s : Int)] w fun e W' => ∃ ra rcap, e = .returned (.tuple #[.slice ra ((dataS L t (kk : Int)).length + 1) rcap, .int .i64 0]) ∧ (dataS L t (kk : Int)).length + 1 ≤ rcap ∧ ESl W' (.slice ra ((dataS L t (kk : Int)).length + 1) rcap) (dataS L t (kk : Int) ++ [plcAt L t (holdN L.length t)]) ∧ Kept w W' := by
  refine (rf_Mates h hN hL hm hs hsp).mono fun e W' ⟨r, he, hr, hk⟩ => ?_
  have h1 := hr.1
  rw [evals_length, List.length_append, List.length_singleton] at h1
  have hn : m = (dataS L t (kk : Int)).length + 1 := by omega
  obtain ⟨g, c, rfl, _, _, _, hc⟩ := row_form hr (by omega)
  have he2 := ESl.of_owns (by rw [List.length_append, List.length_singleton]; exact hn) hr
  rw [hn] at he he2 hc
  exact ⟨_, c, he, hc, he2, hk⟩
section
variable {w0 W : World} {R : Nat → Prop} {q : Nat} {B : BankT}
set_option maxHeartbeats 4000000
set_option maxRecDepth 100000
theorem s13_Read (h : RB w0 R W q B) (u : B.Doc) {v : Value} {L : List (Int × Int)} (hv : ESl W v L) (hN : Near L) (hl9 : L.length ≤ 900) (slot : Int) :
    Calls Tryz.prog 27 #[.pointer (some ⟨q, 0, none⟩), v, .int .i64 slot] W fun e w' => e = .returned (.tuple #[secV (B.readU L slot).1, .int .i64 (B.readU L slot).2]) ∧ Kept W w' := by
  have HI := Lib.hid u.inv
  have HRD := Lib.hid (fun (W' : World) (x y : Int) (hk : Kept W W') => rb_Read (h.kept hk).1 u x y)
  have HGA := Lib.hid (fun (W' : World) (v' : Value) (L' : List (Int × Int)) (hk : Kept W W') (hv' : ESl W' v' L') (hl' : L'.length ≤ 1000) => s13_read (h.kept hk).1 u hv' hl')
  have HHM := Lib.hid fun (W : World) (he : ESl W v L) => rf_Home he hN slot
  have HMT := Lib.hid fun (W : World) (he : ESl W v L) => rf_MatesU he hN slot
  have HML : Hid ((matesU L slot).length ≤ 1000) := Lib.hid (by have := matesU_len L slot; omega)
  have hcode := home_code L slot
  obtain ⟨res, rc, hres⟩ : ∃ res rc, B.readU L slot = (res, rc) := ⟨_, _, rfl⟩
  rw [hres]
  unfold BankT.readU at hres
  obtain ⟨⟨⟨x, y⟩, c0⟩, hx⟩ : ∃ p, homeX L slot = p := ⟨_, rfl⟩
  rw [hx] at HHM hres hcode
  simp only at HHM hres hcode
  rw [← hcode] at HMT
  clear hcode
  generalize matesU L slot = M at *
  obtain ⟨sx, c, hr⟩ : ∃ sx c, B.read x y = (sx, c) := ⟨_, _, rfl⟩
  have HSX : Hid (IsSec sx) := Lib.hid (by have := BankT.read_sec HI.out x y; rw [hr] at this; exact this)
  rw [hr] at hres
  simp only at hres
  rw [joinL_doc HI.out M] at hres
  have HRX := Lib.hid (fun (W' : World) (hk : Kept W W') => by have := HRD.out W' x y hk; rw [hr] at this; exact this)
  have HSEC := Lib.hid (gatherL_sec HI.out M [] false (fun s hs => by cases hs))
  have HGL : Hid ((B.gatherL M [] false).1.length ≤ 1000) := Lib.hid (by have := gatherL_len (T := B) M [] false; have := HML.out; simp at *; omega)
  have HGM := Lib.hid (fun (W' : World) (v' : Value) (hk : Kept W W') (hv' : ESl W' v' M) => HGA.out W' v' M hk hv' HML.out)
  clear HGA HRD HML
  obtain ⟨G, g, hg⟩ : ∃ G g, B.gatherL M [] false = (G, g) := ⟨_, _, rfl⟩
  rw [hg] at HGM hres HSEC HGL
  simp only at HGM hres HSEC HGL
  have HRES := Lib.hid hres
  have HV0 := Lib.hid hv
  clear h u hv hN hl9 hx hr hg hres
  go_enter Tryz.func27, Tryz.ntmps27
  go_wp2_with (refine stop_at (o := ⟨some 6, _, _, _, _, _⟩) ?_)
  refine Stop.mk ?_
  refine wpList_alloc_abs rfl 43 rfl (u8s zeroB) zero_sec ?_
  intro w1 hz hs hn hk
  have HR1 := hz
  have HV1 := Lib.hid (HV0.out.kept hk)
  have GE_Rb := Lib.hid (Nat.le_refl W.heap.size)
  have HK1 := Lib.hid hk
  obtain ⟨Rb, hE⟩ : ∃ b, b = W.heap.size := ⟨_, rfl⟩
  rw [← hE] at HR1 hs GE_Rb ⊢
  replace GE_Rb := Lib.hid (Nat.le_of_eq hE.symm)
  clear hE
  clear HV0 hz hs hk hn
  go_wp2_with fail
  refine Calls.mono (HHM.out _ HV1.out) ?_
  rintro e w2 ⟨rfl, hk⟩
  have HV2 := Lib.hid (HV1.out.kept hk)
  have HK2 := Lib.hid (HK1.out.trans hk)
  have HR2 := Lib.hid (hk.block HR1.out)
  clear HV1 HK1 HR1 hk HHM
  go_wp2_with (refine stop_at (o := ⟨some 8, _, _, _, _, _⟩) ?_)
  refine Stop.mk ?_
  refine wpList_new_row rfl rfl _ _ rfl rfl ty_plc _ zero_plc rfl [.int .i64 x, .int .i64 y] rfl rfl (one_plc _ _) rfl ?_
  intro w3 hz hs hk
  have HP3 := hz
  have HV3 := Lib.hid (HV2.out.kept hk)
  have HK3 := Lib.hid (HK2.out.trans hk)
  have HR3 := Lib.hid (hk.block HR2.out)
  have GE_Pb := Lib.hid (HK2.out.size)
  generalize w2.heap.size = Pb at *
  clear HV2 HK2 HR2 hz hs hk
  by_cases h0 : c0 = 0
  · subst h0
    go_wp2_with (refine stop_at (o := ⟨some 29, _, _, _, _, _⟩) ?_)
    refine Stop.mk ?_
    refine wpList_load_agg rfl _ rfl ty_plc Pb 0 rfl [.int .i64 x, .int .i64 y] (by simpa using Cells.of_block HP3.out) rfl ?_
    clear HP3
    go_wp2_with fail
    refine Calls.mono (HRX.out _ HK3.out) ?_
    rintro e w4 ⟨rfl, hk⟩
    have HV4 := Lib.hid (HV3.out.kept hk)
    have HK4 := Lib.hid (HK3.out.trans hk)
    have HR4 := Lib.hid (hk.block HR3.out)
    clear HV3 HK3 HR3 hk HRX
    go_wp2_with (refine stop_at (o := ⟨some 10, _, _, _, _, _⟩) ?_)
    refine Stop.mk ?_
    refine wpList_new_row rfl rfl _ _ rfl rfl ty_sec (u8s zeroB) zero_sec (by rw [u8s_length, zeroB_length]) (u8s sx) rfl (by rw [u8s_length, HSX.out.1]) (u8s_one _) rfl ?_
    intro w5 hz hs hk
    have HX5 := hz
    have HV5 := Lib.hid (HV4.out.kept hk)
    have HK5 := Lib.hid (HK4.out.trans hk)
    have HR5 := Lib.hid (hk.block HR4.out)
    have GE_Xb := Lib.hid (HK4.out.size)
    generalize w4.heap.size = Xb at *
    clear HV4 HK4 HR4 hz hs hk
    go_wp2_with fail
    refine Calls.mono (doc_Lost c _) ?_
    rintro e w' ⟨rfl, rfl⟩
    cases hl : lostB c with
    | false =>
      have hj : (sx, c) = (res, rc) := by rw [← HRES.out]; simp [hl]
      injection hj with hj1 hj2
      subst hj1
      subst hj2
      clear HRES hl
      go_wp2_with (refine stop_at (o := ⟨some 37, _, _, _, _, _⟩) ?_)
      refine Stop.mk ?_
      refine wpList_load_agg rfl _ rfl ty_sec Xb 0 rfl (u8s sx) (by simpa using Cells.of_block HX5.out) (by rw [u8s_length, HSX.out.1]) ?_
      go_wp2_with (refine stop_at (o := ⟨none, .store _ _ _, _, _, _, _⟩) ?_)
      refine Stop.mk ?_
      refine wpList_store_agg rfl _ _ rfl ty_sec Rb 0 rfl (u8s sx) rfl (by rw [u8s_length, HSX.out.1]) (u8s_one _) _ _ HR5.out (by rw [u8s_length, zeroB_length]; decide) ?_
      intro wz hw
      replace hw := hw.all (by simp [u8s_length, zeroB_length, HSX.out.1])
      have HW := Lib.hid hw
      have HKZ : Hid (Kept W wz) := Lib.hid (hw.kept HK5.out (by have := GE_Rb.out; omega))
      clear hw
      go_wp2
      refine bodyPost_ret (results_sec rfl _ _ Rb sx rfl HW.out.cells (HSX.out.1)) rfl ?_
      exact ⟨rfl, HKZ.out⟩
    | true =>
      have HL := Lib.hid hl
      clear hl
      clear HX5
      go_wp2_with fail
      refine Calls.mono (HMT.out _ HV5.out) ?_
      rintro e w6 ⟨r, rfl, hM, hk⟩
      have HM6 := Lib.hid hM
      have HV6 := Lib.hid (HV5.out.kept hk)
      have HK6 := Lib.hid (HK5.out.trans hk)
      have HR6 := Lib.hid (hk.block HR5.out)
      clear HV5 HK5 HR5 hk hM HMT
      clear HV6
      go_wp2_with fail
      refine Calls.mono (HGM.out _ r HK6.out HM6.out) ?_
      rintro e w7 ⟨r2, rfl, hS, hF, hk⟩
      have HS7 := Lib.hid hS
      have HK7 := Lib.hid (HK6.out.trans hk)
      have HR7 := Lib.hid (hk.block HR6.out)
      have HM7 := Lib.hid (HM6.out.kept hk)
      clear HK6 HR6 HM6 hk hS hF HGM
      clear HM7
      by_cases hg0 : g = 0
      · subst hg0
        have hj : (xorL G, 0) = (res, rc) := by rw [← HRES.out]; simp [HL.out]
        injection hj with hj1 hj2
        subst hj1
        subst hj2
        clear HRES 
        have HZ := Lib.hid (xorL_sec HSEC.out)
        go_wp2_with fail
        refine Calls.mono (ref_Build HS7.out.sl HSEC.out (by have := HGL.out; omega)) ?_
        rintro e w8 ⟨rfl, hk⟩
        have HK8 := Lib.hid (HK7.out.trans hk)
        have HR8 := Lib.hid (hk.block HR7.out)
        have HS8 := Lib.hid (HS7.out.kept hk)
        clear HK7 HR7 HS7 hk 
        go_wp2_with (refine stop_at (o := ⟨none, .store _ _ _, _, _, _, _⟩) ?_)
        refine Stop.mk ?_
        refine wpList_store_agg rfl _ _ rfl ty_sec Rb 0 rfl (u8s (xorL G)) rfl (by rw [u8s_length, HZ.out.1]) (u8s_one _) _ _ HR8.out (by rw [u8s_length, zeroB_length]; decide) ?_
        intro wz hw
        replace hw := hw.all (by simp [u8s_length, zeroB_length, HZ.out.1])
        have HW := Lib.hid hw
        have HKZ : Hid (Kept W wz) := Lib.hid (hw.kept HK8.out (by have := GE_Rb.out; omega))
        clear hw
        go_wp2
        refine bodyPost_ret (results_sec rfl _ _ Rb (xorL G) rfl HW.out.cells (HZ.out.1)) rfl ?_
        exact ⟨rfl, HKZ.out⟩
      · have t1 : (g != 0) = true := by simpa using hg0
        have hj : (zeroB, g) = (res, rc) := by rw [← HRES.out]; simp [HL.out, hg0]
        injection hj with hj1 hj2
        subst hj1
        subst hj2
        clear HRES 
        go_wp2_with (refine stop_at (o := ⟨some 53, _, _, _, _, _⟩) ?_)
        refine Stop.mk ?_
        refine wpList_zero_sec rfl rfl ?_
        go_wp2_with (refine stop_at (o := ⟨none, .store _ _ _, _, _, _, _⟩) ?_)
        refine Stop.mk ?_
        refine wpList_store_agg rfl _ _ rfl ty_sec Rb 0 rfl (u8s zeroB) rfl (by rw [u8s_length, zeroB_length]) (u8s_one _) _ _ HR7.out (by rw [u8s_length, zeroB_length]; decide) ?_
        intro wz hw
        replace hw := hw.all (by simp [u8s_length, zeroB_length, zeroB_length])
        have HW := Lib.hid hw
        have HKZ : Hid (Kept W wz) := Lib.hid (hw.kept HK7.out (by have := GE_Rb.out; omega))
        clear hw
        go_wp2
        refine bodyPost_ret (results_sec rfl _ _ Rb zeroB rfl HW.out.cells (zeroB_length)) rfl ?_
        exact ⟨rfl, HKZ.out⟩
  · have t1 : (c0 != 0) = true := by simpa using h0
    have hj : (zeroB, c0) = (res, rc) := by rw [← HRES.out]; simp [h0]
    injection hj with hj1 hj2
    subst hj1
    subst hj2
    clear HRES 
    go_wp2_with (refine stop_at (o := ⟨some 25, _, _, _, _, _⟩) ?_)
    refine Stop.mk ?_
    refine wpList_zero_sec rfl rfl ?_
    go_wp2_with (refine stop_at (o := ⟨none, .store _ _ _, _, _, _, _⟩) ?_)
    refine Stop.mk ?_
    refine wpList_store_agg rfl _ _ rfl ty_sec Rb 0 rfl (u8s zeroB) rfl (by rw [u8s_length, zeroB_length]) (u8s_one _) _ _ HR3.out (by rw [u8s_length, zeroB_length]; decide) ?_
    intro wz hw
    replace hw := hw.all (by simp [u8s_length, zeroB_length, zeroB_length])
    have HW := Lib.hid hw
    have HKZ : Hid (Kept W wz) := Lib.hid (hw.kept HK3.out (by have := GE_Rb.out; omega))
    clear hw
    go_wp2
    refine bodyPost_ret (results_sec rfl _ _ Rb zeroB rfl HW.out.cells (zeroB_length)) rfl ?_
    exact ⟨rfl, HKZ.out⟩
theorem s13_Rebuilt (h : RB w0 R W q B) (u : B.Doc) {v : Value} {L : List (Int × Int)} (hv : ESl W v L) (hN : Near L) (hl9 : L.length ≤ 900) (k t : Int) :
    Calls Tryz.prog 29 #[.pointer (some ⟨q, 0, none⟩), v, .int .i64 k, .int .i64 t] W fun e w' => e = .returned (.tuple #[secV (B.rebuiltU L k t).1, .int .i64 (B.rebuiltU L k t).2]) ∧ Kept W w' := by
  have HI := Lib.hid u.inv
  have HGA := Lib.hid (fun (W' : World) (v' : Value) (L' : List (Int × Int)) (hk : Kept W W') (hv' : ESl W' v' L') (hl' : L'.length ≤ 1000) => s13_read (h.kept hk).1 u hv' hl')
  obtain ⟨res, rc, hres⟩ : ∃ res rc, B.rebuiltU L k t = (res, rc) := ⟨_, _, rfl⟩
  rw [hres]
  unfold BankT.rebuiltU at hres
  have HRES := Lib.hid hres
  have HV0 := Lib.hid hv
  have HN := Lib.hid hN
  obtain ⟨oa, cap, hvv⟩ : ∃ oa cap, v = .slice oa L.length cap := by obtain ⟨oa, cap, e, _⟩ := hv; exact ⟨oa, cap, e⟩
  subst hvv
  clear h u hv hN hres
  go_enter Tryz.func29, Tryz.ntmps29
  go_wp2_with (refine stop_at (o := ⟨some 8, _, _, _, _, _⟩) ?_)
  refine Stop.mk ?_
  refine wpList_alloc_abs rfl 43 rfl (u8s zeroB) zero_sec ?_
  intro w1 hz hs hn hk
  have HR1 := hz
  have HV1 := Lib.hid (HV0.out.kept hk)
  have GE_Rb := Lib.hid (Nat.le_refl W.heap.size)
  have HK1 := Lib.hid hk
  obtain ⟨Rb, hE⟩ : ∃ b, b = W.heap.size := ⟨_, rfl⟩
  rw [← hE] at HR1 hs GE_Rb ⊢
  replace GE_Rb := Lib.hid (Nat.le_of_eq hE.symm)
  clear hE
  clear HV0 hz hs hk hn
  by_cases h2 : L.length < 2
  · have t1 : decide ((L.length : Int) < 2) = true := by simp; omega
    clear t1
    have t1 : (L.length : Int) < 2 := by omega
    have hj : (zeroB, (1 : Int)) = (res, rc) := by rw [← HRES.out]; rw [if_pos (.inl h2)]
    injection hj with hj1 hj2
    subst hj1
    subst hj2
    clear HRES 
    go_wp2_with (refine stop_at (o := ⟨some 27, _, _, _, _, _⟩) ?_)
    refine Stop.mk ?_
    refine wpList_zero_sec rfl rfl ?_
    go_wp2_with (refine stop_at (o := ⟨none, .store _ _ _, _, _, _, _⟩) ?_)
    refine Stop.mk ?_
    refine wpList_store_agg rfl _ _ rfl ty_sec Rb 0 rfl (u8s zeroB) rfl (by rw [u8s_length, zeroB_length]) (u8s_one _) _ _ HR1.out (by rw [u8s_length, zeroB_length]; decide) ?_
    intro wz hw
    replace hw := hw.all (by simp [u8s_length, zeroB_length, zeroB_length])
    have HW := Lib.hid hw
    have HKZ : Hid (Kept W wz) := Lib.hid (hw.kept HK1.out (by have := GE_Rb.out; omega))
    clear hw
    go_wp2
    refine bodyPost_ret (results_sec rfl _ _ Rb zeroB rfl HW.out.cells (zeroB_length)) rfl ?_
    exact ⟨rfl, HKZ.out⟩
  have t1 : ¬ ((L.length : Int) < 2) := by omega
  by_cases hk0 : k < 0
  · skip
    have hj : (zeroB, (1 : Int)) = (res, rc) := by rw [← HRES.out]; rw [if_pos (.inr (.inl hk0))]
    injection hj with hj1 hj2
    subst hj1
    subst hj2
    clear HRES 
    go_wp2_with (refine stop_at (o := ⟨some 27, _, _, _, _, _⟩) ?_)
    refine Stop.mk ?_
    refine wpList_zero_sec rfl rfl ?_
    go_wp2_with (refine stop_at (o := ⟨none, .store _ _ _, _, _, _, _⟩) ?_)
    refine Stop.mk ?_
    refine wpList_store_agg rfl _ _ rfl ty_sec Rb 0 rfl (u8s zeroB) rfl (by rw [u8s_length, zeroB_length]) (u8s_one _) _ _ HR1.out (by rw [u8s_length, zeroB_length]; decide) ?_
    intro wz hw
    replace hw := hw.all (by simp [u8s_length, zeroB_length, zeroB_length])
    have HW := Lib.hid hw
    have HKZ : Hid (Kept W wz) := Lib.hid (hw.kept HK1.out (by have := GE_Rb.out; omega))
    clear hw
    go_wp2
    refine bodyPost_ret (results_sec rfl _ _ Rb zeroB rfl HW.out.cells (zeroB_length)) rfl ?_
    exact ⟨rfl, HKZ.out⟩
  by_cases hk1 : (L.length : Int) ≤ k
  · skip
    have hj : (zeroB, (1 : Int)) = (res, rc) := by rw [← HRES.out]; rw [if_pos (.inr (.inr hk1))]
    injection hj with hj1 hj2
    subst hj1
    subst hj2
    clear HRES 
    go_wp2_with (refine stop_at (o := ⟨some 27, _, _, _, _, _⟩) ?_)
    refine Stop.mk ?_
    refine wpList_zero_sec rfl rfl ?_
    go_wp2_with (refine stop_at (o := ⟨none, .store _ _ _, _, _, _, _⟩) ?_)
    refine Stop.mk ?_
    refine wpList_store_agg rfl _ _ rfl ty_sec Rb 0 rfl (u8s zeroB) rfl (by rw [u8s_length, zeroB_length]) (u8s_one _) _ _ HR1.out (by rw [u8s_length, zeroB_length]; decide) ?_
    intro wz hw
    replace hw := hw.all (by simp [u8s_length, zeroB_length, zeroB_length])
    have HW := Lib.hid hw
    have HKZ : Hid (Kept W wz) := Lib.hid (hw.kept HK1.out (by have := GE_Rb.out; omega))
    clear hw
    go_wp2
    refine bodyPost_ret (results_sec rfl _ _ Rb zeroB rfl HW.out.cells (zeroB_length)) rfl ?_
    exact ⟨rfl, HKZ.out⟩
  by_cases ht0 : t < 0
  · skip
    have t2 : ¬ (L.length : Int) ≤ k := hk1
    have hj : (zeroB, (3 : Int)) = (res, rc) := by rw [← HRES.out]; rw [if_neg (by omega), if_pos (.inl ht0)]
    injection hj with hj1 hj2
    subst hj1
    subst hj2
    clear HRES 
    go_wp2_with (refine stop_at (o := ⟨some 34, _, _, _, _, _⟩) ?_)
    refine Stop.mk ?_
    refine wpList_zero_sec rfl rfl ?_
    go_wp2_with (refine stop_at (o := ⟨none, .store _ _ _, _, _, _, _⟩) ?_)
    refine Stop.mk ?_
    refine wpList_store_agg rfl _ _ rfl ty_sec Rb 0 rfl (u8s zeroB) rfl (by rw [u8s_length, zeroB_length]) (u8s_one _) _ _ HR1.out (by rw [u8s_length, zeroB_length]; decide) ?_
    intro wz hw
    replace hw := hw.all (by simp [u8s_length, zeroB_length, zeroB_length])
    have HW := Lib.hid hw
    have HKZ : Hid (Kept W wz) := Lib.hid (hw.kept HK1.out (by have := GE_Rb.out; omega))
    clear hw
    go_wp2
    refine bodyPost_ret (results_sec rfl _ _ Rb zeroB rfl HW.out.cells (zeroB_length)) rfl ?_
    exact ⟨rfl, HKZ.out⟩
  by_cases ht1 : 8 ≤ t
  · skip
    have t2 : ¬ (L.length : Int) ≤ k := hk1
    have hj : (zeroB, (3 : Int)) = (res, rc) := by rw [← HRES.out]; rw [if_neg (by omega), if_pos (.inr ht1)]
    injection hj with hj1 hj2
    subst hj1
    subst hj2
    clear HRES 
    go_wp2_with (refine stop_at (o := ⟨some 34, _, _, _, _, _⟩) ?_)
    refine Stop.mk ?_
    refine wpList_zero_sec rfl rfl ?_
    go_wp2_with (refine stop_at (o := ⟨none, .store _ _ _, _, _, _, _⟩) ?_)
    refine Stop.mk ?_
    refine wpList_store_agg rfl _ _ rfl ty_sec Rb 0 rfl (u8s zeroB) rfl (by rw [u8s_length, zeroB_length]) (u8s_one _) _ _ HR1.out (by rw [u8s_length, zeroB_length]; decide) ?_
    intro wz hw
    replace hw := hw.all (by simp [u8s_length, zeroB_length, zeroB_length])
    have HW := Lib.hid hw
    have HKZ : Hid (Kept W wz) := Lib.hid (hw.kept HK1.out (by have := GE_Rb.out; omega))
    clear hw
    go_wp2
    refine bodyPost_ret (results_sec rfl _ _ Rb zeroB rfl HW.out.cells (zeroB_length)) rfl ?_
    exact ⟨rfl, HKZ.out⟩
  obtain ⟨k, rfl⟩ : ∃ j : Nat, k = (j : Int) := ⟨k.toNat, by omega⟩
  obtain ⟨t, rfl⟩ : ∃ j : Nat, t = (j : Int) := ⟨t.toNat, by omega⟩
  have HRES2 : Hid ((if (B.gatherL (restL L t k) [] false).2 = 0 then (xorL (B.gatherL (restL L t k) [] false).1, 0) else (zeroB, (B.gatherL (restL L t k) [] false).2)) = (res, rc)) := Lib.hid (by rw [← joinL_doc HI.out, ← HRES.out, if_neg (by omega), if_neg (by omega)]; simp only [Int.toNat_natCast])
  clear HRES
  have HML : Hid ((restL L t k).length ≤ 1000) := Lib.hid (by have := restTo_le L t k L.length; unfold restL; omega)
  have HSEC := Lib.hid (gatherL_sec HI.out (restL L t k) [] false (fun s hs => by cases hs))
  have HGL : Hid ((B.gatherL (restL L t k) [] false).1.length ≤ 1000) := Lib.hid (by have := gatherL_len (T := B) (restL L t k) [] false; have := HML.out; simp at *; omega)
  have HGM := Lib.hid (fun (W' : World) (v' : Value) (hk : Kept W W') (hv' : ESl W' v' (restL L t k)) => HGA.out W' v' (restL L t k) hk hv' HML.out)
  clear HGA HML
  have ht8 : t < 8 := by omega
  have hkl : k < L.length := by omega
  have hl2 : 2 ≤ L.length := by omega
  have HAT := Lib.hid fun (W : World) (he : ESl W (.slice oa L.length cap) L) (j : Nat) (hj : j < L.length) => rf_at he HN.out hj t (by omega)
  have HB9 := Lib.hid (And.intro hl2 (And.intro hl9 (And.intro ht8 hkl)))
  clear h2 hk0 hk1 ht0 ht1 ht8 hl2 hl9 HN t1
  have s1 : ¬ ((L.length : Int) < 2) := by have := HB9.out; omega
  have s2 : ¬ ((k : Int) < 0) := by omega
  have s3 : ¬ ((L.length : Int) ≤ (k : Int)) := by omega
  have s4 : ¬ ((t : Int) < 0) := by omega
  have s5 : ¬ (8 ≤ (t : Int)) := by have := HB9.out; omega
  clear hkl
  go_wp2
  go_loopw [10, 11] (fun v i wr => ∃ (j : Nat), j ≤ L.length ∧ i = .int .i64 j ∧ Hid (wr.ownsRow w1.heap.size 47 2 v (restTo L t k j).length (evals (restTo L t k j))) ∧ Hid (Kept w1 wr)) (fun _ i _ => L.length - (intOf i).toNat)
  case atStart => exact ⟨0, Nat.zero_le _, rfl, Lib.hid (owns_empty w1 _ 2), Lib.hid ((Kept.refl _).alloc _)⟩
  case round =>
    obtain ⟨j, hj, rfl, HO, HK⟩ := hrel
    obtain ⟨oa', cap', rfl⟩ := ownsRow_form1 HO.out
    have HLE := Lib.hid (restTo_le L t k j)
    have hL9 : (L.length : Int) ≤ 900 := by have := HB9.out; omega
    clear s1 s2 s3 s4 s5
    by_cases hlt : j < L.length
    · by_cases hjk : j = k
      · have HO2 : Hid (wr.ownsRow w1.heap.size 47 2 (.slice oa' (restTo L t k j).length cap') (restTo L t k (j + 1)).length (evals (restTo L t k (j + 1)))) := Lib.hid (by
          rw [show restTo L t k (j + 1) = restTo L t k j by rw [restTo, if_neg (by simpa using hjk)]]; exact HO.out)
        have t1 : ((j : Int) != (k : Int)) = false := by simp [hjk]
        have t2 : (j != k) = false := by simp [hjk]
        clear hjk HO
        go_wp2
        go_roundw
        case rel => exact ⟨j + 1, hlt, by go_num, HO2, HK⟩
        case measure => simp [intOf]; omega
      · have hst : restTo L t k (j + 1) = restTo L t k j ++ [plcAt L t j] := by rw [restTo, if_pos hjk]
        have HPJ := Lib.hid (HAT.out wr (HV1.out.kept HK.out) j hlt)
        generalize plcAt L t j = p at *
        obtain ⟨px, py⟩ := p
        have HST := Lib.hid hst
        have t1 : ((j : Int) != (k : Int)) = true := by simp; omega
        have t2 : (j != k) = true := by simp [hjk]
        have t3 : ¬ j = k := hjk
        clear hst
        go_wp2_with fail
        refine Calls.mono HPJ.out ?_
        rintro e w5 ⟨rfl, hk5⟩
        have HK5 := Lib.hid (HK.out.trans hk5); have HO5 := Lib.hid (ownsRow_kept HO.out hk5)
        clear hk5 HK HO HPJ
        go_wp2_with (refine stop_at (o := ⟨some 51, _, _, _, _, _⟩) ?_)
        refine Stop.mk ?_
        obtain ⟨ht', ⟨i1, z1, hi, hz, hsz', hby, hzs⟩, hpos⟩ := ty_places2
        refine wpList_append_own_wide _ rfl _ _ 39 rfl w1.heap.size 47 i1 z1 2 16 ht' hi hz hsz' hby hzs (by decide) _ (restTo L t k j).length (evals (restTo L t k j)) rfl (HO5.out.alloc _) ⟨w5.heap.size, 0, none⟩ 1 1 [.int .i64 px, .int .i64 py] rfl rfl (two_new _ _ _ _) (evals_one [(px, py)]) (by have : maxLen = 9223372036854775807 := rfl; have := HLE.out; have := HB9.out; omega) (by have := HLE.out; have := HB9.out; omega) (by have := HK5.out.size; rw [World.size_alloc]; omega) ?_
        intro v4 w4 hown hgrow _
        have HK4 : Hid (Kept w1 w4) := Lib.hid ((HK5.out.alloc _).grown hgrow (fun j ej => row_ge HO5.out ej))
        have HO4 : Hid (w4.ownsRow w1.heap.size 47 2 v4 (restTo L t k (j + 1)).length (evals (restTo L t k (j + 1)))) := Lib.hid (by rw [HST.out, evals_append, List.length_append]; exact hown)
        clear hown hgrow HO5 HK5 ht' hi hz hsz' hby hzs hpos HST
        go_wp2
        go_roundw
        case rel => exact ⟨j + 1, hlt, by go_num, HO4, HK4⟩
        case measure => simp [intOf]; omega
    · have hjL : restTo L t k j = restL L t k := by unfold restL; rw [show j = L.length by omega]
      rw [hjL] at HO HLE ⊢
      have HM2 := Lib.hid (ESl.of_owns rfl HO.out)
      have HR2 := Lib.hid (HK.out.block HR1.out); have HK2 := Lib.hid (HK1.out.trans HK.out)
      clear hjL HO HK HR1 HK1 HV1 HAT
      generalize restL L t k = M at *
      obtain ⟨G, g, hg⟩ : ∃ G g, B.gatherL M [] false = (G, g) := ⟨_, _, rfl⟩
      rw [hg] at HGM HRES2 HSEC HGL
      simp only at HGM HRES2 HSEC HGL
      clear hg
      have HRES := HRES2
      clear HRES2
      go_wp2_with fail
      refine Calls.mono (HGM.out _ _ HK2.out HM2.out) ?_
      rintro e w3 ⟨r2, rfl, hS, hF, hk⟩
      have HS3 := Lib.hid hS
      have HK3 := Lib.hid (HK2.out.trans hk)
      have HR3 := Lib.hid (hk.block HR2.out)
      have HM3 := Lib.hid (HM2.out.kept hk)
      clear HK2 HR2 HM2 hk hS hF HGM
      clear HM3
      by_cases hg0 : g = 0
      · subst hg0
        have hj : (xorL G, 0) = (res, rc) := by rw [← HRES.out]; simp
        injection hj with hj1 hj2
        subst hj1
        subst hj2
        clear HRES 
        have HZ := Lib.hid (xorL_sec HSEC.out)
        go_wp2_with fail
        refine Calls.mono (ref_Build HS3.out.sl HSEC.out (by have := HGL.out; omega)) ?_
        rintro e w4 ⟨rfl, hk⟩
        have HK4 := Lib.hid (HK3.out.trans hk)
        have HR4 := Lib.hid (hk.block HR3.out)
        have HS4 := Lib.hid (HS3.out.kept hk)
        clear HK3 HR3 HS3 hk 
        go_wp2_with (refine stop_at (o := ⟨none, .store _ _ _, _, _, _, _⟩) ?_)
        refine Stop.mk ?_
        refine wpList_store_agg rfl _ _ rfl ty_sec Rb 0 rfl (u8s (xorL G)) rfl (by rw [u8s_length, HZ.out.1]) (u8s_one _) _ _ HR4.out (by rw [u8s_length, zeroB_length]; decide) ?_
        intro wz hw
        replace hw := hw.all (by simp [u8s_length, zeroB_length, HZ.out.1])
        have HW := Lib.hid hw
        have HKZ : Hid (Kept W wz) := Lib.hid (hw.kept HK4.out (by have := GE_Rb.out; omega))
        clear hw
        go_wp2
        refine bodyPost_ret (results_sec rfl _ _ Rb (xorL G) rfl HW.out.cells (HZ.out.1)) rfl ?_
        exact ⟨rfl, HKZ.out⟩
      · have t1 : (g != 0) = true := by simpa using hg0
        have hj : (zeroB, g) = (res, rc) := by rw [← HRES.out]; simp [hg0]
        injection hj with hj1 hj2
        subst hj1
        subst hj2
        clear HRES 
        go_wp2_with (refine stop_at (o := ⟨some 60, _, _, _, _, _⟩) ?_)
        refine Stop.mk ?_
        refine wpList_zero_sec rfl rfl ?_
        go_wp2_with (refine stop_at (o := ⟨none, .store _ _ _, _, _, _, _⟩) ?_)
        refine Stop.mk ?_
        refine wpList_store_agg rfl _ _ rfl ty_sec Rb 0 rfl (u8s zeroB) rfl (by rw [u8s_length, zeroB_length]) (u8s_one _) _ _ HR3.out (by rw [u8s_length, zeroB_length]; decide) ?_
        intro wz hw
        replace hw := hw.all (by simp [u8s_length, zeroB_length, zeroB_length])
        have HW := Lib.hid hw
        have HKZ : Hid (Kept W wz) := Lib.hid (hw.kept HK3.out (by have := GE_Rb.out; omega))
        clear hw
        go_wp2
        refine bodyPost_ret (results_sec rfl _ _ Rb zeroB rfl HW.out.cells (zeroB_length)) rfl ?_
        exact ⟨rfl, HKZ.out⟩
theorem s13_Plug (h : RB w0 R W q B) (u : B.Doc) {v : Value} {L : List (Int × Int)} (hv : ESl W v L) (hN : Near L) (hl9 : L.length ≤ 900) (slot : Int) {s : List Int} (hs : IsSec s) :
    Calls Tryz.prog 31 #[.pointer (some ⟨q, 0, none⟩), v, .int .i64 slot, .agg (u8s s).toArray] W fun e w' => e = .returned (.tuple #[secV (B.plugU L slot s).1, .int .i64 (B.plugU L slot s).2]) ∧ Kept W w' := by
  have HI := Lib.hid u.inv
  have HSC := Lib.hid hs
  have HRD := Lib.hid (fun (W' : World) (x y : Int) (hk : Kept W W') => rb_Read (h.kept hk).1 u x y)
  have HGA := Lib.hid (fun (W' : World) (v' : Value) (L' : List (Int × Int)) (hk : Kept W W') (hv' : ESl W' v' L') (hl' : L'.length ≤ 1000) => s13_read (h.kept hk).1 u hv' hl')
  have HHM := Lib.hid fun (W : World) (he : ESl W v L) => rf_Home he hN slot
  obtain ⟨oa, cap, hvv⟩ : ∃ oa cap, v = .slice oa L.length cap := by obtain ⟨oa, cap, e, _⟩ := hv; exact ⟨oa, cap, e⟩
  subst hvv
  have hcode := home_code L slot
  obtain ⟨res, rc, hres⟩ : ∃ res rc, B.plugU L slot s = (res, rc) := ⟨_, _, rfl⟩
  rw [hres]
  unfold BankT.plugU at hres
  have HV0 := Lib.hid hv
  by_cases h0 : (splitX L.length slot).2.2 = 0
  · obtain ⟨s1, rfl, h2, hs8, hsp, hkk, htt⟩ := splitX_ok h0
    obtain ⟨m, hm⟩ : ∃ m, L.length = m + 1 := ⟨L.length - 1, by omega⟩
    have hmts := fun (W : World) (he : ESl W (.slice oa L.length cap) L) => rf_MatesF he hN hm (by omega) (by rw [hm] at hs8; exact hs8) hsp
    have hm1 : L.length - 1 = m := by omega
    have hq : ((s1 : Int)).tdiv (m : Int) = ((s1 / m : Nat) : Int) := by rw [Int.tdiv_eq_ediv_of_nonneg (Int.natCast_nonneg s1)]; rfl
    have hq2 : (s1 : Int) / (m : Int) = ((s1 / m : Nat) : Int) := by simp
    have hpar := fun (W : World) (he : ESl W (.slice oa L.length cap) L) => rf_Parity he hN ((s1 / m : Nat) : Int)
    have hr1 : ∀ z : Nat, z < 8 → rightX L.length (z : Int) = 0 := fun z hz => by unfold rightX; rw [if_neg (by omega), if_neg (by omega)]
    have hr0 : rightX L.length ((s1 / m : Nat) : Int) = 0 := hr1 _ (by rw [hm1] at htt; exact htt)
    have hpx : parityX L ((s1 / m : Nat) : Int) = (plcAt L (s1 / m) (holdN L.length (s1 / m)), 0) := by unfold parityX; rw [if_pos hr0, Int.toNat_natCast]
    have hhx : homeX L (s1 : Int) = (plcAt L (s1 / (L.length - 1)) (slotK L.length (s1 / (L.length - 1)) (s1 % (L.length - 1))), 0) := homeX_in h2 hs8
    rw [if_neg (by simpa using h0), hsp] at hres
    simp only [Int.toNat_natCast] at hres
    unfold BankT.plugL at hres
    rw [joinL_docS HI.out HSC.out] at hres
    simp only [hhx] at HHM
    simp only [hpx] at hpar
    rw [hm1] at hres HHM hmts
    have hDl := dataTo_le L (s1 / m) ((slotK L.length (s1 / m) (s1 % m) : Nat) : Int) L.length
    have HD9 : Hid ((dataS L (s1 / m) ((slotK L.length (s1 / m) (s1 % m) : Nat) : Int)).length ≤ 900) := Lib.hid (by unfold dataS; omega)
    generalize dataS L (s1 / m) ((slotK L.length (s1 / m) (s1 % m) : Nat) : Int) = D at *
    generalize plcAt L (s1 / m) (slotK L.length (s1 / m) (s1 % m)) = pa at *
    generalize plcAt L (s1 / m) (holdN L.length (s1 / m)) = pb at *
    obtain ⟨x, y⟩ := pa
    obtain ⟨px, py⟩ := pb
    obtain ⟨sx, c, hr⟩ : ∃ sx c, B.read x y = (sx, c) := ⟨_, _, rfl⟩
    obtain ⟨sp, cp, hrp⟩ : ∃ sx c, B.read px py = (sx, c) := ⟨_, _, rfl⟩
    have HSX : Hid (IsSec sx) := Lib.hid (by have := BankT.read_sec HI.out x y; rw [hr] at this; exact this)
    have HSP : Hid (IsSec sp) := Lib.hid (by have := BankT.read_sec HI.out px py; rw [hrp] at this; exact this)
    have HRX := Lib.hid (fun (W' : World) (hk : Kept W W') => by have := HRD.out W' x y hk; rw [hr] at this; exact this)
    have HRP := Lib.hid (fun (W' : World) (hk : Kept W W') => by have := HRD.out W' px py hk; rw [hrp] at this; exact this)
    rw [hr, hrp] at hres
    simp only at hres HHM hpar
    have HSEC := Lib.hid (gatherL_sec HI.out D [] false (fun s hs => by cases hs))
    have HGL : Hid ((B.gatherL D [] false).1.length ≤ 1000) := Lib.hid (by have := gatherL_len (T := B) D [] false; have := HD9.out; simp at *; omega)
    have HGM := Lib.hid (fun (W' : World) (v' : Value) (hk : Kept W W') (hv' : ESl W' v' D) => HGA.out W' v' D hk hv' (by have := HD9.out; omega))
    obtain ⟨G, g, hg⟩ : ∃ G g, B.gatherL D [] false = (G, g) := ⟨_, _, rfl⟩
    rw [hg] at HGM hres HSEC HGL
    simp only at HGM hres HSEC HGL
    have HRES := Lib.hid hres
    have HMT := Lib.hid hmts
    have HPR := Lib.hid hpar
    have HM9 : Hid (1 ≤ m ∧ m ≤ 900 ∧ s1 < 8 * 900 ∧ s1 < 8 * m) := Lib.hid (by rw [hm1] at hs8; exact ⟨by omega, by omega, by omega, by omega⟩)
    clear h u hv hN hl9 hcode hres h0 h2 hs8 hsp hkk htt hr0 hr1 hpx hhx hDl hr hrp hg hmts hpar HGA HRD hm1 hs
    rw [hm] at HV0 HHM HMT HPR ⊢
    clear hm
    have h8 : s1 / m < 8 := by have := HM9.out; rw [Nat.div_lt_iff_lt_mul (by omega)]; omega
    generalize s1 / m = tq at *
    have hm1 : 1 ≤ m := HM9.out.1
    have hm9 : m ≤ 900 := HM9.out.2.1
    have hs9 : s1 < 7200 := by have := HM9.out; omega
    have HQ := Lib.hid hq2
    clear hq hq2
    go_enter Tryz.func31, Tryz.ntmps31
    go_wp2_with (refine stop_at (o := ⟨some 7, _, _, _, _, _⟩) ?_)
    refine Stop.mk ?_
    refine wpList_box_row rfl _ _ rfl (u8s s) rfl ?_
    intro w1 hz hs hk
    have HS1 := hz
    have HV1 := Lib.hid (HV0.out.kept hk)
    have GE_Ob := Lib.hid (Nat.le_refl W.heap.size)
    have HK1 := Lib.hid hk
    obtain ⟨Ob, hE⟩ : ∃ b, b = W.heap.size := ⟨_, rfl⟩
    rw [← hE] at HS1 hs GE_Ob ⊢
    replace GE_Ob := Lib.hid (Nat.le_of_eq hE.symm)
    clear hE
    clear HV0 hz hs hk
    go_wp2_with (refine stop_at (o := ⟨some 8, _, _, _, _, _⟩) ?_)
    refine Stop.mk ?_
    refine wpList_alloc_abs rfl 43 rfl (u8s zeroB) zero_sec ?_
    intro w2 hz hs hn hk
    have HR2 := hz
    have HV2 := Lib.hid (HV1.out.kept hk)
    have HK2 := Lib.hid (HK1.out.trans hk)
    have HS2 := Lib.hid (hk.block HS1.out)
    have GE_Rb := Lib.hid (HK1.out.size)
    generalize w1.heap.size = Rb at *
    clear HV1 HK1 HS1 hz hs hk hn
    go_wp2_with fail
    refine Calls.mono (HHM.out _ HV2.out) ?_
    rintro e w3 ⟨rfl, hk⟩
    have HV3 := Lib.hid (HV2.out.kept hk)
    have HK3 := Lib.hid (HK2.out.trans hk)
    have HS3 := Lib.hid (hk.block HS2.out)
    have HR3 := Lib.hid (hk.block HR2.out)
    clear HV2 HK2 HS2 HR2 hk HHM
    go_wp2_with (refine stop_at (o := ⟨some 10, _, _, _, _, _⟩) ?_)
    refine Stop.mk ?_
    refine wpList_new_row rfl rfl _ _ rfl rfl ty_plc _ zero_plc rfl [.int .i64 x, .int .i64 y] rfl rfl (one_plc _ _) rfl ?_
    intro w4 hz hs hk
    have HP4 := hz
    have HV4 := Lib.hid (HV3.out.kept hk)
    have HK4 := Lib.hid (HK3.out.trans hk)
    have HS4 := Lib.hid (hk.block HS3.out)
    have HR4 := Lib.hid (hk.block HR3.out)
    have GE_Pb := Lib.hid (HK3.out.size)
    generalize w3.heap.size = Pb at *
    clear HV3 HK3 HS3 HR3 hz hs hk
    go_wp2_with (refine stop_at (o := ⟨some 36, _, _, _, _, _⟩) ?_)
    refine Stop.mk ?_
    refine wpList_load_agg rfl _ rfl ty_plc Pb 0 rfl [.int .i64 x, .int .i64 y] (by simpa using Cells.of_block HP4.out) rfl ?_
    clear HP4
    go_wp2_with fail
    refine Calls.mono (HRX.out _ HK4.out) ?_
    rintro e w5 ⟨rfl, hk⟩
    have HV5 := Lib.hid (HV4.out.kept hk)
    have HK5 := Lib.hid (HK4.out.trans hk)
    have HS5 := Lib.hid (hk.block HS4.out)
    have HR5 := Lib.hid (hk.block HR4.out)
    clear HV4 HK4 HS4 HR4 hk HRX
    go_wp2_with (refine stop_at (o := ⟨some 12, _, _, _, _, _⟩) ?_)
    refine Stop.mk ?_
    refine wpList_new_row rfl rfl _ _ rfl rfl ty_sec (u8s zeroB) zero_sec (by rw [u8s_length, zeroB_length]) (u8s sx) rfl (by rw [u8s_length, HSX.out.1]) (u8s_one _) rfl ?_
    intro w6 hz hs hk
    have HX6 := hz
    have HV6 := Lib.hid (HV5.out.kept hk)
    have HK6 := Lib.hid (HK5.out.trans hk)
    have HS6 := Lib.hid (hk.block HS5.out)
    have HR6 := Lib.hid (hk.block HR5.out)
    have GE_Xb := Lib.hid (HK5.out.size)
    generalize w5.heap.size = Xb at *
    clear HV5 HK5 HS5 HR5 hz hs hk
    go_wp2_with fail
    refine Calls.mono (doc_Lost c _) ?_
    rintro e w' ⟨rfl, rfl⟩
    have ccase : c = 0 ∨ (c ≠ 0 ∧ lostB c = true) ∨ (c ≠ 0 ∧ lostB c = false) := by cases lostB c <;> simp <;> omega
    rcases ccase with hc | ⟨hc, hcl⟩ | ⟨hc, hcl⟩
    · subst hc
      have hcl0 : lostB 0 = false := rfl
      go_wp2_with fail
      simp only [HQ.out, show wrap64 (tq : Int) = (tq : Int) from by unfold wrap64; omega]
      refine Calls.mono (HPR.out _ HV6.out) ?_
      rintro e w7 ⟨rfl, hk⟩
      have HV7 := Lib.hid (HV6.out.kept hk)
      have HK7 := Lib.hid (HK6.out.trans hk)
      have HS7 := Lib.hid (hk.block HS6.out)
      have HR7 := Lib.hid (hk.block HR6.out)
      have HX7 := Lib.hid (hk.block HX6.out)
      clear HV6 HK6 HS6 HR6 HX6 hk HPR
      go_wp2_with (refine stop_at (o := ⟨some 15, _, _, _, _, _⟩) ?_)
      refine Stop.mk ?_
      refine wpList_new_row rfl rfl _ _ rfl rfl ty_plc _ zero_plc rfl [.int .i64 px, .int .i64 py] rfl rfl (one_plc _ _) rfl ?_
      intro w8 hz hs hk
      have HQ8 := hz
      have HV8 := Lib.hid (HV7.out.kept hk)
      have HK8 := Lib.hid (HK7.out.trans hk)
      have HS8 := Lib.hid (hk.block HS7.out)
      have HR8 := Lib.hid (hk.block HR7.out)
      have HX8 := Lib.hid (hk.block HX7.out)
      have GE_Qb := Lib.hid (HK7.out.size)
      generalize w7.heap.size = Qb at *
      clear HV7 HK7 HS7 HR7 HX7 hz hs hk
      go_wp2_with (refine stop_at (o := ⟨some 62, _, _, _, _, _⟩) ?_)
      refine Stop.mk ?_
      refine wpList_load_agg rfl _ rfl ty_plc Qb 0 rfl [.int .i64 px, .int .i64 py] (by simpa using Cells.of_block HQ8.out) rfl ?_
      clear HQ8
      go_wp2_with fail
      refine Calls.mono (HRP.out _ HK8.out) ?_
      rintro e w9 ⟨rfl, hk⟩
      have HV9 := Lib.hid (HV8.out.kept hk)
      have HK9 := Lib.hid (HK8.out.trans hk)
      have HS9 := Lib.hid (hk.block HS8.out)
      have HR9 := Lib.hid (hk.block HR8.out)
      have HX9 := Lib.hid (hk.block HX8.out)
      clear HV8 HK8 HS8 HR8 HX8 hk HRP
      go_wp2_with (refine stop_at (o := ⟨some 17, _, _, _, _, _⟩) ?_)
      refine Stop.mk ?_
      refine wpList_new_row rfl rfl _ _ rfl rfl ty_sec (u8s zeroB) zero_sec (by rw [u8s_length, zeroB_length]) (u8s sp) rfl (by rw [u8s_length, HSP.out.1]) (u8s_one _) rfl ?_
      intro w10 hz hs hk
      have HY10 := hz
      have HV10 := Lib.hid (HV9.out.kept hk)
      have HK10 := Lib.hid (HK9.out.trans hk)
      have HS10 := Lib.hid (hk.block HS9.out)
      have HR10 := Lib.hid (hk.block HR9.out)
      have HX10 := Lib.hid (hk.block HX9.out)
      have GE_Yb := Lib.hid (HK9.out.size)
      generalize w9.heap.size = Yb at *
      clear HV9 HK9 HS9 HR9 HX9 hz hs hk
      go_wp2_with fail
      refine Calls.mono (doc_Lost cp _) ?_
      rintro e w' ⟨rfl, rfl⟩
      have dcase : cp = 0 ∨ (cp ≠ 0 ∧ lostB cp = true) ∨ (cp ≠ 0 ∧ lostB cp = false) := by cases lostB cp <;> simp <;> omega
      rcases dcase with hd | ⟨hd, hdl⟩ | ⟨hd, hdl⟩
      · subst hd
        have hl0 : lostB 0 = false := rfl
        have hj : (xorS (xorS sx sp) s, 0) = (res, rc) := by rw [← HRES.out]; simp [hl0]
        injection hj with hj1 hj2
        subst hj1
        subst hj2
        clear HRES 
        have HL := Lib.hid (xorS_sec (xorS_sec HSX.out HSP.out) HSC.out).1
        go_wp2_with (refine stop_at (o := ⟨some 82, _, _, _, _, _⟩) ?_)
        refine Stop.mk ?_
        refine wpList_load_agg rfl _ rfl ty_sec Xb 0 rfl (u8s sx) (by simpa using Cells.of_block HX10.out) (by rw [u8s_length, HSX.out.1]) ?_
        go_wp2_with (refine stop_at (o := ⟨some 83, _, _, _, _, _⟩) ?_)
        refine Stop.mk ?_
        refine wpList_load_agg rfl _ rfl ty_sec Yb 0 rfl (u8s sp) (by simpa using Cells.of_block HY10.out) (by rw [u8s_length, HSP.out.1]) ?_
        go_wp2_with (refine stop_at (o := ⟨some 84, _, _, _, _, _⟩) ?_)
        refine Stop.mk ?_
        refine wpList_load_agg rfl _ rfl ty_sec Ob 0 rfl (u8s s) (by simpa using Cells.of_block HS10.out) (by rw [u8s_length, HSC.out.1]) ?_
        go_wp2_with fail
        refine Calls.mono (ref_Plug HSX.out HSP.out HSC.out _) ?_
        rintro e w11 ⟨rfl, hk⟩
        have HV11 := Lib.hid (HV10.out.kept hk)
        have HK11 := Lib.hid (HK10.out.trans hk)
        have HS11 := Lib.hid (hk.block HS10.out)
        have HR11 := Lib.hid (hk.block HR10.out)
        have HX11 := Lib.hid (hk.block HX10.out)
        have HY11 := Lib.hid (hk.block HY10.out)
        clear HV10 HK10 HS10 HR10 HX10 HY10 hk 
        go_wp2_with (refine stop_at (o := ⟨none, .store _ _ _, _, _, _, _⟩) ?_)
        refine Stop.mk ?_
        refine wpList_store_agg rfl _ _ rfl ty_sec Rb 0 rfl (u8s (xorS (xorS sx sp) s)) rfl (by rw [u8s_length, HL.out]) (u8s_one _) _ _ HR11.out (by rw [u8s_length, zeroB_length]; decide) ?_
        intro wz hw
        replace hw := hw.all (by simp [u8s_length, zeroB_length, HL.out])
        have HW := Lib.hid hw
        have HKZ : Hid (Kept W wz) := Lib.hid (hw.kept HK11.out (by have := GE_Rb.out; have := GE_Ob.out; omega))
        clear hw
        go_wp2
        refine bodyPost_ret (results_sec rfl _ _ Rb (xorS (xorS sx sp) s) rfl HW.out.cells (HL.out)) rfl ?_
        exact ⟨rfl, HKZ.out⟩
      · have d1 : (cp == 0) = false := by simpa using hd
        have d2 : (cp != 0) = true := by simpa using hd
        have hl0 : lostB 0 = false := rfl
        rw [hdl]
        have HR2 : Hid ((if g = 0 then (xorL (G ++ [s]), 0) else (zeroB, g)) = (res, rc)) := Lib.hid (by rw [← HRES.out]; simp [hd, hdl, hl0])
        clear HRES
        have HRES := HR2
        clear HR2
        go_wp2_with fail
        refine Calls.mono (HMT.out _ HV10.out) ?_
        rintro e w11 ⟨ra, rcap, rfl, hcap, hM, hk⟩
        have HMD11 := Lib.hid (ESl.front hM)
        have HV11 := Lib.hid (HV10.out.kept hk)
        have HK11 := Lib.hid (HK10.out.trans hk)
        have HS11 := Lib.hid (hk.block HS10.out)
        have HR11 := Lib.hid (hk.block HR10.out)
        have HX11 := Lib.hid (hk.block HX10.out)
        have HY11 := Lib.hid (hk.block HY10.out)
        clear HV10 HK10 HS10 HR10 HX10 HY10 hk hM HMT
        clear HV11 HX11 HY11
        have e1 : D.length ≤ 900 := HD9.out
        have e2 : D.length ≤ rcap := by omega
        have e3 : (D.length : Int) ≤ (rcap : Int) := by omega
        clear hcap
        go_wp2_with fail
        clear e1 e2 e3
        refine Calls.mono (HGM.out _ _ HK11.out HMD11.out) ?_
        rintro e w12 ⟨r2, rfl, hS, hF, hk⟩
        have HG12 := Lib.hid hS
        have HF : Hid (From W.heap.size r2) := Lib.hid (fun g hg => Nat.le_trans HK11.out.size (hF g hg))
        have HNE : Hid (r2.ownBlock ≠ some Rb) := Lib.hid (fun e => by have h1 := hF _ e; have h2 := (Array.getElem?_eq_some_iff.1 HR11.out).1; omega)
        have HK12 := Lib.hid (HK11.out.trans hk)
        have HS12 := Lib.hid (hk.block HS11.out)
        have HR12 := Lib.hid (hk.block HR11.out)
        clear HK11 HS11 HR11 hk hS hF HGM HMD11
        by_cases hg0 : g = 0
        · subst hg0
          have hj : (xorL (G ++ [s]), 0) = (res, rc) := by rw [← HRES.out]; simp
          injection hj with hj1 hj2
          subst hj1
          subst hj2
          clear HRES 
          have HSN : Hid (∀ t ∈ G ++ [s], IsSec t) := Lib.hid (fun t ht => by rcases List.mem_append.1 ht with ht | ht; exact HSEC.out t ht; rw [List.mem_singleton.1 ht]; exact HSC.out)
          have HL := Lib.hid (xorL_sec HSN.out).1
          go_wp2_with (refine stop_at (o := ⟨some 107, _, _, _, _, _⟩) ?_)
          refine Stop.mk ?_
          refine wpList_load_agg rfl _ rfl ty_sec Ob 0 rfl (u8s s) (by simpa using Cells.of_block HS12.out) (by rw [u8s_length, HSC.out.1]) ?_
          go_wp2_with (refine stop_at (o := ⟨some 108, _, _, _, _, _⟩) ?_)
          refine Stop.mk ?_
          refine wpList_one_sec rfl _ rfl s HSC.out.1 rfl ?_
          intro w13 hz hs hk
          have HZ13 := hz
          have HK13 := Lib.hid (HK12.out.trans hk)
          have HS13 := Lib.hid (hk.block HS12.out)
          have HR13 := Lib.hid (hk.block HR12.out)
          have HG13 := Lib.hid (HG12.out.kept hk)
          have GE_Zb := Lib.hid (HK12.out.size)
          generalize w12.heap.size = Zb at *
          clear HK12 HS12 HR12 HG12 hz hs hk
          go_wp2_with (refine stop_at (o := ⟨some 109, _, _, _, _, _⟩) ?_)
          refine Stop.mk ?_
          refine wpList_append_sec rfl _ _ rfl G rfl HG13.out (by have := HGL.out; omega) Zb rfl s HSC.out.1 HZ13.out ?_
          intro v9 w14 hv9 hg9
          have HN14 := Lib.hid hv9
          have HK14 := Lib.hid (hg9.keeps HK13.out HF.out)
          have HR14 := Lib.hid ((hg9.blk (Array.getElem?_eq_some_iff.1 HR13.out).1 HNE.out).trans HR13.out)
          clear hv9 hg9 HG13 HZ13 HS13 HK13 HR13
          go_wp2_with fail
          refine Calls.mono (ref_Build HN14.out.sl HSN.out (by rw [List.length_append]; have := HGL.out; simp; omega)) ?_
          rintro e w15 ⟨rfl, hk⟩
          have HK15 := Lib.hid (HK14.out.trans hk)
          have HR15 := Lib.hid (hk.block HR14.out)
          have HN15 := Lib.hid (HN14.out.kept hk)
          clear HK14 HR14 HN14 hk 
          go_wp2_with (refine stop_at (o := ⟨none, .store _ _ _, _, _, _, _⟩) ?_)
          refine Stop.mk ?_
          refine wpList_store_agg rfl _ _ rfl ty_sec Rb 0 rfl (u8s (xorL (G ++ [s]))) rfl (by rw [u8s_length, HL.out]) (u8s_one _) _ _ HR15.out (by rw [u8s_length, zeroB_length]; decide) ?_
          intro wz hw
          replace hw := hw.all (by simp [u8s_length, zeroB_length, HL.out])
          have HW := Lib.hid hw
          have HKZ : Hid (Kept W wz) := Lib.hid (hw.kept HK15.out (by have := GE_Rb.out; have := GE_Ob.out; omega))
          clear hw
          go_wp2
          refine bodyPost_ret (results_sec rfl _ _ Rb (xorL (G ++ [s])) rfl HW.out.cells (HL.out)) rfl ?_
          exact ⟨rfl, HKZ.out⟩
        · have t1 : (g != 0) = true := by simpa using hg0
          have hj : (zeroB, g) = (res, rc) := by rw [← HRES.out]; simp [hg0]
          injection hj with hj1 hj2
          subst hj1
          subst hj2
          clear HRES 
          go_wp2_with (refine stop_at (o := ⟨some 104, _, _, _, _, _⟩) ?_)
          refine Stop.mk ?_
          refine wpList_zero_sec rfl rfl ?_
          go_wp2_with (refine stop_at (o := ⟨none, .store _ _ _, _, _, _, _⟩) ?_)
          refine Stop.mk ?_
          refine wpList_store_agg rfl _ _ rfl ty_sec Rb 0 rfl (u8s zeroB) rfl (by rw [u8s_length, zeroB_length]) (u8s_one _) _ _ HR12.out (by rw [u8s_length, zeroB_length]; decide) ?_
          intro wz hw
          replace hw := hw.all (by simp [u8s_length, zeroB_length, zeroB_length])
          have HW := Lib.hid hw
          have HKZ : Hid (Kept W wz) := Lib.hid (hw.kept HK12.out (by have := GE_Rb.out; have := GE_Ob.out; omega))
          clear hw
          go_wp2
          refine bodyPost_ret (results_sec rfl _ _ Rb zeroB rfl HW.out.cells (zeroB_length)) rfl ?_
          exact ⟨rfl, HKZ.out⟩
      · have d1 : (cp == 0) = false := by simpa using hd
        have d2 : (cp != 0) = true := by simpa using hd
        have hl0 : lostB 0 = false := rfl
        rw [hdl]
        have hj : (zeroB, cp) = (res, rc) := by rw [← HRES.out]; simp [hd, hdl, hl0]
        injection hj with hj1 hj2
        subst hj1
        subst hj2
        clear HRES 
        go_wp2_with (refine stop_at (o := ⟨some 74, _, _, _, _, _⟩) ?_)
        refine Stop.mk ?_
        refine wpList_zero_sec rfl rfl ?_
        go_wp2_with (refine stop_at (o := ⟨none, .store _ _ _, _, _, _, _⟩) ?_)
        refine Stop.mk ?_
        refine wpList_store_agg rfl _ _ rfl ty_sec Rb 0 rfl (u8s zeroB) rfl (by rw [u8s_length, zeroB_length]) (u8s_one _) _ _ HR10.out (by rw [u8s_length, zeroB_length]; decide) ?_
        intro wz hw
        replace hw := hw.all (by simp [u8s_length, zeroB_length, zeroB_length])
        have HW := Lib.hid hw
        have HKZ : Hid (Kept W wz) := Lib.hid (hw.kept HK10.out (by have := GE_Rb.out; have := GE_Ob.out; omega))
        clear hw
        go_wp2
        refine bodyPost_ret (results_sec rfl _ _ Rb zeroB rfl HW.out.cells (zeroB_length)) rfl ?_
        exact ⟨rfl, HKZ.out⟩
    · have c1 : (c == 0) = false := by simpa using hc
      have c2 : (c != 0) = true := by simpa using hc
      rw [hcl]
      go_wp2_with fail
      simp only [HQ.out, show wrap64 (tq : Int) = (tq : Int) from by unfold wrap64; omega]
      refine Calls.mono (HPR.out _ HV6.out) ?_
      rintro e w7 ⟨rfl, hk⟩
      have HV7 := Lib.hid (HV6.out.kept hk)
      have HK7 := Lib.hid (HK6.out.trans hk)
      have HS7 := Lib.hid (hk.block HS6.out)
      have HR7 := Lib.hid (hk.block HR6.out)
      have HX7 := Lib.hid (hk.block HX6.out)
      clear HV6 HK6 HS6 HR6 HX6 hk HPR
      go_wp2_with (refine stop_at (o := ⟨some 15, _, _, _, _, _⟩) ?_)
      refine Stop.mk ?_
      refine wpList_new_row rfl rfl _ _ rfl rfl ty_plc _ zero_plc rfl [.int .i64 px, .int .i64 py] rfl rfl (one_plc _ _) rfl ?_
      intro w8 hz hs hk
      have HQ8 := hz
      have HV8 := Lib.hid (HV7.out.kept hk)
      have HK8 := Lib.hid (HK7.out.trans hk)
      have HS8 := Lib.hid (hk.block HS7.out)
      have HR8 := Lib.hid (hk.block HR7.out)
      have HX8 := Lib.hid (hk.block HX7.out)
      have GE_Qb := Lib.hid (HK7.out.size)
      generalize w7.heap.size = Qb at *
      clear HV7 HK7 HS7 HR7 HX7 hz hs hk
      go_wp2_with (refine stop_at (o := ⟨some 62, _, _, _, _, _⟩) ?_)
      refine Stop.mk ?_
      refine wpList_load_agg rfl _ rfl ty_plc Qb 0 rfl [.int .i64 px, .int .i64 py] (by simpa using Cells.of_block HQ8.out) rfl ?_
      clear HQ8
      go_wp2_with fail
      refine Calls.mono (HRP.out _ HK8.out) ?_
      rintro e w9 ⟨rfl, hk⟩
      have HV9 := Lib.hid (HV8.out.kept hk)
      have HK9 := Lib.hid (HK8.out.trans hk)
      have HS9 := Lib.hid (hk.block HS8.out)
      have HR9 := Lib.hid (hk.block HR8.out)
      have HX9 := Lib.hid (hk.block HX8.out)
      clear HV8 HK8 HS8 HR8 HX8 hk HRP
      go_wp2_with (refine stop_at (o := ⟨some 17, _, _, _, _, _⟩) ?_)
      refine Stop.mk ?_
      refine wpList_new_row rfl rfl _ _ rfl rfl ty_sec (u8s zeroB) zero_sec (by rw [u8s_length, zeroB_length]) (u8s sp) rfl (by rw [u8s_length, HSP.out.1]) (u8s_one _) rfl ?_
      intro w10 hz hs hk
      have HY10 := hz
      have HV10 := Lib.hid (HV9.out.kept hk)
      have HK10 := Lib.hid (HK9.out.trans hk)
      have HS10 := Lib.hid (hk.block HS9.out)
      have HR10 := Lib.hid (hk.block HR9.out)
      have HX10 := Lib.hid (hk.block HX9.out)
      have GE_Yb := Lib.hid (HK9.out.size)
      generalize w9.heap.size = Yb at *
      clear HV9 HK9 HS9 HR9 HX9 hz hs hk
      go_wp2_with fail
      refine Calls.mono (doc_Lost cp _) ?_
      rintro e w' ⟨rfl, rfl⟩
      have dcase : cp = 0 ∨ (cp ≠ 0 ∧ lostB cp = true) ∨ (cp ≠ 0 ∧ lostB cp = false) := by cases lostB cp <;> simp <;> omega
      rcases dcase with hd | ⟨hd, hdl⟩ | ⟨hd, hdl⟩
      · subst hd
        have hl0 : lostB 0 = false := rfl
        have HR2 : Hid ((if g = 0 then (xorL (G ++ [s]), 0) else (zeroB, g)) = (res, rc)) := Lib.hid (by rw [← HRES.out]; simp [hc, hcl, hl0])
        clear HRES
        have HRES := HR2
        clear HR2
        go_wp2_with fail
        refine Calls.mono (HMT.out _ HV10.out) ?_
        rintro e w11 ⟨ra, rcap, rfl, hcap, hM, hk⟩
        have HMD11 := Lib.hid (ESl.front hM)
        have HV11 := Lib.hid (HV10.out.kept hk)
        have HK11 := Lib.hid (HK10.out.trans hk)
        have HS11 := Lib.hid (hk.block HS10.out)
        have HR11 := Lib.hid (hk.block HR10.out)
        have HX11 := Lib.hid (hk.block HX10.out)
        have HY11 := Lib.hid (hk.block HY10.out)
        clear HV10 HK10 HS10 HR10 HX10 HY10 hk hM HMT
        clear HV11 HX11 HY11
        have e1 : D.length ≤ 900 := HD9.out
        have e2 : D.length ≤ rcap := by omega
        have e3 : (D.length : Int) ≤ (rcap : Int) := by omega
        clear hcap
        go_wp2_with fail
        clear e1 e2 e3
        refine Calls.mono (HGM.out _ _ HK11.out HMD11.out) ?_
        rintro e w12 ⟨r2, rfl, hS, hF, hk⟩
        have HG12 := Lib.hid hS
        have HF : Hid (From W.heap.size r2) := Lib.hid (fun g hg => Nat.le_trans HK11.out.size (hF g hg))
        have HNE : Hid (r2.ownBlock ≠ some Rb) := Lib.hid (fun e => by have h1 := hF _ e; have h2 := (Array.getElem?_eq_some_iff.1 HR11.out).1; omega)
        have HK12 := Lib.hid (HK11.out.trans hk)
        have HS12 := Lib.hid (hk.block HS11.out)
        have HR12 := Lib.hid (hk.block HR11.out)
        clear HK11 HS11 HR11 hk hS hF HGM HMD11
        by_cases hg0 : g = 0
        · subst hg0
          have hj : (xorL (G ++ [s]), 0) = (res, rc) := by rw [← HRES.out]; simp
          injection hj with hj1 hj2
          subst hj1
          subst hj2
          clear HRES 
          have HSN : Hid (∀ t ∈ G ++ [s], IsSec t) := Lib.hid (fun t ht => by rcases List.mem_append.1 ht with ht | ht; exact HSEC.out t ht; rw [List.mem_singleton.1 ht]; exact HSC.out)
          have HL := Lib.hid (xorL_sec HSN.out).1
          go_wp2_with (refine stop_at (o := ⟨some 107, _, _, _, _, _⟩) ?_)
          refine Stop.mk ?_
          refine wpList_load_agg rfl _ rfl ty_sec Ob 0 rfl (u8s s) (by simpa using Cells.of_block HS12.out) (by rw [u8s_length, HSC.out.1]) ?_
          go_wp2_with (refine stop_at (o := ⟨some 108, _, _, _, _, _⟩) ?_)
          refine Stop.mk ?_
          refine wpList_one_sec rfl _ rfl s HSC.out.1 rfl ?_
          intro w13 hz hs hk
          have HZ13 := hz
          have HK13 := Lib.hid (HK12.out.trans hk)
          have HS13 := Lib.hid (hk.block HS12.out)
          have HR13 := Lib.hid (hk.block HR12.out)
          have HG13 := Lib.hid (HG12.out.kept hk)
          have GE_Zb := Lib.hid (HK12.out.size)
          generalize w12.heap.size = Zb at *
          clear HK12 HS12 HR12 HG12 hz hs hk
          go_wp2_with (refine stop_at (o := ⟨some 109, _, _, _, _, _⟩) ?_)
          refine Stop.mk ?_
          refine wpList_append_sec rfl _ _ rfl G rfl HG13.out (by have := HGL.out; omega) Zb rfl s HSC.out.1 HZ13.out ?_
          intro v9 w14 hv9 hg9
          have HN14 := Lib.hid hv9
          have HK14 := Lib.hid (hg9.keeps HK13.out HF.out)
          have HR14 := Lib.hid ((hg9.blk (Array.getElem?_eq_some_iff.1 HR13.out).1 HNE.out).trans HR13.out)
          clear hv9 hg9 HG13 HZ13 HS13 HK13 HR13
          go_wp2_with fail
          refine Calls.mono (ref_Build HN14.out.sl HSN.out (by rw [List.length_append]; have := HGL.out; simp; omega)) ?_
          rintro e w15 ⟨rfl, hk⟩
          have HK15 := Lib.hid (HK14.out.trans hk)
          have HR15 := Lib.hid (hk.block HR14.out)
          have HN15 := Lib.hid (HN14.out.kept hk)
          clear HK14 HR14 HN14 hk 
          go_wp2_with (refine stop_at (o := ⟨none, .store _ _ _, _, _, _, _⟩) ?_)
          refine Stop.mk ?_
          refine wpList_store_agg rfl _ _ rfl ty_sec Rb 0 rfl (u8s (xorL (G ++ [s]))) rfl (by rw [u8s_length, HL.out]) (u8s_one _) _ _ HR15.out (by rw [u8s_length, zeroB_length]; decide) ?_
          intro wz hw
          replace hw := hw.all (by simp [u8s_length, zeroB_length, HL.out])
          have HW := Lib.hid hw
          have HKZ : Hid (Kept W wz) := Lib.hid (hw.kept HK15.out (by have := GE_Rb.out; have := GE_Ob.out; omega))
          clear hw
          go_wp2
          refine bodyPost_ret (results_sec rfl _ _ Rb (xorL (G ++ [s])) rfl HW.out.cells (HL.out)) rfl ?_
          exact ⟨rfl, HKZ.out⟩
        · have t1 : (g != 0) = true := by simpa using hg0
          have hj : (zeroB, g) = (res, rc) := by rw [← HRES.out]; simp [hg0]
          injection hj with hj1 hj2
          subst hj1
          subst hj2
          clear HRES 
          go_wp2_with (refine stop_at (o := ⟨some 104, _, _, _, _, _⟩) ?_)
          refine Stop.mk ?_
          refine wpList_zero_sec rfl rfl ?_
          go_wp2_with (refine stop_at (o := ⟨none, .store _ _ _, _, _, _, _⟩) ?_)
          refine Stop.mk ?_
          refine wpList_store_agg rfl _ _ rfl ty_sec Rb 0 rfl (u8s zeroB) rfl (by rw [u8s_length, zeroB_length]) (u8s_one _) _ _ HR12.out (by rw [u8s_length, zeroB_length]; decide) ?_
          intro wz hw
          replace hw := hw.all (by simp [u8s_length, zeroB_length, zeroB_length])
          have HW := Lib.hid hw
          have HKZ : Hid (Kept W wz) := Lib.hid (hw.kept HK12.out (by have := GE_Rb.out; have := GE_Ob.out; omega))
          clear hw
          go_wp2
          refine bodyPost_ret (results_sec rfl _ _ Rb zeroB rfl HW.out.cells (zeroB_length)) rfl ?_
          exact ⟨rfl, HKZ.out⟩
      · have d1 : (cp == 0) = false := by simpa using hd
        have d2 : (cp != 0) = true := by simpa using hd
        have hl0 : lostB 0 = false := rfl
        rw [hdl]
        have HR2 : Hid ((if g = 0 then (xorL (G ++ [s]), 0) else (zeroB, g)) = (res, rc)) := Lib.hid (by rw [← HRES.out]; simp [hd, hdl, hl0, hc, hcl])
        clear HRES
        have HRES := HR2
        clear HR2
        go_wp2_with fail
        refine Calls.mono (HMT.out _ HV10.out) ?_
        rintro e w11 ⟨ra, rcap, rfl, hcap, hM, hk⟩
        have HMD11 := Lib.hid (ESl.front hM)
        have HV11 := Lib.hid (HV10.out.kept hk)
        have HK11 := Lib.hid (HK10.out.trans hk)
        have HS11 := Lib.hid (hk.block HS10.out)
        have HR11 := Lib.hid (hk.block HR10.out)
        have HX11 := Lib.hid (hk.block HX10.out)
        have HY11 := Lib.hid (hk.block HY10.out)
        clear HV10 HK10 HS10 HR10 HX10 HY10 hk hM HMT
        clear HV11 HX11 HY11
        have e1 : D.length ≤ 900 := HD9.out
        have e2 : D.length ≤ rcap := by omega
        have e3 : (D.length : Int) ≤ (rcap : Int) := by omega
        clear hcap
        go_wp2_with fail
        clear e1 e2 e3
        refine Calls.mono (HGM.out _ _ HK11.out HMD11.out) ?_
        rintro e w12 ⟨r2, rfl, hS, hF, hk⟩
        have HG12 := Lib.hid hS
        have HF : Hid (From W.heap.size r2) := Lib.hid (fun g hg => Nat.le_trans HK11.out.size (hF g hg))
        have HNE : Hid (r2.ownBlock ≠ some Rb) := Lib.hid (fun e => by have h1 := hF _ e; have h2 := (Array.getElem?_eq_some_iff.1 HR11.out).1; omega)
        have HK12 := Lib.hid (HK11.out.trans hk)
        have HS12 := Lib.hid (hk.block HS11.out)
        have HR12 := Lib.hid (hk.block HR11.out)
        clear HK11 HS11 HR11 hk hS hF HGM HMD11
        by_cases hg0 : g = 0
        · subst hg0
          have hj : (xorL (G ++ [s]), 0) = (res, rc) := by rw [← HRES.out]; simp
          injection hj with hj1 hj2
          subst hj1
          subst hj2
          clear HRES 
          have HSN : Hid (∀ t ∈ G ++ [s], IsSec t) := Lib.hid (fun t ht => by rcases List.mem_append.1 ht with ht | ht; exact HSEC.out t ht; rw [List.mem_singleton.1 ht]; exact HSC.out)
          have HL := Lib.hid (xorL_sec HSN.out).1
          go_wp2_with (refine stop_at (o := ⟨some 107, _, _, _, _, _⟩) ?_)
          refine Stop.mk ?_
          refine wpList_load_agg rfl _ rfl ty_sec Ob 0 rfl (u8s s) (by simpa using Cells.of_block HS12.out) (by rw [u8s_length, HSC.out.1]) ?_
          go_wp2_with (refine stop_at (o := ⟨some 108, _, _, _, _, _⟩) ?_)
          refine Stop.mk ?_
          refine wpList_one_sec rfl _ rfl s HSC.out.1 rfl ?_
          intro w13 hz hs hk
          have HZ13 := hz
          have HK13 := Lib.hid (HK12.out.trans hk)
          have HS13 := Lib.hid (hk.block HS12.out)
          have HR13 := Lib.hid (hk.block HR12.out)
          have HG13 := Lib.hid (HG12.out.kept hk)
          have GE_Zb := Lib.hid (HK12.out.size)
          generalize w12.heap.size = Zb at *
          clear HK12 HS12 HR12 HG12 hz hs hk
          go_wp2_with (refine stop_at (o := ⟨some 109, _, _, _, _, _⟩) ?_)
          refine Stop.mk ?_
          refine wpList_append_sec rfl _ _ rfl G rfl HG13.out (by have := HGL.out; omega) Zb rfl s HSC.out.1 HZ13.out ?_
          intro v9 w14 hv9 hg9
          have HN14 := Lib.hid hv9
          have HK14 := Lib.hid (hg9.keeps HK13.out HF.out)
          have HR14 := Lib.hid ((hg9.blk (Array.getElem?_eq_some_iff.1 HR13.out).1 HNE.out).trans HR13.out)
          clear hv9 hg9 HG13 HZ13 HS13 HK13 HR13
          go_wp2_with fail
          refine Calls.mono (ref_Build HN14.out.sl HSN.out (by rw [List.length_append]; have := HGL.out; simp; omega)) ?_
          rintro e w15 ⟨rfl, hk⟩
          have HK15 := Lib.hid (HK14.out.trans hk)
          have HR15 := Lib.hid (hk.block HR14.out)
          have HN15 := Lib.hid (HN14.out.kept hk)
          clear HK14 HR14 HN14 hk 
          go_wp2_with (refine stop_at (o := ⟨none, .store _ _ _, _, _, _, _⟩) ?_)
          refine Stop.mk ?_
          refine wpList_store_agg rfl _ _ rfl ty_sec Rb 0 rfl (u8s (xorL (G ++ [s]))) rfl (by rw [u8s_length, HL.out]) (u8s_one _) _ _ HR15.out (by rw [u8s_length, zeroB_length]; decide) ?_
          intro wz hw
          replace hw := hw.all (by simp [u8s_length, zeroB_length, HL.out])
          have HW := Lib.hid hw
          have HKZ : Hid (Kept W wz) := Lib.hid (hw.kept HK15.out (by have := GE_Rb.out; have := GE_Ob.out; omega))
          clear hw
          go_wp2
          refine bodyPost_ret (results_sec rfl _ _ Rb (xorL (G ++ [s])) rfl HW.out.cells (HL.out)) rfl ?_
          exact ⟨rfl, HKZ.out⟩
        · have t1 : (g != 0) = true := by simpa using hg0
          have hj : (zeroB, g) = (res, rc) := by rw [← HRES.out]; simp [hg0]
          injection hj with hj1 hj2
          subst hj1
          subst hj2
          clear HRES 
          go_wp2_with (refine stop_at (o := ⟨some 104, _, _, _, _, _⟩) ?_)
          refine Stop.mk ?_
          refine wpList_zero_sec rfl rfl ?_
          go_wp2_with (refine stop_at (o := ⟨none, .store _ _ _, _, _, _, _⟩) ?_)
          refine Stop.mk ?_
          refine wpList_store_agg rfl _ _ rfl ty_sec Rb 0 rfl (u8s zeroB) rfl (by rw [u8s_length, zeroB_length]) (u8s_one _) _ _ HR12.out (by rw [u8s_length, zeroB_length]; decide) ?_
          intro wz hw
          replace hw := hw.all (by simp [u8s_length, zeroB_length, zeroB_length])
          have HW := Lib.hid hw
          have HKZ : Hid (Kept W wz) := Lib.hid (hw.kept HK12.out (by have := GE_Rb.out; have := GE_Ob.out; omega))
          clear hw
          go_wp2
          refine bodyPost_ret (results_sec rfl _ _ Rb zeroB rfl HW.out.cells (zeroB_length)) rfl ?_
          exact ⟨rfl, HKZ.out⟩
      · have d1 : (cp == 0) = false := by simpa using hd
        have d2 : (cp != 0) = true := by simpa using hd
        have hl0 : lostB 0 = false := rfl
        rw [hdl]
        have hj : (zeroB, cp) = (res, rc) := by rw [← HRES.out]; simp [hd, hdl, hl0, hc, hcl]
        injection hj with hj1 hj2
        subst hj1
        subst hj2
        clear HRES 
        go_wp2_with (refine stop_at (o := ⟨some 74, _, _, _, _, _⟩) ?_)
        refine Stop.mk ?_
        refine wpList_zero_sec rfl rfl ?_
        go_wp2_with (refine stop_at (o := ⟨none, .store _ _ _, _, _, _, _⟩) ?_)
        refine Stop.mk ?_
        refine wpList_store_agg rfl _ _ rfl ty_sec Rb 0 rfl (u8s zeroB) rfl (by rw [u8s_length, zeroB_length]) (u8s_one _) _ _ HR10.out (by rw [u8s_length, zeroB_length]; decide) ?_
        intro wz hw
        replace hw := hw.all (by simp [u8s_length, zeroB_length, zeroB_length])
        have HW := Lib.hid hw
        have HKZ : Hid (Kept W wz) := Lib.hid (hw.kept HK10.out (by have := GE_Rb.out; have := GE_Ob.out; omega))
        clear hw
        go_wp2
        refine bodyPost_ret (results_sec rfl _ _ Rb zeroB rfl HW.out.cells (zeroB_length)) rfl ?_
        exact ⟨rfl, HKZ.out⟩
    · have c1 : (c == 0) = false := by simpa using hc
      have c2 : (c != 0) = true := by simpa using hc
      rw [hcl]
      have hj : (zeroB, c) = (res, rc) := by rw [← HRES.out]; simp [hc, hcl]
      injection hj with hj1 hj2
      subst hj1
      subst hj2
      clear HRES 
      go_wp2_with (refine stop_at (o := ⟨some 48, _, _, _, _, _⟩) ?_)
      refine Stop.mk ?_
      refine wpList_zero_sec rfl rfl ?_
      go_wp2_with (refine stop_at (o := ⟨none, .store _ _ _, _, _, _, _⟩) ?_)
      refine Stop.mk ?_
      refine wpList_store_agg rfl _ _ rfl ty_sec Rb 0 rfl (u8s zeroB) rfl (by rw [u8s_length, zeroB_length]) (u8s_one _) _ _ HR6.out (by rw [u8s_length, zeroB_length]; decide) ?_
      intro wz hw
      replace hw := hw.all (by simp [u8s_length, zeroB_length, zeroB_length])
      have HW := Lib.hid hw
      have HKZ : Hid (Kept W wz) := Lib.hid (hw.kept HK6.out (by have := GE_Rb.out; have := GE_Ob.out; omega))
      clear hw
      go_wp2
      refine bodyPost_ret (results_sec rfl _ _ Rb zeroB rfl HW.out.cells (zeroB_length)) rfl ?_
      exact ⟨rfl, HKZ.out⟩
  · rw [← hcode] at h0 hres
    obtain ⟨⟨⟨x, y⟩, c0⟩, hx⟩ : ∃ p, homeX L slot = p := ⟨_, rfl⟩
    rw [hx] at HHM hres h0
    simp only at HHM hres h0
    rw [if_pos (by simpa using h0)] at hres
    have HRES := Lib.hid hres
    have t1 : (c0 != 0) = true := by simpa using h0
    clear h u hv hN hl9 hcode hx hres h0 HGA HRD hs
    go_enter Tryz.func31, Tryz.ntmps31
    go_wp2_with (refine stop_at (o := ⟨some 7, _, _, _, _, _⟩) ?_)
    refine Stop.mk ?_
    refine wpList_box_row rfl _ _ rfl (u8s s) rfl ?_
    intro w1 hz hs hk
    have HS1 := hz
    have HV1 := Lib.hid (HV0.out.kept hk)
    have GE_Ob := Lib.hid (Nat.le_refl W.heap.size)
    have HK1 := Lib.hid hk
    obtain ⟨Ob, hE⟩ : ∃ b, b = W.heap.size := ⟨_, rfl⟩
    rw [← hE] at HS1 hs GE_Ob ⊢
    replace GE_Ob := Lib.hid (Nat.le_of_eq hE.symm)
    clear hE
    clear HV0 hz hs hk
    go_wp2_with (refine stop_at (o := ⟨some 8, _, _, _, _, _⟩) ?_)
    refine Stop.mk ?_
    refine wpList_alloc_abs rfl 43 rfl (u8s zeroB) zero_sec ?_
    intro w2 hz hs hn hk
    have HR2 := hz
    have HV2 := Lib.hid (HV1.out.kept hk)
    have HK2 := Lib.hid (HK1.out.trans hk)
    have HS2 := Lib.hid (hk.block HS1.out)
    have GE_Rb := Lib.hid (HK1.out.size)
    generalize w1.heap.size = Rb at *
    clear HV1 HK1 HS1 hz hs hk hn
    go_wp2_with fail
    refine Calls.mono (HHM.out _ HV2.out) ?_
    rintro e w3 ⟨rfl, hk⟩
    have HV3 := Lib.hid (HV2.out.kept hk)
    have HK3 := Lib.hid (HK2.out.trans hk)
    have HS3 := Lib.hid (hk.block HS2.out)
    have HR3 := Lib.hid (hk.block HR2.out)
    clear HV2 HK2 HS2 HR2 hk HHM
    go_wp2_with (refine stop_at (o := ⟨some 10, _, _, _, _, _⟩) ?_)
    refine Stop.mk ?_
    refine wpList_new_row rfl rfl _ _ rfl rfl ty_plc _ zero_plc rfl [.int .i64 x, .int .i64 y] rfl rfl (one_plc _ _) rfl ?_
    intro w4 hz hs hk
    have HP4 := hz
    have HV4 := Lib.hid (HV3.out.kept hk)
    have HK4 := Lib.hid (HK3.out.trans hk)
    have HS4 := Lib.hid (hk.block HS3.out)
    have HR4 := Lib.hid (hk.block HR3.out)
    have GE_Pb := Lib.hid (HK3.out.size)
    generalize w3.heap.size = Pb at *
    clear HV3 HK3 HS3 HR3 hz hs hk
    have hj : (zeroB, c0) = (res, rc) := by rw [← HRES.out]; skip
    injection hj with hj1 hj2
    subst hj1
    subst hj2
    clear HRES 
    go_wp2_with (refine stop_at (o := ⟨some 32, _, _, _, _, _⟩) ?_)
    refine Stop.mk ?_
    refine wpList_zero_sec rfl rfl ?_
    go_wp2_with (refine stop_at (o := ⟨none, .store _ _ _, _, _, _, _⟩) ?_)
    refine Stop.mk ?_
    refine wpList_store_agg rfl _ _ rfl ty_sec Rb 0 rfl (u8s zeroB) rfl (by rw [u8s_length, zeroB_length]) (u8s_one _) _ _ HR4.out (by rw [u8s_length, zeroB_length]; decide) ?_
    intro wz hw
    replace hw := hw.all (by simp [u8s_length, zeroB_length, zeroB_length])
    have HW := Lib.hid hw
    have HKZ : Hid (Kept W wz) := Lib.hid (hw.kept HK4.out (by have := GE_Rb.out; have := GE_Ob.out; omega))
    clear hw
    go_wp2
    refine bodyPost_ret (results_sec rfl _ _ Rb zeroB rfl HW.out.cells (zeroB_length)) rfl ?_
    exact ⟨rfl, HKZ.out⟩
end
end Go.Proofs.YtglplhmclfekfaaGreat
/- stripe's Read, Rebuilt, Plug, WriteFull of any slot, extent, stripe (gen_pce.py). -/
namespace Go.Proofs.YtglplhmclfekfaaGreat
open Go.RowKit
set_option linter.unusedVariables false
set_option linter.unusedSimpArgs false

section
variable {w0 W : World} {R : Nat → Prop} {q : Nat} {T : BankT}
set_option maxHeartbeats 4000000
set_option maxRecDepth 100000
theorem st_ReadU (h : BK w0 R W q T) (u : T.Use) {v : Value} {L : List (Int × Int)} (hv : ESl W v L) (hN : Near L) (hl9 : L.length ≤ 900) (slot : Int) :
    Calls Tryz.prog 22 #[.pointer (some ⟨q, 0, none⟩), v, .int .i64 slot] W fun e w' => e = .returned (.tuple #[secV (T.readU L slot).1, .int .i64 (T.readU L slot).2]) ∧ Kept W w' := by
  by_cases h0 : (splitX L.length slot).2.2 = 0
  · obtain ⟨s, rfl, h2, hs, hsp, hk, ht⟩ := splitX_ok h0
    rw [BankT.readU_ok hsp]
    exact st_Read h u hv hN hl9 _ _ _ h2 ht hk hsp
  have HHM := Lib.hid fun (W : World) (he : ESl W v L) => st_Home he hN slot
  have hcode := home_code L slot
  obtain ⟨res, rc, hres⟩ : ∃ res rc, T.readU L slot = (res, rc) := ⟨_, _, rfl⟩
  rw [hres]
  unfold BankT.readU at hres
  rw [← hcode] at h0
  obtain ⟨⟨⟨x, y⟩, c0⟩, hx⟩ : ∃ p, homeX L slot = p := ⟨_, rfl⟩
  rw [hx] at HHM hres h0
  simp only at HHM hres h0
  rw [if_pos (by simpa using h0)] at hres
  have HRES := Lib.hid hres
  have t1 : (c0 != 0) = true := by simpa using h0
  have HV0 := Lib.hid hv
  clear h u hv hN hl9 hcode hx hres h0
  go_enter Tryz.func22, Tryz.ntmps22
  go_wp2_with (refine stop_at (o := ⟨some 6, _, _, _, _, _⟩) ?_)
  refine Stop.mk ?_
  refine wpList_alloc_abs rfl 43 rfl (u8s zeroB) zero_sec ?_
  intro w1 hz hs hn hk
  have HR1 := hz
  have HV1 := Lib.hid (HV0.out.kept hk)
  have GE_Rb := Lib.hid (Nat.le_refl W.heap.size)
  have HK1 := Lib.hid hk
  obtain ⟨Rb, hE⟩ : ∃ b, b = W.heap.size := ⟨_, rfl⟩
  rw [← hE] at HR1 hs GE_Rb ⊢
  replace GE_Rb := Lib.hid (Nat.le_of_eq hE.symm)
  clear hE
  clear HV0 hz hs hk hn
  go_wp2_with fail
  refine Calls.mono (HHM.out _ HV1.out) ?_
  rintro e w2 ⟨rfl, hk⟩
  have HV2 := Lib.hid (HV1.out.kept hk)
  have HK2 := Lib.hid (HK1.out.trans hk)
  have HR2 := Lib.hid (hk.block HR1.out)
  clear HV1 HK1 HR1 hk HHM
  go_wp2_with (refine stop_at (o := ⟨some 8, _, _, _, _, _⟩) ?_)
  refine Stop.mk ?_
  refine wpList_new_row rfl rfl _ _ rfl rfl ty_plc _ zero_plc rfl [.int .i64 x, .int .i64 y] rfl rfl (one_plc _ _) rfl ?_
  intro w3 hz hs hk
  have HP3 := hz
  have HV3 := Lib.hid (HV2.out.kept hk)
  have HK3 := Lib.hid (HK2.out.trans hk)
  have HR3 := Lib.hid (hk.block HR2.out)
  have GE_Pb := Lib.hid (HK2.out.size)
  generalize w2.heap.size = Pb at *
  clear HV2 HK2 HR2 hz hs hk
  have hj : (zeroB, c0) = (res, rc) := by rw [← HRES.out]; skip
  injection hj with hj1 hj2
  subst hj1
  subst hj2
  clear HRES 
  go_wp2_with (refine stop_at (o := ⟨some 21, _, _, _, _, _⟩) ?_)
  refine Stop.mk ?_
  refine wpList_zero_sec rfl rfl ?_
  go_wp2_with (refine stop_at (o := ⟨none, .store _ _ _, _, _, _, _⟩) ?_)
  refine Stop.mk ?_
  refine wpList_store_agg rfl _ _ rfl ty_sec Rb 0 rfl (u8s zeroB) rfl (by rw [u8s_length, zeroB_length]) (u8s_one _) _ _ HR3.out (by rw [u8s_length, zeroB_length]; decide) ?_
  intro wz hw
  replace hw := hw.all (by simp [u8s_length, zeroB_length, zeroB_length])
  have HW := Lib.hid hw
  have HKZ : Hid (Kept W wz) := Lib.hid (hw.kept HK3.out (by have := GE_Rb.out; omega))
  clear hw
  go_wp2
  refine bodyPost_ret (results_sec rfl _ _ Rb zeroB rfl HW.out.cells (zeroB_length)) rfl ?_
  exact ⟨rfl, HKZ.out⟩
theorem st_RebuiltU (h : BK w0 R W q T) (u : T.Use) {v : Value} {L : List (Int × Int)} (hv : ESl W v L) (hN : Near L) (hl9 : L.length ≤ 900) (k t : Int) :
    Calls Tryz.prog 28 #[.pointer (some ⟨q, 0, none⟩), v, .int .i64 k, .int .i64 t] W fun e w' => e = .returned (.tuple #[secV (T.rebuiltU L k t).1, .int .i64 (T.rebuiltU L k t).2]) ∧ Kept W w' := by
  by_cases hok : 2 ≤ L.length ∧ 0 ≤ k ∧ k < (L.length : Int) ∧ 0 ≤ t ∧ t < 8
  · obtain ⟨h2, hk0, hk1, ht0, ht1⟩ := hok
    obtain ⟨k, rfl⟩ : ∃ j : Nat, k = (j : Int) := ⟨k.toNat, by omega⟩
    obtain ⟨t, rfl⟩ : ∃ j : Nat, t = (j : Int) := ⟨t.toNat, by omega⟩
    have e : T.rebuiltU L (k : Int) (t : Int) = T.joinL (restL L t k) zeroB false := by
      unfold BankT.rebuiltU
      rw [if_neg (by omega), if_neg (by omega)]
      simp only [Int.toNat_natCast]
    rw [e]
    exact st_Rebuilt h u hv hN hl9 k t h2 (by omega) (by omega)
  obtain ⟨oa, cap, hvv⟩ : ∃ oa cap, v = .slice oa L.length cap := by obtain ⟨oa, cap, e, _⟩ := hv; exact ⟨oa, cap, e⟩
  subst hvv
  have hlen := hN.1
  have HRT := Lib.hid fun W => st_right oa L.length cap hlen t W
  obtain ⟨res, rc, hres⟩ : ∃ res rc, T.rebuiltU L k t = (res, rc) := ⟨_, _, rfl⟩
  rw [hres]
  unfold BankT.rebuiltU at hres
  have HRES := Lib.hid hres
  clear h u hv hN hres
  by_cases hk0 : k < 0
  · skip
    clear hok
    go_enter Tryz.func28, Tryz.ntmps28
    go_wp2_with (refine stop_at (o := ⟨some 8, _, _, _, _, _⟩) ?_)
    refine Stop.mk ?_
    refine wpList_alloc_abs rfl 43 rfl (u8s zeroB) zero_sec ?_
    intro w1 hz hs hn hk
    have HR1 := hz
    have GE_Rb := Lib.hid (Nat.le_refl W.heap.size)
    have HK1 := Lib.hid hk
    obtain ⟨Rb, hE⟩ : ∃ b, b = W.heap.size := ⟨_, rfl⟩
    rw [← hE] at HR1 hs GE_Rb ⊢
    replace GE_Rb := Lib.hid (Nat.le_of_eq hE.symm)
    clear hE
    clear  hz hs hk hn
    have hj : (zeroB, (1 : Int)) = (res, rc) := by rw [← HRES.out]; rw [if_pos (.inr (.inl hk0))]
    injection hj with hj1 hj2
    subst hj1
    subst hj2
    clear HRES 
    go_wp2_with (refine stop_at (o := ⟨some 21, _, _, _, _, _⟩) ?_)
    refine Stop.mk ?_
    refine wpList_zero_sec rfl rfl ?_
    go_wp2_with (refine stop_at (o := ⟨none, .store _ _ _, _, _, _, _⟩) ?_)
    refine Stop.mk ?_
    refine wpList_store_agg rfl _ _ rfl ty_sec Rb 0 rfl (u8s zeroB) rfl (by rw [u8s_length, zeroB_length]) (u8s_one _) _ _ HR1.out (by rw [u8s_length, zeroB_length]; decide) ?_
    intro wz hw
    replace hw := hw.all (by simp [u8s_length, zeroB_length, zeroB_length])
    have HW := Lib.hid hw
    have HKZ : Hid (Kept W wz) := Lib.hid (hw.kept HK1.out (by have := GE_Rb.out; omega))
    clear hw
    go_wp2
    refine bodyPost_ret (results_sec rfl _ _ Rb zeroB rfl HW.out.cells (zeroB_length)) rfl ?_
    exact ⟨rfl, HKZ.out⟩
  by_cases hk1 : (L.length : Int) ≤ k
  · skip
    clear hok
    go_enter Tryz.func28, Tryz.ntmps28
    go_wp2_with (refine stop_at (o := ⟨some 8, _, _, _, _, _⟩) ?_)
    refine Stop.mk ?_
    refine wpList_alloc_abs rfl 43 rfl (u8s zeroB) zero_sec ?_
    intro w1 hz hs hn hk
    have HR1 := hz
    have GE_Rb := Lib.hid (Nat.le_refl W.heap.size)
    have HK1 := Lib.hid hk
    obtain ⟨Rb, hE⟩ : ∃ b, b = W.heap.size := ⟨_, rfl⟩
    rw [← hE] at HR1 hs GE_Rb ⊢
    replace GE_Rb := Lib.hid (Nat.le_of_eq hE.symm)
    clear hE
    clear  hz hs hk hn
    have hj : (zeroB, (1 : Int)) = (res, rc) := by rw [← HRES.out]; rw [if_pos (.inr (.inr hk1))]
    injection hj with hj1 hj2
    subst hj1
    subst hj2
    clear HRES 
    go_wp2_with (refine stop_at (o := ⟨some 21, _, _, _, _, _⟩) ?_)
    refine Stop.mk ?_
    refine wpList_zero_sec rfl rfl ?_
    go_wp2_with (refine stop_at (o := ⟨none, .store _ _ _, _, _, _, _⟩) ?_)
    refine Stop.mk ?_
    refine wpList_store_agg rfl _ _ rfl ty_sec Rb 0 rfl (u8s zeroB) rfl (by rw [u8s_length, zeroB_length]) (u8s_one _) _ _ HR1.out (by rw [u8s_length, zeroB_length]; decide) ?_
    intro wz hw
    replace hw := hw.all (by simp [u8s_length, zeroB_length, zeroB_length])
    have HW := Lib.hid hw
    have HKZ : Hid (Kept W wz) := Lib.hid (hw.kept HK1.out (by have := GE_Rb.out; omega))
    clear hw
    go_wp2
    refine bodyPost_ret (results_sec rfl _ _ Rb zeroB rfl HW.out.cells (zeroB_length)) rfl ?_
    exact ⟨rfl, HKZ.out⟩
  have hr : rightX L.length t ≠ 0 := by
    unfold rightX
    split
    · decide
    · split
      · decide
      · rename_i a b; exact absurd ⟨by omega, by omega, by omega, by omega, by omega⟩ hok
  have HRS2 : Hid ((zeroB, rightX L.length t) = (res, rc)) := Lib.hid (by
    rw [← HRES.out]
    unfold rightX
    by_cases a : L.length < 2
    · rw [if_pos a, if_pos (.inl a)]
    · rw [if_neg a, if_neg (show ¬ (L.length < 2 ∨ k < 0 ∨ (L.length : Int) ≤ k) by omega)]
      by_cases b : t < 0 ∨ 8 ≤ t
      · rw [if_pos b, if_pos b]
      · exact absurd ⟨by omega, by omega, by omega, by omega, by omega⟩ hok)
  clear HRES
  have HRES := HRS2
  clear HRS2
  generalize rightX L.length t = rx at *
  have t1 : (rx != 0) = true := by simpa using hr
  have hk2 : k < (L.length : Int) := by omega
  clear hok hr hk1
  go_enter Tryz.func28, Tryz.ntmps28
  go_wp2_with (refine stop_at (o := ⟨some 8, _, _, _, _, _⟩) ?_)
  refine Stop.mk ?_
  refine wpList_alloc_abs rfl 43 rfl (u8s zeroB) zero_sec ?_
  intro w1 hz hs hn hk
  have HR1 := hz
  have GE_Rb := Lib.hid (Nat.le_refl W.heap.size)
  have HK1 := Lib.hid hk
  obtain ⟨Rb, hE⟩ : ∃ b, b = W.heap.size := ⟨_, rfl⟩
  rw [← hE] at HR1 hs GE_Rb ⊢
  replace GE_Rb := Lib.hid (Nat.le_of_eq hE.symm)
  clear hE
  clear  hz hs hk hn
  go_wp2_with fail
  refine Calls.mono (HRT.out _) ?_
  rintro e w' ⟨rfl, rfl⟩
  have hj : (zeroB, rx) = (res, rc) := by rw [← HRES.out]; skip
  injection hj with hj1 hj2
  subst hj1
  subst hj2
  clear HRES 
  go_wp2_with (refine stop_at (o := ⟨some 27, _, _, _, _, _⟩) ?_)
  refine Stop.mk ?_
  refine wpList_zero_sec rfl rfl ?_
  go_wp2_with (refine stop_at (o := ⟨none, .store _ _ _, _, _, _, _⟩) ?_)
  refine Stop.mk ?_
  refine wpList_store_agg rfl _ _ rfl ty_sec Rb 0 rfl (u8s zeroB) rfl (by rw [u8s_length, zeroB_length]) (u8s_one _) _ _ HR1.out (by rw [u8s_length, zeroB_length]; decide) ?_
  intro wz hw
  replace hw := hw.all (by simp [u8s_length, zeroB_length, zeroB_length])
  have HW := Lib.hid hw
  have HKZ : Hid (Kept W wz) := Lib.hid (hw.kept HK1.out (by have := GE_Rb.out; omega))
  clear hw
  go_wp2
  refine bodyPost_ret (results_sec rfl _ _ Rb zeroB rfl HW.out.cells (zeroB_length)) rfl ?_
  exact ⟨rfl, HKZ.out⟩
theorem st_PlugU (h : BK w0 R W q T) (u : T.Use) {v : Value} {L : List (Int × Int)} (hv : ESl W v L) (hN : Near L) (hl9 : L.length ≤ 900) (slot : Int) {s : List Int} (hs : IsSec s) :
    Calls Tryz.prog 30 #[.pointer (some ⟨q, 0, none⟩), v, .int .i64 slot, .agg (u8s s).toArray] W fun e w' => e = .returned (.tuple #[secV (T.plugU L slot s).1, .int .i64 (T.plugU L slot s).2]) ∧ Kept W w' := by
  unfold BankT.plugU
  by_cases h0 : (splitX L.length slot).2.2 = 0
  · obtain ⟨s1, rfl, h2, hs8, hsp, hk, ht⟩ := splitX_ok h0
    rw [if_neg (by simpa using h0), hsp]
    simp only [Int.toNat_natCast]
    exact st_Plug h u hv hN hl9 _ _ _ h2 ht hk hsp hs
  rw [if_pos (by simpa using h0)]
  obtain ⟨oa, cap, hvv⟩ : ∃ oa cap, v = .slice oa L.length cap := by obtain ⟨oa, cap, e, _⟩ := hv; exact ⟨oa, cap, e⟩
  subst hvv
  have hlen := hN.1
  have HSP := Lib.hid fun W => st_split oa L.length cap hlen slot W
  generalize (splitX L.length slot).1 = sa at *
  generalize (splitX L.length slot).2.1 = sb at *
  generalize (splitX L.length slot).2.2 = c0 at *
  have t1 : (c0 != 0) = true := by simpa using h0
  have HV0 := Lib.hid hv
  clear h u hv hN hl9 h0 hs hlen
  refine (callsIn_wide (n := 12)).1 ?_
  refine callsIn_of_wp_marks Tryz.func30 rfl trivial ?_ rfl
  simp only [Tryz.ntmps30, List.size_toArray, List.length_cons, List.length_nil, Nat.reduceAdd, Nat.reduceSub, Array.replicate_succ, Array.replicate_zero, List.push_toArray, List.append_toArray, List.nil_append, List.cons_append]
  refine wpIn_wide.2 ?_
  go_wp2_with (refine stop_at (o := ⟨some 7, _, _, _, _, _⟩) ?_)
  refine Stop.mk ?_
  refine wpList_box_row rfl _ _ rfl (u8s s) rfl ?_
  intro w1 hz hs hk
  have HS1 := hz
  have GE_Ob := Lib.hid (Nat.le_refl W.heap.size)
  have HK1 := Lib.hid hk
  obtain ⟨Ob, hE⟩ : ∃ b, b = W.heap.size := ⟨_, rfl⟩
  rw [← hE] at HS1 hs GE_Ob ⊢
  replace GE_Ob := Lib.hid (Nat.le_of_eq hE.symm)
  clear hE
  clear  hz hs hk
  go_wp2_with (refine stop_at (o := ⟨some 8, _, _, _, _, _⟩) ?_)
  refine Stop.mk ?_
  refine wpList_alloc_abs rfl 43 rfl (u8s zeroB) zero_sec ?_
  intro w2 hz hs hn hk
  have HR2 := hz
  have HK2 := Lib.hid (HK1.out.trans hk)
  have HS2 := Lib.hid (hk.block HS1.out)
  have GE_Rb := Lib.hid (HK1.out.size)
  generalize w1.heap.size = Rb at *
  clear HK1 HS1 hz hs hk hn
  go_wp2_with fail
  refine Calls.mono (HSP.out _) ?_
  rintro e w3 ⟨rfl, hk⟩
  have HK3 := Lib.hid (HK2.out.trans hk)
  have HS3 := Lib.hid (hk.block HS2.out)
  have HR3 := Lib.hid (hk.block HR2.out)
  clear HK2 HS2 HR2 hk HSP
  go_wp2_with (refine stop_at (o := ⟨some 27, _, _, _, _, _⟩) ?_)
  refine Stop.mk ?_
  refine wpList_zero_sec rfl rfl ?_
  go_wp2_with (refine stop_at (o := ⟨none, .store _ _ _, _, _, _, _⟩) ?_)
  refine Stop.mk ?_
  refine wpList_store_agg rfl _ _ rfl ty_sec Rb 0 rfl (u8s zeroB) rfl (by rw [u8s_length, zeroB_length]) (u8s_one _) _ _ HR3.out (by rw [u8s_length, zeroB_length]; decide) ?_
  intro wz hw
  replace hw := hw.all (by simp [u8s_length, zeroB_length])
  have HW := Lib.hid hw
  have HKZ : Hid (Kept W wz) := Lib.hid (hw.kept HK3.out (by have := GE_Rb.out; have := GE_Ob.out; omega))
  clear hw
  go_wp2
  refine ⟨_, results_sec rfl _ _ Rb zeroB rfl HW.out.cells zeroB_length, ?_⟩
  exact ⟨rfl, HKZ.out⟩
theorem st_WriteFullU (h : BK w0 R W q T) (hi : T.Inv) (hl0 : T.l.length ≠ 0) (hcl : T.clock < 900000000) (hwr : T.writes < 900000000) {v : Value} {L : List (Int × Int)} (hv : ESl W v L) (hN : Near L) (hl9 : L.length ≤ 900) (t : Int)
    {sv : Value} {S : List (List Int)} (hsv : SecSrc W sv S) (hS : ∀ s ∈ S, IsSec s) (hS9 : S.length ≤ 1000) :
    Calls Tryz.prog 19 #[.pointer (some ⟨q, 0, none⟩), v, .int .i64 t, sv] W fun e w' => e = .returned (.int .i64 (T.fullU L t S).2) ∧ BK w0 R w' q (T.fullU L t S).1 ∧ SameR R W w' := by
  unfold BankT.fullU
  have hB := h
  obtain ⟨oa, cap, hvv⟩ : ∃ oa cap, v = .slice oa L.length cap := by obtain ⟨oa, cap, e, _⟩ := hv; exact ⟨oa, cap, e⟩
  by_cases hne : S.length + 1 = L.length
  · by_cases hr : rightX L.length t = 0
    · obtain ⟨t, rfl, h2, ht⟩ := rightX_ok hr
      rw [if_neg (by omega), if_neg (by simpa using hr), Int.toNat_natCast]
      exact st_WriteFull h hi hl0 hcl hwr hv hN hl9 t h2 ht hsv hS hne
    · obtain ⟨sa, scap, hss⟩ := hsv.form
      subst hvv
      subst hss
      have hlen := hN.1
      have HRT := Lib.hid fun W => st_right oa L.length cap hlen t W
      have e1 : (if L.length < 2 ∨ S.length + 1 ≠ L.length then (T, (1 : Int)) else if rightX L.length t ≠ 0 then (T, rightX L.length t) else T.fullL ((dataS L t.toNat (-1) ++ [plcAt L t.toNat (holdN L.length t.toNat)]).zip (S ++ [xorL S])) 0) = (T, rightX L.length t) := by
        by_cases h2 : L.length < 2
        · rw [if_pos (.inl h2)]; unfold rightX; rw [if_pos h2]
        · rw [if_neg (by omega), if_pos hr]
      rw [e1]
      generalize rightX L.length t = rx at *
      have t1 : (rx != 0) = true := by simpa using hr
      have t2 : ((S.length : Int) != (L.length : Int) - 1) = false := by simp; omega
      have HB := Lib.hid hB
      clear h hi hl0 hcl hwr hv hN hsv hS e1 hr hB
      go_enter Tryz.func19, Tryz.ntmps19
      go_wp2_with fail
      refine Calls.mono (HRT.out _) ?_
      rintro e w' ⟨rfl, rfl⟩
      go_wp2
      go_ret
      exact ⟨rfl, HB.out, SameR.refl _ _⟩
  · obtain ⟨sa, scap, hss⟩ := hsv.form
    subst hvv
    subst hss
    rw [if_pos (.inr hne)]
    have t2 : ((S.length : Int) != (L.length : Int) - 1) = true := by simp; omega
    have HB := Lib.hid hB
    clear h hi hl0 hcl hwr hv hN hsv hS hB hne
    go_enter Tryz.func19, Tryz.ntmps19
    go_wp2
    go_ret
    exact ⟨rfl, HB.out, SameR.refl _ _⟩
end
end Go.Proofs.YtglplhmclfekfaaGreat
/- Stripe's calls on both banks, each in two halves. -/
namespace Go.Proofs.YtglplhmclfekfaaGreat
open Go.RowKit
set_option linter.unusedVariables false
set_option linter.unusedSimpArgs false

theorem ESl.same {W W' : World} {R : Nat → Prop} {v : Value} {L : List (Int × Int)} (h : ESl W v L) (hR : ∀ k, v.ownBlock = some k → R k) (hs : SameR R W W') (hlt : ∀ k, R k → k < W'.heap.size) : ESl W' v L := by
  obtain ⟨oa, cap, rfl, hh⟩ := h
  refine ⟨oa, cap, rfl, fun k hk => ?_⟩
  obtain ⟨b, off, rfl, hb, c1, c2⟩ := hh k hk
  have hRb : R b := hR b rfl
  exact ⟨b, off, rfl, hlt b hRb, (World.cell?_of_block (a := ⟨b, off + k * 2, none⟩) (hs b hRb)).trans c1, (World.cell?_of_block (a := ⟨b, off + k * 2 + 1, none⟩) (hs b hRb)).trans c2⟩
theorem ESl.wrote {W W' : World} {v : Value} {L : List (Int × Int)} {B : Nat} {cs : List Value} {t : TypeId} (h : ESl W v L) (hw : Wrote W W' B cs t) (hn : v.ownBlock ≠ some B) : ESl W' v L := by
  obtain ⟨oa, cap, rfl, hh⟩ := h
  refine ⟨oa, cap, rfl, fun k hk => ?_⟩
  obtain ⟨b, off, rfl, hb, c1, c2⟩ := hh k hk
  have hbB : b ≠ B := fun e => hn (by rw [← e]; rfl)
  exact ⟨b, off, rfl, by rw [hw.size]; exact hb, (World.cell?_of_block (a := ⟨b, off + k * 2, none⟩) (hw.oth b hbB)).trans c1, (World.cell?_of_block (a := ⟨b, off + k * 2 + 1, none⟩) (hw.oth b hbB)).trans c2⟩
/-- the sectors of a number and the numbers behind it -/
def secsN (n : Int) (j : Nat) : List (List Int) := (List.range j).map fun (i : Nat) => secN (wrap64 (n + (i : Int)))
theorem secsN_len (n : Int) (j : Nat) : (secsN n j).length = j := by simp [secsN]
theorem secsN_succ (n : Int) (j : Nat) : secsN n (j + 1) = secsN n j ++ [secN (wrap64 (n + (j : Int)))] := by simp [secsN, List.range_succ]
theorem secsN_is (n : Int) (j : Nat) : ∀ s ∈ secsN n j, IsSec s := fun s hs => by
  obtain ⟨i, _, rfl⟩ := List.mem_map.1 hs
  exact secN_is _
theorem SL.src {W : World} {v : Value} {S : List (List Int)} (h : SL W v S) : SecSrc W v S := by
  by_cases hn : S.length = 0
  · have hS : S = [] := List.eq_nil_of_length_eq_zero hn
    subst hS
    rcases h.1.2 with ⟨e, _⟩ | ⟨g, cap, cur, e, _, hh, hcap, _⟩
    · exact .inl ⟨rfl, e⟩
    · exact .inr ⟨g, 0, cap, e, Nat.zero_le _, (Array.getElem?_eq_some_iff.1 hh).1, fun j hj => by cases hj⟩
  · obtain ⟨g, c, e, _, hg, hc, hle⟩ := row_form h.1 hn
    exact .inr ⟨g, 0, c, e, hle, hg, by rw [← secs_secsV]; exact hc⟩
section
variable {P : Program} {ops : Array Oper} {Q : Exit → Act → World → Prop} {md : Region.Mode} {S : World → Prop} {s : Nat}
/-- two may come up -/
theorem wpAnyE_two {i j : Nat} {oi oj : Oper} {fuel : Nat} {listed li lj : Array Bool} {a : Act} {w : World} (hi : ops[i]? = some oi) (hj : ops[j]? = some oj) (hr : Region.ready md ops listed = [i, j]) (hli : listed.setIfInBounds i true = li) (hlj : listed.setIfInBounds j true = lj) (gi : oi.guard = none) (gj : oj.guard = none)
    (h1 : ∀ K : Act → World → Prop, (∀ a' w', (i ≠ s → S w') → wpAnyE P md ops Q S s fuel li a' w' → K a' w') → oi.wp P a w K Q)
    (h2 : ∀ K : Act → World → Prop, (∀ a' w', (j ≠ s → S w') → wpAnyE P md ops Q S s fuel lj a' w' → K a' w') → oj.wp P a w K Q) : wpAnyE P md ops Q S s (fuel + 1) listed a w := by
  subst hli hlj
  refine ⟨(fun h0 => (by rw [h0] at hr; cases hr)), fun k hk => ?_⟩
  rw [hr] at hk
  have hw1 : Region.wanted oi (yielded ops a.tmps) = true := by simp [Region.wanted, gi]
  have hw2 : Region.wanted oj (yielded ops a.tmps) = true := by simp [Region.wanted, gj]
  simp only [List.mem_cons, List.mem_nil_iff, or_false] at hk
  unfold wpOp
  rcases hk with rfl | rfl
  · simp only [hi, hw1, if_true]
    exact .inl (h1 _ fun a' w' h1 h2 => ⟨h1, h2⟩)
  · simp only [hj, hw2, if_true]
    exact .inl (h2 _ fun a' w' h1 h2 => ⟨h1, h2⟩)
end
section
variable {w0 W W' : World} {R : Nat → Prop} {p q : Nat} {T V : BankT} {U : RT}
theorem BR.range (h : BR w0 R W p T q U) (hk : Kept W W') (S : Nat → Prop) (hS : ∀ k, S k → W.heap.size ≤ k ∧ k < W'.heap.size) : BR w0 (fun k => R k ∨ S k) W' p T q U := by
  obtain ⟨Y, h0, hd, ho, hr, Yr, hq, hrd, hkk, hro, hrr⟩ := h
  refine ⟨Y, h0, hd.kept hk, ho, fun k hk' => ?_, Yr, hq, hrd.kept hk, hkk.trans hk, hro, fun k hk' => ?_⟩
  · rcases hk' with hk' | hk'
    · exact hr k hk'
    · intro hi; have := hd.lt hi; have := (hS k hk').1; omega
  · rcases hk' with hk' | hk' | hk'
    · exact ⟨Nat.lt_of_lt_of_le (hrr k (.inl hk')).1 hk.size, (hrr k (.inl hk')).2⟩
    · exact ⟨Nat.lt_of_lt_of_le (hrr k (.inr hk')).1 hk.size, (hrr k (.inr hk')).2⟩
    · exact ⟨(hS k hk').2, fun hi => by have := hrd.lt hi; have := (hS k hk').1; omega⟩
theorem BR.wrote (h : BR w0 R W p T q U) {B : Nat} {cs : List Value} {t : TypeId} (hw : Wrote W W' B cs t) (hB : R B) (hb : w0.heap.size ≤ B) : BR w0 R W' p T q U := by
  obtain ⟨Y, h0, hd, ho, hr, Yr, hq, hrd, hkk, hro, hrr⟩ := h
  have hsz : W'.heap.size = W.heap.size := hw.size
  refine ⟨Y, h0, hd.same fun b hb' => hw.oth b fun e => hr B hB (by rw [← e]; exact hb'), ho, hr, Yr, hq, hrd.same fun b hb' => hw.oth b fun e => (hrr B (.inr hB)).2 (by rw [← e]; exact hb'), hw.kept hkk hb, hro, fun k hk' => ⟨by rw [hsz]; exact (hrr k hk').1, (hrr k hk').2⟩⟩
theorem BR.lt (h : BR w0 R W p T q U) {k : Nat} (hk : R k) : k < W.heap.size := by
  obtain ⟨_, _, _, _, _, _, _, _, _, _, hrr⟩ := h
  exact (hrr k (.inr hk)).1
theorem br_sRead (h : BR w0 R W p T q U) (u : T.Use) {v : Value} {L : List (Int × Int)} (hv : ESl W v L) (hN : Near L) (hl9 : L.length ≤ 900) (slot : Int) :
    Calls Tryz.prog 22 #[.pointer (some ⟨p, 0, none⟩), v, .int .i64 slot] W fun e w' => e = .returned (.tuple #[secV (T.readU L slot).1, .int .i64 (T.readU L slot).2]) ∧ Kept W w' := st_ReadU h.disk u hv hN hl9 slot
theorem br_sRead2 (h : BR w0 R W p V q T.ref) (u : T.Doc) {v : Value} {L : List (Int × Int)} (hv : ESl W v L) (hN : Near L) (hl9 : L.length ≤ 900) (slot : Int) :
    Calls Tryz.prog 27 #[.pointer (some ⟨q, 0, none⟩), v, .int .i64 slot] W fun e w' => e = .returned (.tuple #[secV (T.readU L slot).1, .int .i64 (T.readU L slot).2]) ∧ Kept W w' := s13_Read (B := T) h.doc u hv hN hl9 slot
theorem br_sRebuilt (h : BR w0 R W p T q U) (u : T.Use) {v : Value} {L : List (Int × Int)} (hv : ESl W v L) (hN : Near L) (hl9 : L.length ≤ 900) (k t : Int) :
    Calls Tryz.prog 28 #[.pointer (some ⟨p, 0, none⟩), v, .int .i64 k, .int .i64 t] W fun e w' => e = .returned (.tuple #[secV (T.rebuiltU L k t).1, .int .i64 (T.rebuiltU L k t).2]) ∧ Kept W w' := st_RebuiltU h.disk u hv hN hl9 k t
theorem br_sRebuilt2 (h : BR w0 R W p V q T.ref) (u : T.Doc) {v : Value} {L : List (Int × Int)} (hv : ESl W v L) (hN : Near L) (hl9 : L.length ≤ 900) (k t : Int) :
    Calls Tryz.prog 29 #[.pointer (some ⟨q, 0, none⟩), v, .int .i64 k, .int .i64 t] W fun e w' => e = .returned (.tuple #[secV (T.rebuiltU L k t).1, .int .i64 (T.rebuiltU L k t).2]) ∧ Kept W w' := s13_Rebuilt (B := T) h.doc u hv hN hl9 k t
theorem br_sPlug (h : BR w0 R W p T q U) (u : T.Use) {v : Value} {L : List (Int × Int)} (hv : ESl W v L) (hN : Near L) (hl9 : L.length ≤ 900) (slot : Int) {s : List Int} (hs : IsSec s) :
    Calls Tryz.prog 30 #[.pointer (some ⟨p, 0, none⟩), v, .int .i64 slot, .agg (u8s s).toArray] W fun e w' => e = .returned (.tuple #[secV (T.plugU L slot s).1, .int .i64 (T.plugU L slot s).2]) ∧ Kept W w' := st_PlugU h.disk u hv hN hl9 slot hs
theorem br_sPlug2 (h : BR w0 R W p V q T.ref) (u : T.Doc) {v : Value} {L : List (Int × Int)} (hv : ESl W v L) (hN : Near L) (hl9 : L.length ≤ 900) (slot : Int) {s : List Int} (hs : IsSec s) :
    Calls Tryz.prog 31 #[.pointer (some ⟨q, 0, none⟩), v, .int .i64 slot, .agg (u8s s).toArray] W fun e w' => e = .returned (.tuple #[secV (T.plugU L slot s).1, .int .i64 (T.plugU L slot s).2]) ∧ Kept W w' := s13_Plug (B := T) h.doc u hv hN hl9 slot hs
theorem br_sWrite (h : BR w0 R W p T q U) {n z c : Nat} (hs : Sane T n z c) (hn : n ≠ 0) (hc : c < 100000) {v : Value} {L : List (Int × Int)} (hv : ESl W v L) (hN : Near L) (hl9 : L.length ≤ 900) (t : Int)
    {sv : Value} {S : List (List Int)} (hsv : SecSrc W sv S) (hS : ∀ s ∈ S, IsSec s) (hS9 : S.length ≤ 1000) :
    Calls Tryz.prog 19 #[.pointer (some ⟨p, 0, none⟩), v, .int .i64 t, sv] W fun e w' => e = .returned (.int .i64 (T.fullU L t S).2) ∧ BR w0 R w' p (T.fullU L t S).1 q U ∧ SameR R W w' :=
  h.opd (P := fun e => e = .returned (.int .i64 (T.fullU L t S).2)) fun R hb => st_WriteFullU hb hs.inv (by rw [hs.len]; exact hn) (by have := hs.clk; omega) (by have := hs.wri; omega) hv hN hl9 t hsv hS hS9
theorem br_sWrite2 (h : BR w0 R W p V q T.ref) {n z c : Nat} (hs : Sane T n z c) (hm : n * z < 9000) (hc : c < 100000) {v : Value} {L : List (Int × Int)} (hv : ESl W v L) (hN : Near L) (hl9 : L.length ≤ 900) (t : Int)
    {sv : Value} {S : List (List Int)} (hsv : SecSl W sv S) (hS : ∀ s ∈ S, IsSec s) (hS9 : S.length ≤ 1000) (hR : ∀ k, sv.ownBlock = some k → R k) :
    Calls Tryz.prog 26 #[.pointer (some ⟨q, 0, none⟩), v, .int .i64 t, sv] W fun e w' => e = .returned (.int .i64 (T.fullU L t S).2) ∧ BR w0 R w' p V q (T.fullU L t S).1.ref ∧ SameR R W w' := by
  obtain ⟨Y, h0, hd, ho, hr, h⟩ := h
  refine (s13_WriteFull (B := T) (R := fun k => Y.In V.l.length k ∨ R k) h hs hm (by omega) hv hN hl9 t hsv hS hS9 (fun k hk => .inr (hR k hk))).mono ?_
  rintro e w' ⟨he, hb, hs⟩
  exact ⟨he, ⟨Y, h0, hd.same fun b hb' => hs b (.inl hb'), ho, hr, hb⟩, fun k hk => hs k (.inr hk)⟩
end
end Go.Proofs.YtglplhmclfekfaaGreat
/- law13: its steps as they come in (gen_open.py braidworklaw13 OpS OSrc sops opS kind:i k:i t:i n:i more:i a:b m:u). -/
namespace Go.Proofs.YtglplhmclfekfaaGreat
open Go.RowKit
set_option linter.unusedVariables false
set_option linter.unusedSimpArgs false

/-- a step of braidworklaw13 -/
structure OpS where
  kind : Int
  k : Int
  t : Int
  n : Int
  more : Int
  a : Bool
  m : Int
def OSrc (w : World) (v : Value) (l : List OpS) : Prop := ∃ oa cap, v = .slice oa l.length cap ∧ l.length ≤ cap ∧ cap ≤ maxLen ∧ ∀ k (hk : k < l.length), ∃ b off, oa = some ⟨b, off, none⟩ ∧
  Cells w b (off + k * 7) [.int .i64 l[k].kind, .int .i64 l[k].k, .int .i64 l[k].t, .int .i64 l[k].n, .int .i64 l[k].more, .bool l[k].a, .int .u64 l[k].m] ∧ (-9223372036854775808 ≤ l[k].kind ∧ l[k].kind ≤ 9223372036854775807) ∧ (-9223372036854775808 ≤ l[k].k ∧ l[k].k ≤ 9223372036854775807) ∧ (-9223372036854775808 ≤ l[k].t ∧ l[k].t ≤ 9223372036854775807) ∧ (-9223372036854775808 ≤ l[k].n ∧ l[k].n ≤ 9223372036854775807) ∧ (-9223372036854775808 ≤ l[k].more ∧ l[k].more ≤ 9223372036854775807) ∧ (0 ≤ l[k].m ∧ l[k].m < 18446744073709551616)
theorem OSrc.kept {w w' : World} {v : Value} {l : List OpS} (h : OSrc w v l) (hk : Kept w w') : OSrc w' v l := by
  obtain ⟨oa, cap, rfl, h1, h2, h3⟩ := h
  refine ⟨oa, cap, rfl, h1, h2, fun k hkl => ?_⟩
  obtain ⟨b, off, e, c0, r⟩ := h3 k hkl
  exact ⟨b, off, e, c0.kept hk, r⟩
theorem OSrc.at {w : World} {oa : Option Addr} {n cap : Nat} {l : List OpS} (h : OSrc w (.slice oa n cap) l) (k : Nat) (hk : k < l.length) : ∃ b off, oa = some ⟨b, off, none⟩ ∧
    Cells w b (off + k * 7) [.int .i64 l[k].kind, .int .i64 l[k].k, .int .i64 l[k].t, .int .i64 l[k].n, .int .i64 l[k].more, .bool l[k].a, .int .u64 l[k].m] ∧ (-9223372036854775808 ≤ l[k].kind ∧ l[k].kind ≤ 9223372036854775807) ∧ (-9223372036854775808 ≤ l[k].k ∧ l[k].k ≤ 9223372036854775807) ∧ (-9223372036854775808 ≤ l[k].t ∧ l[k].t ≤ 9223372036854775807) ∧ (-9223372036854775808 ≤ l[k].n ∧ l[k].n ≤ 9223372036854775807) ∧ (-9223372036854775808 ≤ l[k].more ∧ l[k].more ≤ 9223372036854775807) ∧ (0 ≤ l[k].m ∧ l[k].m < 18446744073709551616) := by
  obtain ⟨oa', cap', e, h1, h2, h3⟩ := h
  cases e
  exact h3 k hk
theorem wf_isops {z : Int} (h : (Lit.int .i64 z).wf = true) : -9223372036854775808 ≤ z ∧ z ≤ 9223372036854775807 := by
  have h1 : IntKind.i64.min = -9223372036854775808 := rfl
  have h2 : IntKind.i64.max = 9223372036854775807 := rfl
  simp [Lit.wf] at h; omega
theorem wf_usops {z : Int} (h : (Lit.int .u64 z).wf = true) : 0 ≤ z ∧ z < 18446744073709551616 := by
  have h1 : IntKind.u64.min = 0 := rfl
  have h2 : IntKind.u64.max = 18446744073709551615 := rfl
  simp [Lit.wf] at h; omega
set_option maxRecDepth 100000 in
theorem open_sops {H : Type} {enc : TypeId × Value → H} {w : World} {base : Nat} {spare : Nat → Bool} {held : Bool} {fuel : Nat} {v : Value} {x : DataW H × List MemPlace}
    (h : DataW.trod enc Tryz.prog w base spare held fuel 23 [v] = some x) : ∃ l, OSrc w v l := by
  rcases Go.Deep.open_slice Tryz.underlying23 h with ⟨hcs, _⟩ | ⟨a, len, cap, m, n, D, Pl, hcs, _, hl, hmx, hm, _, hi⟩
  · simp at hcs; subst hcs; exact ⟨[], none, 0, rfl, Nat.le_refl _, by decide, fun k hk => by cases hk⟩
  simp at hcs
  subst hcs
  have hlm : len ≤ m := by rw [hm]; split <;> omega
  have hC : Tryz.prog.cellsOf 35 = 7 := by kernel_rfl
  have hCi : Tryz.prog.cellsOf 3 = 1 := by kernel_rfl
  have hCu : Tryz.prog.cellsOf 33 = 1 := by kernel_rfl
  have hCb : Tryz.prog.cellsOf 4 = 1 := by kernel_rfl
  have key : ∀ i, ∃ y : OpS, i < len → w.cell? ((a.add (i * 7)).add 0) = some (.int .i64 y.kind) ∧ w.cell? ((a.add (i * 7)).add 1) = some (.int .i64 y.k) ∧ w.cell? ((a.add (i * 7)).add 2) = some (.int .i64 y.t) ∧ w.cell? ((a.add (i * 7)).add 3) = some (.int .i64 y.n) ∧ w.cell? ((a.add (i * 7)).add 4) = some (.int .i64 y.more) ∧ w.cell? ((a.add (i * 7)).add 5) = some (.bool y.a) ∧ w.cell? ((a.add (i * 7)).add 6) = some (.int .u64 y.m) ∧ (-9223372036854775808 ≤ y.kind ∧ y.kind ≤ 9223372036854775807) ∧ (-9223372036854775808 ≤ y.k ∧ y.k ≤ 9223372036854775807) ∧ (-9223372036854775808 ≤ y.t ∧ y.t ≤ 9223372036854775807) ∧ (-9223372036854775808 ≤ y.n ∧ y.n ≤ 9223372036854775807) ∧ (-9223372036854775808 ≤ y.more ∧ y.more ≤ 9223372036854775807) ∧ (0 ≤ y.m ∧ y.m < 18446744073709551616) := by
    intro i
    by_cases hil : i < len
    · obtain ⟨cs', hc, ht⟩ := hi i (by omega)
      rw [hC] at hc
      obtain ⟨_, hcl, hat⟩ := World.cells?_some hc
      obtain ⟨xs, n', _, _, _, hxl, hf⟩ := DataW.trod_struct Tryz.underlying35 ht
      replace hxl : xs.length = 7 := hxl
      rcases cs' with _ | ⟨c0, _ | ⟨c1, _ | ⟨c2, _ | ⟨c3, _ | ⟨c4, _ | ⟨c5, _ | ⟨c6, _ | ⟨c7, r⟩⟩⟩⟩⟩⟩⟩⟩ <;> simp at hcl
      have f0 : DataW.trod enc Tryz.prog w base spare held n' 3 ((([c0, c1, c2, c3, c4, c5, c6] : List Value).drop 0).take (Tryz.prog.cellsOf 3)) = xs[0]? := hf 0 _ rfl
      rw [hCi, List.getElem?_eq_getElem (by omega)] at f0
      obtain ⟨z0, hz0, _, w0⟩ := DataW.trod_int Tryz.underlying3 f0
      have f1 : DataW.trod enc Tryz.prog w base spare held n' 3 ((([c0, c1, c2, c3, c4, c5, c6] : List Value).drop 1).take (Tryz.prog.cellsOf 3)) = xs[1]? := hf 1 _ rfl
      rw [hCi, List.getElem?_eq_getElem (by omega)] at f1
      obtain ⟨z1, hz1, _, w1⟩ := DataW.trod_int Tryz.underlying3 f1
      have f2 : DataW.trod enc Tryz.prog w base spare held n' 3 ((([c0, c1, c2, c3, c4, c5, c6] : List Value).drop 2).take (Tryz.prog.cellsOf 3)) = xs[2]? := hf 2 _ rfl
      rw [hCi, List.getElem?_eq_getElem (by omega)] at f2
      obtain ⟨z2, hz2, _, w2⟩ := DataW.trod_int Tryz.underlying3 f2
      have f3 : DataW.trod enc Tryz.prog w base spare held n' 3 ((([c0, c1, c2, c3, c4, c5, c6] : List Value).drop 3).take (Tryz.prog.cellsOf 3)) = xs[3]? := hf 3 _ rfl
      rw [hCi, List.getElem?_eq_getElem (by omega)] at f3
      obtain ⟨z3, hz3, _, w3⟩ := DataW.trod_int Tryz.underlying3 f3
      have f4 : DataW.trod enc Tryz.prog w base spare held n' 3 ((([c0, c1, c2, c3, c4, c5, c6] : List Value).drop 4).take (Tryz.prog.cellsOf 3)) = xs[4]? := hf 4 _ rfl
      rw [hCi, List.getElem?_eq_getElem (by omega)] at f4
      obtain ⟨z4, hz4, _, w4⟩ := DataW.trod_int Tryz.underlying3 f4
      have f5 : DataW.trod enc Tryz.prog w base spare held n' 4 ((([c0, c1, c2, c3, c4, c5, c6] : List Value).drop 5).take (Tryz.prog.cellsOf 4)) = xs[5]? := hf 5 _ rfl
      rw [hCb, List.getElem?_eq_getElem (by omega)] at f5
      obtain ⟨z5, hz5, _⟩ := DataW.trod_bool Tryz.underlying4 f5
      have f6 : DataW.trod enc Tryz.prog w base spare held n' 33 ((([c0, c1, c2, c3, c4, c5, c6] : List Value).drop 6).take (Tryz.prog.cellsOf 33)) = xs[6]? := hf 6 _ rfl
      rw [hCu, List.getElem?_eq_getElem (by omega)] at f6
      obtain ⟨z6, hz6, _, w6⟩ := DataW.trod_int Tryz.underlying33 f6
      simp at hz0 hz1 hz2 hz3 hz4 hz5 hz6
      subst hz0 hz1 hz2 hz3 hz4 hz5 hz6
      exact ⟨⟨z0, z1, z2, z3, z4, z5, z6⟩, fun _ => ⟨hat 0 (by simp), hat 1 (by simp), hat 2 (by simp), hat 3 (by simp), hat 4 (by simp), hat 5 (by simp), hat 6 (by simp), wf_isops w0, wf_isops w1, wf_isops w2, wf_isops w3, wf_isops w4, wf_usops w6⟩⟩
    · exact ⟨⟨0, 0, 0, 0, 0, false, 0⟩, fun h' => absurd h' hil⟩
  obtain ⟨f, hf⟩ := Classical.axiomOfChoice key
  refine ⟨(List.range len).map f, some a, cap, by simp, by simpa using hl, hmx, fun k hk => ?_⟩
  have hk' : k < len := by simpa using hk
  have h1 := hf k hk'
  obtain ⟨b, off, spot⟩ := a
  have hsp := World.cell?_spot (hf 0 (by omega)).1
  have hspot : spot = none := by simpa [Addr.add] using hsp
  subst hspot
  refine ⟨b, off, rfl, ?_⟩
  simp only [Addr.add_mid] at h1
  simp only [List.getElem_map, List.getElem_range]
  obtain ⟨e0, e1, e2, e3, e4, e5, e6, d9⟩ := h1
  refine ⟨fun j hj => ?_, d9⟩
  rcases j with _ | _ | _ | _ | _ | _ | _ | j
  · exact e0
  · exact e1
  · exact e2
  · exact e3
  · exact e4
  · exact e5
  · exact e6
  · simp at hj; omega
theorem ty_opS : AggT Tryz.prog 35 7 := ⟨⟨_, Tryz.underlying35, rfl⟩, by kernel_rfl⟩
theorem zero_opS (w : World) : (zeroValue 35).run Tryz.prog w = .ok (.agg [Value.int .i64 0, .int .i64 0, .int .i64 0, .int .i64 0, .int .i64 0, .bool false, .int .u64 0].toArray) w := by kernel_rfl
end Go.Proofs.YtglplhmclfekfaaGreat
