/- law04: LabelSaves, the walk (gen_qd.py). -/
import Derived.Test.YtglplhmclfekfaaQb
import Derived.Test.YtglplhmclfekfaaQc
import Derived.Test.YtglplhmclfekfaaFdA
namespace Go.Proofs.Ytglplhmclfekfaa
open Go.RowKit
set_option linter.unusedVariables false
set_option linter.unusedSimpArgs false

theorem exec_load_lab {W : World} {a : Act} {o : Oper} (x : Operand) (ho : o.op = .load 80 x) (b : Nat) (hx : a.eval x = .pointer (some ⟨b, 0, none⟩)) (xs : List Value) (hl : xs.length = 5) (hc : Cells W b 0 xs) :
    (execOp a.eval o).run Try.prog W = .ok (.value (.agg xs.toArray)) W := by
  obtain ⟨⟨d, hd1, hd2⟩, hs⟩ := ty_lab
  unfold execOp
  simp only [ho, hx, Instr.loadAt, Instr.sureAddr, Sem.run_bind, Sem.run_pure, Result.andThen_ok, run_loadVar_mid W b 0 80 xs d (rangeAt_of_cells hc) hd1 hd2 (by rw [hs, hl])]
theorem parse_top {bs : List Int} (h : ofOk bs = true) : (parse bs).ms.length ≤ 12 := right_len (by
  simp only [ofOk, Bool.and_eq_true] at h
  first | exact h.1.2 | exact h.2.1 | exact h.1)
theorem cand_top {d : Int} {s : List Int} {l : Lab} (h : l ∈ candL d s) : l.ms.length ≤ 12 := by
  unfold candL at h
  split at h
  · rename_i hh
    rw [List.mem_singleton.1 h]; exact parse_top hh.1
  · cases h
theorem pick_top {C : List Lab} (h : ∀ l ∈ C, l.ms.length ≤ 12) : (pickL C).1.ms.length ≤ 12 := by
  rcases C with _ | ⟨x, _ | ⟨y, C⟩⟩
  · exact Nat.zero_le _
  · exact h x (by simp)
  · show (if x.gen < y.gen then y else x).ms.length ≤ 12
    split
    · exact h y (by simp)
    · exact h x (by simp)
theorem BankT.load_top (T : BankT) (d : Int) : (T.loadL d).1.ms.length ≤ 12 := by
  unfold BankT.loadL
  split
  · exact Nat.zero_le _
  · split
    · exact Nat.zero_le _
    · exact pick_top fun l hl => by
        rcases List.mem_append.1 hl with h | h
        · exact cand_top h
        · exact cand_top h
/-- where the members of a label that was cut lie -/
theorem cut_new {w w' : World} {sl : Value} {ms : List Mem} (h : MSl w' sl ms) (hn : ms ≠ []) (hs : ∀ W : World, (∀ k, w.heap.size ≤ k → W.heap[k]? = w'.heap[k]?) → MSl W sl ms) {b : Nat} (hb : sl.ownBlock = some b) : w.heap.size ≤ b ∧ b < w'.heap.size := by
  refine ⟨?_, h.lt hn hb⟩
  by_cases hlt : w.heap.size ≤ b
  · exact hlt
  · exfalso
    have h2 := hs { w' with heap := w'.heap.setIfInBounds b (.cells #[] 0 (0, 0)) } (fun k hk => by
      show (w'.heap.setIfInBounds b _)[k]? = _
      rw [Array.getElem?_setIfInBounds, if_neg (by omega)])
    rcases h2 with ⟨e, _⟩ | ⟨b', off, cap, rfl, h2⟩
    · exact hn e
    · simp only [Value.ownBlock, Option.some.injEq] at hb
      subst hb
      have h3 := (h2 0 (by rcases ms with _ | ⟨m, ms⟩; exact absurd rfl hn; simp)).1
      have hlt' := h.lt hn (b := b') rfl
      simp only [World.cell?] at h3
      have e : (w'.heap.setIfInBounds b' (Obj.cells #[] 0 (0, 0)))[b']? = some (Obj.cells #[] 0 (0, 0)) := by rw [Array.getElem?_setIfInBounds, if_pos rfl, if_pos hlt']
      rw [e] at h3
      simp at h3
section
variable {w0 W W' : World} {R : Nat → Prop} {p q : Nat} {T : BankT} {U : RT}
theorem BR.range (h : BR w0 R W p T q U) (hk : Kept W W') (S : Nat → Prop) (hS : ∀ k, S k → W.heap.size ≤ k ∧ k < W'.heap.size) : BR w0 (fun k => R k ∨ S k) W' p T q U := by
  obtain ⟨Y, h0, hd, ho, hr, Yr, hq, hrd, hkk, hro, hrr⟩ := h
  refine ⟨Y, h0, hd.kept hk, ho, fun k hk' => ?_, Yr, hq, hrd.kept hk, hkk.trans hk, hro, fun k hk' => ?_⟩
  · rcases hk' with hk' | hk'
    · exact hr k hk'
    · intro hi; have := hd.lt hi; have := (hS k hk').1; omega
  · rcases hk' with hk' | hk' | hk'
    · exact ⟨Nat.lt_of_lt_of_le (hrr k (.inl hk')).1 hk.size, (hrr k (.inl hk')).2⟩
    · exact ⟨Nat.lt_of_lt_of_le (hrr k (.inr hk')).1 hk.size, (hrr k (.inr hk')).2⟩
    · exact ⟨(hS k hk').2, fun hi => by have := hrd.lt hi; have := (hS k hk').1; omega⟩
theorem BR.wrote (h : BR w0 R W p T q U) {B : Nat} {cs : List Value} {t : TypeId} (hw : Wrote W W' B cs t) (hB : R B) (hb : w0.heap.size ≤ B) : BR w0 R W' p T q U := by
  obtain ⟨Y, h0, hd, ho, hr, Yr, hq, hrd, hkk, hro, hrr⟩ := h
  have hsz : W'.heap.size = W.heap.size := hw.size
  refine ⟨Y, h0, hd.same fun b hb' => hw.oth b fun e => hr B hB (by rw [← e]; exact hb'), ho, hr, Yr, hq, hrd.same fun b hb' => hw.oth b fun e => (hrr B (.inr hB)).2 (by rw [← e]; exact hb'), hw.kept hkk hb, hro, fun k hk' => ⟨by rw [hsz]; exact (hrr k hk').1, (hrr k hk').2⟩⟩
end
set_option maxHeartbeats 4000000
set_option maxRecDepth 100000
theorem law_saves (v0 : Value) (L : List (Lab × Value)) (v1 : Value) (l : List (List Int)) (x : Lab) (ox : Option Addr) (nx cx : Nat) (dead arm mask : Int) (w : World) (h0 : LSrc w v0 L) (h1 : SSrc w v1 l) (h2 : MSrc w (.slice ox nx cx) x.ms) (h4 : -9223372036854775808 ≤ arm ∧ arm ≤ 9223372036854775807) (h5 : 0 ≤ mask ∧ mask < 18446744073709551616) :
    Calls Try.prog 7 #[v0, v1, x.val (.slice ox nx cx), .int .i64 dead, .int .i64 arm, .int .u64 mask] w fun e w' => e = .returned (.bool true) ∧ Kept w w' := by
  have HSL := Lib.hid h1
  have HLL := Lib.hid h0
  have HMX := Lib.hid h2
  have HAM : Hid (arm < 9223372036854775808 ∧ (0 ≤ mask ∧ mask < 18446744073709551616)) := Lib.hid ⟨by omega, h5⟩
  obtain ⟨ol, lcap, rfl, _⟩ := h0
  obtain ⟨oa, cap, rfl, _⟩ := h1
  clear h2 h4 h5
  have hxv : x.val (.slice ox nx cx) = .agg (Lab.vals x (.slice ox nx cx)).toArray := rfl
  rw [hxv]
  clear hxv
  go_enter Try.func7, Try.ntmps7
  go_wp2_with (refine stop_at (o := ⟨some 8, _, _, _, _, _⟩) ?_)
  refine Stop.mk ?_
  refine wpList_box_row rfl _ _ rfl (Lab.vals x (.slice ox nx cx)) rfl ?_
  intro w1 hz hs1 hk1
  have HX1 := hz
  have HK1 := Lib.hid hk1
  have HXW := Lib.hid hs1
  obtain ⟨X, hX⟩ : ∃ b, b = w.heap.size := ⟨_, rfl⟩
  rw [← hX] at HX1 HXW ⊢
  have HXE : Hid (w.heap.size ≤ X) := Lib.hid (Nat.le_of_eq hX.symm)
  clear hz hs1 hk1 hX
  go_wp2_with fail
  refine Calls.mono (law_shown _) ?_
  rintro e w2 ⟨rfl, hk2⟩
  have HX2 := Lib.hid (hk2.block HX1.out)
  have HK2 := Lib.hid (HK1.out.trans hk2)
  have HXL := Lib.hid (Nat.lt_of_lt_of_le HXW.out hk2.size)
  clear hk2 HX1 HK1 HXW
  go_wp2_with fail
  refine Calls.mono (law_bankB L ol lcap l oa cap w w2 (fun k => k = X) HLL.out HSL.out HK2.out (fun k hk => by rw [hk]; exact HXL.out)) ?_
  rintro e w3 ⟨p, q, T0, rfl, hb, hsa, hr⟩
  have HP3 := Lib.hid hb
  have HSA3 := Lib.hid hsa
  have HX3 := Lib.hid ((hr X rfl).trans HX2.out)
  clear hb hsa hr HX2 HK2 HXL HLL HSL
  have hdead : (0 ≤ dead ∧ dead < 3) ∨ dead < 0 ∨ (0 ≤ dead ∧ 3 ≤ dead) := by omega
  rcases hdead with ⟨hd0, hd3⟩ | hd0 | ⟨hd0, hd3⟩
  · have HU := Lib.hid (HSA3.out.use (by decide) (by decide))
    have HDO := Lib.hid (HSA3.out.doc (by decide) (by decide))
    go_wp2_with fail
    refine Calls.mono (br_Fail HP3.out HU.out dead) ?_
    rintro e w4 ⟨rfl, hb, hr⟩
    have HP4 := Lib.hid hb
    have HX4 := Lib.hid ((hr X rfl).trans HX3.out)
    clear hb hr HX3 HP3
    go_wp2_with fail
    refine Calls.mono (br_Fail2 HP4.out HDO.out dead) ?_
    rintro e w5 ⟨rfl, hb, hr⟩
    have HP5 := Lib.hid hb
    have HX5 := Lib.hid ((hr X rfl).trans HX4.out)
    have HSA5 := Lib.hid (HSA3.out.failC dead)
    clear hb hr HX4 HP4 HU HDO HSA3
    obtain ⟨T1, hT1⟩ : ∃ T1, (T0.failC dead).1 = T1 := ⟨_, rfl⟩
    rw [hT1] at HP5 HSA5
    clear hT1 hd0 hd3
    go_wp2_with fail
    refine Calls.mono (br_Arm HP5.out arm mask) ?_
    rintro e w6 ⟨rfl, hb, hr⟩
    have HP6 := Lib.hid hb
    have HX6 := Lib.hid ((hr X rfl).trans HX5.out)
    have HSA6 := HSA5
    clear hb hr HX5 HP5 HSA5
    go_wp2_with fail
    refine Calls.mono (br_Arm2 HP6.out arm mask) ?_
    rintro e w7 ⟨rfl, hb, hr⟩
    have HP7 := Lib.hid hb
    have HX7 := Lib.hid ((hr X rfl).trans HX6.out)
    have HSA7 := Lib.hid (HSA6.out.arm HAM.out.1 HAM.out.2)
    clear hb hr HX6 HP6 HSA6
    obtain ⟨T2, hT2⟩ : ∃ T2, T1.arm arm mask = T2 := ⟨_, rfl⟩
    rw [hT2] at HP7 HSA7
    clear hT2
    go_wp2_with (refine stop_at (o := ⟨some 56, _, _, _, _, _⟩) ?_)
    refine Stop.mk ?_
    refine wpList_load_agg rfl _ rfl ty_lab X 0 rfl (Lab.vals x (.slice ox nx cx)) (by simpa using Cells.of_block HX7.out) rfl ?_
    go_wp2_with fail
    refine Calls.mono (law_cut x ox nx cx _ (HMX.out.keptA HP7.out.keeps)) ?_
    rintro e w8 ⟨sl, rfl, hm, hk8, hst⟩
    have HM8 : Hid (MSl w8 sl x.cut.ms) := Lib.hid hm
    have HX8 := Lib.hid (hk8.block HX7.out)
    have HP8 : Hid (BR w (fun k => k = X ∨ (x.cut.ms ≠ [] ∧ sl.ownBlock = some k)) w8 p T2 q T2.ref) := Lib.hid (HP7.out.range hk8 _ fun k hk => cut_new hm hk.1 hst hk.2)
    have HXL : Hid (x.cut.ms ≠ [] → sl.ownBlock ≠ some X) := Lib.hid fun hne e => by
      have h1 := (cut_new hm hne hst e).1
      have h2 := (Array.getElem?_eq_some_iff.1 HX7.out).1
      omega
    clear hm hk8 hst HX7 HP7
    go_wp2_with (refine stop_at (o := ⟨none, .store _ _ _, _, _, _, _⟩) ?_)
    refine Stop.mk ?_
    refine wpList_store_agg rfl _ _ rfl ty_lab X 0 rfl (Lab.vals x.cut sl) rfl rfl (lab_one x.cut sl HM8.out.one) _ _ HX8.out (by simp [Lab.vals]) ?_
    intro w9 hw9
    replace hw9 := hw9.all rfl
    have hS := hw9.blk
    have HPA := Lib.hid (HP8.out.wrote hw9 (.inl rfl) HXE.out)
    have HM6 : Hid (MSl w9 sl x.cut.ms) := Lib.hid (by
      by_cases hne : x.cut.ms = []
      · rw [hne]; rcases HM8.out with h | ⟨b, off, cap, e, _⟩
        · exact .inl ⟨rfl, h.2⟩
        · exact .inr ⟨b, off, cap, by rw [← hne]; exact e, fun i hi => absurd hi (Nat.not_lt_zero _)⟩
      · exact HM8.out.same fun b hb => hw9.oth b fun e => HXL.out hne (by rw [← e]; exact hb))
    clear hw9 HX8 HP8 HM8 HXL
    have HP6 : Hid (BR w (fun k => k = X ∨ (x.cut.ms ≠ [] ∧ sl.ownBlock = some k)) w9.drew p T2 q T2.ref) := Lib.hid (HPA.out.kept (Kept.refl _).drew)
    clear HPA
    have HU := Lib.hid (HSA7.out.use (by decide) (by decide))
    have HDO := Lib.hid (HSA7.out.doc (by decide) (by decide))
    have hlx : x.cut.ms.length ≤ 9223372036854775807 := by
      have : x.cut.ms.length ≤ 20 := by show (x.ms.take 20).length ≤ 20; rw [List.length_take]; omega
      omega
    have H1 := Lib.hid (fun (R : Nat → Prop) (W : World) (h : BR w R W p T2 q T2.ref) (hm : MSl W sl x.cut.ms) => br_Save h HU.out x.cut sl hlx hm fun hr => (HSA7.out.write _ _ (right_sec hr)).use (by decide) (by decide))
    have H2 := Lib.hid (fun (R : Nat → Prop) (W : World) (h : BR w R W p (T2.saveX x.cut).1 q T2.ref) (hm : MSl W sl x.cut.ms) => br_Save2 h HDO.out x.cut sl hlx hm fun hr => (HSA7.out.write _ _ (right_sec hr)).doc (by decide) (by decide))
    have HSA8 := Lib.hid (HSA7.out.saveX x.cut)
    obtain ⟨T3, ec, hT3⟩ : ∃ T3 ec, T2.saveX x.cut = (T3, ec) := ⟨_, _, rfl⟩
    rw [hT3] at H1 H2 HSA8
    simp only at H1 H2 HSA8
    clear hT3 hlx HU HDO HSA7
    have same : ∀ {W W' : World} {ms : List Mem}, MSl W sl ms → (∀ b, (ms ≠ [] ∧ sl.ownBlock = some b) → W'.heap[b]? = W.heap[b]?) → MSl W' sl ms := fun {W W' ms} h hs => by
      by_cases hne : ms = []
      · subst hne; rcases h with h | ⟨b, off, cap, e, _⟩
        · exact .inl h
        · exact .inr ⟨b, off, cap, e, fun i hi => absurd hi (Nat.not_lt_zero _)⟩
      · exact h.same fun b hb => hs b ⟨hne, hb⟩
    have HSM := Lib.hid (fun (W W' : World) (ms : List Mem) h hs => same (W := W) (W' := W') (ms := ms) h hs)
    clear same
    go_upto_region 11 with fail
    replace hS : w9.drew.heap[X]? = some (.cells (Lab.vals x.cut sl).toArray 80 (0, 0)) := hS
    refine wp_region_calm ?_
    refine wp_region_E (fun W => W.heap[X]? = some (.cells (Lab.vals x.cut sl).toArray 80 (0, 0))) 100 (by kernel_rfl) ?_
    refine wpAnyE_take (i := 0) (v := ?_) (listed' := #[true, false, false, false, false, false, false]) (by rfl) (by kernel_rfl) (by kernel_rfl) calm_put hS (by rfl) ?_ ?_
    rotate_left
    · intro W hW; clear hW; go_simp; try (with_reducible rfl)
    simp only [Act.put, List.getElem_toArray, List.getElem_cons_succ, List.getElem_cons_zero, List.setIfInBounds_toArray, List.set_cons_zero, List.set_cons_succ]
    refine wpAnyE_take (i := 1) (v := (x.cut.val sl)) (listed' := #[true, true, false, false, false, false, false]) (by rfl) (by kernel_rfl) (by kernel_rfl) calm_put hS (by rfl) ?_ ?_
    · intro W hW; skip; exact exec_load_lab _ rfl X rfl (Lab.vals x.cut sl) rfl (by simpa using Cells.of_block hW)
    simp only [Act.put, List.getElem_toArray, List.getElem_cons_succ, List.getElem_cons_zero, List.setIfInBounds_toArray, List.set_cons_zero, List.set_cons_succ]
    refine wpAnyE_take (i := 3) (v := ?_) (listed' := #[true, true, false, true, false, false, false]) (by rfl) (by kernel_rfl) (by kernel_rfl) calm_put hS (by rfl) ?_ ?_
    rotate_left
    · intro W hW; clear hW; go_simp; try (with_reducible rfl)
    simp only [Act.put, List.getElem_toArray, List.getElem_cons_succ, List.getElem_cons_zero, List.setIfInBounds_toArray, List.set_cons_zero, List.set_cons_succ]
    refine wpAnyE_take (i := 4) (v := (x.cut.val sl)) (listed' := #[true, true, false, true, true, false, false]) (by rfl) (by kernel_rfl) (by kernel_rfl) calm_put hS (by rfl) ?_ ?_
    · intro W hW; skip; exact exec_load_lab _ rfl X rfl (Lab.vals x.cut sl) rfl (by simpa using Cells.of_block hW)
    simp only [Act.put, List.getElem_toArray, List.getElem_cons_succ, List.getElem_cons_zero, List.setIfInBounds_toArray, List.set_cons_zero, List.set_cons_succ]
    refine wpAnyE_one (i := 2) (listed' := #[true, true, true, true, true, false, false]) (by rfl) (by kernel_rfl) (by kernel_rfl) (by rfl) (fun K hK => ?_)
    simp only [Act.put, List.getElem_toArray, List.getElem_cons_succ, List.getElem_cons_zero, List.setIfInBounds_toArray, List.set_cons_zero, List.set_cons_succ]
    go_wp2_with fail
    refine Calls.mono (H1.out _ _ HP6.out HM6.out) ?_
    rintro e v7 ⟨rfl, hb, hr⟩
    have HP7 := Lib.hid hb
    have HM7 := Lib.hid (HSM.out _ _ _ HM6.out fun b hb => hr b (.inr hb))
    have hS := (hr X (.inl rfl)).trans hS
    refine hK _ _ (fun _ => hS) ?_; clear hK K
    clear hb hr HP6 HM6
    refine wpAnyE_one (i := 5) (listed' := #[true, true, true, true, true, true, false]) (by rfl) (by kernel_rfl) (by kernel_rfl) (by rfl) (fun K hK => ?_)
    simp only [Act.put, List.getElem_toArray, List.getElem_cons_succ, List.getElem_cons_zero, List.setIfInBounds_toArray, List.set_cons_zero, List.set_cons_succ]
    go_wp2_with fail
    refine Calls.mono (H2.out _ _ HP7.out HM7.out) ?_
    rintro e v8 ⟨rfl, hb, hr⟩
    have HP8 := Lib.hid hb
    have HM8 := Lib.hid (HSM.out _ _ _ HM7.out fun b hb => hr b (.inr hb))
    have hS := (hr X (.inl rfl)).trans hS
    refine hK _ _ (fun _ => hS) ?_; clear hK K
    clear hb hr HP7 HM7
    refine wpAnyE_take (i := 6) (v := ?_) (listed' := #[true, true, true, true, true, true, true]) (by rfl) (by kernel_rfl) (by kernel_rfl) calm_put hS (by rfl) ?_ ?_
    rotate_left
    · intro W hW; clear hW; go_simp; try (with_reducible rfl)
    simp only [Act.put, List.getElem_toArray, List.getElem_cons_succ, List.getElem_cons_zero, List.setIfInBounds_toArray, List.set_cons_zero, List.set_cons_succ]
    refine wpAnyE_done (by kernel_rfl) ?_ _
    refine calm_normal ?_
    have HQ := Lib.hid (HP8.out.less (R' := fun _ => False) fun k hk => hk.elim)
    clear hS H1 H2 HP8 HM8 HSM
    go_wp2
    go_loopw [16] (fun i wr => ∃ (k : Nat) (T : BankT), k ≤ 2 ∧ i = .int .i64 k ∧ Hid (BR w (fun _ => False) wr p T q T.ref) ∧ Hid (Sane T 3 200 13)) (fun i _ => 2 - (intOf i).toNat)
    case atStart => exact ⟨0, T3, Nat.zero_le _, rfl, HQ, HSA8⟩
    case round =>
      clear HQ HSA8
      obtain ⟨k, T, hk, rfl, HP, HSA⟩ := hrel
      by_cases hlt : k < 2
      · have hk2' : (k : Int) < 2 := by omega
        have HU := Lib.hid (HSA.out.use (by decide) (by decide))
        have HDO := Lib.hid (HSA.out.doc (by decide) (by decide))
        go_wp2
        go_loopw [17] (fun i wr => ∃ (j : Nat), j ≤ 5 ∧ i = .int .i64 ((j : Int) - 1) ∧ Hid (BR w (fun _ => False) wr p T q T.ref)) (fun i _ => (4 - intOf i).toNat)
        case atStart => exact ⟨0, Nat.zero_le _, rfl, HP⟩
        case round =>
          clear HP
          obtain ⟨j, hj, rfl, HP⟩ := hrel
          by_cases hlj : j < 5
          · have hd4 : (j : Int) - 1 < 4 := by omega
            have H1 := Lib.hid (fun (W : World) (h : BR w (fun _ => False) W p T q T.ref) => label_Load h.disk HU.out ((j : Int) - 1))
            have H2 := Lib.hid (fun (W : World) (h : BR w (fun _ => False) W p T q T.ref) => doc_Load (T := T) h.doc HDO.out ((j : Int) - 1))
            have HLT := Lib.hid (T.load_top ((j : Int) - 1))
            obtain ⟨y, ec, hT'⟩ : ∃ y ec, T.loadL ((j : Int) - 1) = (y, ec) := ⟨_, _, rfl⟩
            rw [hT'] at H1 H2 HLT
            simp only at H1 H2 HLT
            clear hT'
            go_wp2_with fail
            refine Calls.mono (H1.out _ HP.out) ?_
            rintro e u1 ⟨s1, rfl, hm, hk1⟩
            have HP1 := Lib.hid (HP.out.kept hk1)
            have HM1 := Lib.hid hm
            clear hm hk1 HP H1
            go_wp2_with (refine stop_at (o := ⟨some 18, _, _, _, _, _⟩) ?_)
            refine Stop.mk ?_
            refine wpList_new_row rfl rfl _ _ rfl rfl ty_lab [.int .i64 0, .int .i64 0, .int .i64 0, .int .i64 0, .slice none 0 0] zero_lab rfl (Lab.vals y s1) rfl rfl (lab_one y s1 HM1.out.one) rfl ?_
            intro u2 hz hs2 hk2
            have HV2 := hz
            have HP2 := Lib.hid (HP1.out.kept hk2)
            have HM2 := Lib.hid (HM1.out.kept hk2)
            obtain ⟨V1, hV⟩ : ∃ b, b = u1.heap.size := ⟨_, rfl⟩
            rw [← hV] at HV2 ⊢
            clear hz hs2 hk2 hV HP1 HM1
            go_wp2_with fail
            refine Calls.mono (H2.out _ HP2.out) ?_
            rintro e u3 ⟨s2, rfl, hm, hk3⟩
            have HP3 := Lib.hid (HP2.out.kept hk3)
            have HM3 := Lib.hid (HM2.out.kept hk3)
            have HV3 := Lib.hid (hk3.block HV2.out)
            have HN3 := Lib.hid hm
            clear hm hk3 HP2 HM2 HV2 H2
            go_wp2_with (refine stop_at (o := ⟨some 20, _, _, _, _, _⟩) ?_)
            refine Stop.mk ?_
            refine wpList_new_row rfl rfl _ _ rfl rfl ty_lab [.int .i64 0, .int .i64 0, .int .i64 0, .int .i64 0, .slice none 0 0] zero_lab rfl (Lab.vals y s2) rfl rfl (lab_one y s2 HN3.out.one) rfl ?_
            intro u4 hz hs4 hk4
            have HY4 := hz
            have HP4 := Lib.hid (HP3.out.kept hk4)
            have HM4 := Lib.hid (HM3.out.kept hk4)
            have HN4 := Lib.hid (HN3.out.kept hk4)
            have HV4 := Lib.hid (hk4.block HV3.out)
            obtain ⟨V2, hV⟩ : ∃ b, b = u3.heap.size := ⟨_, rfl⟩
            rw [← hV] at HY4 ⊢
            clear hz hs4 hk4 hV HP3 HM3 HN3 HV3
            go_wp2_with (refine stop_at (o := ⟨some 85, _, _, _, _, _⟩) ?_)
            refine Stop.mk ?_
            refine wpList_load_agg rfl _ rfl ty_lab V1 0 rfl (Lab.vals y s1) (by simpa using Cells.of_block HV4.out) rfl ?_
            go_wp2_with (refine stop_at (o := ⟨some 86, _, _, _, _, _⟩) ?_)
            refine Stop.mk ?_
            refine wpList_load_agg rfl _ rfl ty_lab V2 0 rfl (Lab.vals y s2) (by simpa using Cells.of_block HY4.out) rfl ?_
            go_wp2_with fail
            refine Calls.mono (same_labels y s1 s2 u4 (by have := HLT.out; omega) HM4.out HN4.out) ?_
            rintro e u5 ⟨rfl, hk5⟩
            have HP5 := Lib.hid (HP4.out.kept hk5)
            clear hk5 HP4 HM4 HN4 HV4 HY4
            go_wp2
            go_roundw
            case rel => exact ⟨j + 1, hlj, by go_num, HP5⟩
            case measure => simp [intOf]; omega
          · have hd4 : ¬ ((j : Int) - 1 < 4) := by omega
            go_wp2_with fail
            refine Calls.mono (br_Crash HP.out HU.out mask HAM.out.2.1 HAM.out.2.2) ?_
            rintro e u1 ⟨rfl, hb, _⟩
            have HP1 := Lib.hid hb
            clear hb HP
            go_wp2_with fail
            refine Calls.mono (br_Crash2 HP1.out HDO.out mask HAM.out.2.1) ?_
            rintro e u2 ⟨rfl, hb, _⟩
            have HP2 := Lib.hid hb
            clear hb HP1
            go_wp2_with fail
            refine Calls.mono (br_Start HP2.out) ?_
            rintro e u3 ⟨rfl, hb, _⟩
            have HP3 := Lib.hid hb
            clear hb HP2
            go_wp2_with fail
            refine Calls.mono (br_Start2 HP3.out) ?_
            rintro e u4 ⟨rfl, hb, _⟩
            have HP4 := Lib.hid hb
            have HSA4 := Lib.hid ((HSA.out.crash mask).start)
            clear hb HP3
            go_wp2
            go_roundw
            case rel => exact ⟨k + 1, _, hlt, by go_num, HP4, HSA4⟩
            case measure => simp [intOf]; omega
      · go_wp2
        go_ret
        exact ⟨rfl, HP.out.keeps⟩
  · obtain ⟨T1, hT1⟩ : ∃ T1, T0 = T1 := ⟨_, rfl⟩
    rw [hT1] at HP3 HSA3
    clear hT1 T0
    have hd3 : dead < 3 := by omega
    go_wp2_with fail
    refine Calls.mono (br_Arm HP3.out arm mask) ?_
    rintro e w6 ⟨rfl, hb, hr⟩
    have HP6 := Lib.hid hb
    have HX6 := Lib.hid ((hr X rfl).trans HX3.out)
    have HSA6 := HSA3
    clear hb hr HX3 HP3 HSA3 hd0 hd3
    go_wp2_with fail
    refine Calls.mono (br_Arm2 HP6.out arm mask) ?_
    rintro e w7 ⟨rfl, hb, hr⟩
    have HP7 := Lib.hid hb
    have HX7 := Lib.hid ((hr X rfl).trans HX6.out)
    have HSA7 := Lib.hid (HSA6.out.arm HAM.out.1 HAM.out.2)
    clear hb hr HX6 HP6 HSA6
    obtain ⟨T2, hT2⟩ : ∃ T2, T1.arm arm mask = T2 := ⟨_, rfl⟩
    rw [hT2] at HP7 HSA7
    clear hT2
    go_wp2_with (refine stop_at (o := ⟨some 56, _, _, _, _, _⟩) ?_)
    refine Stop.mk ?_
    refine wpList_load_agg rfl _ rfl ty_lab X 0 rfl (Lab.vals x (.slice ox nx cx)) (by simpa using Cells.of_block HX7.out) rfl ?_
    go_wp2_with fail
    refine Calls.mono (law_cut x ox nx cx _ (HMX.out.keptA HP7.out.keeps)) ?_
    rintro e w8 ⟨sl, rfl, hm, hk8, hst⟩
    have HM8 : Hid (MSl w8 sl x.cut.ms) := Lib.hid hm
    have HX8 := Lib.hid (hk8.block HX7.out)
    have HP8 : Hid (BR w (fun k => k = X ∨ (x.cut.ms ≠ [] ∧ sl.ownBlock = some k)) w8 p T2 q T2.ref) := Lib.hid (HP7.out.range hk8 _ fun k hk => cut_new hm hk.1 hst hk.2)
    have HXL : Hid (x.cut.ms ≠ [] → sl.ownBlock ≠ some X) := Lib.hid fun hne e => by
      have h1 := (cut_new hm hne hst e).1
      have h2 := (Array.getElem?_eq_some_iff.1 HX7.out).1
      omega
    clear hm hk8 hst HX7 HP7
    go_wp2_with (refine stop_at (o := ⟨none, .store _ _ _, _, _, _, _⟩) ?_)
    refine Stop.mk ?_
    refine wpList_store_agg rfl _ _ rfl ty_lab X 0 rfl (Lab.vals x.cut sl) rfl rfl (lab_one x.cut sl HM8.out.one) _ _ HX8.out (by simp [Lab.vals]) ?_
    intro w9 hw9
    replace hw9 := hw9.all rfl
    have hS := hw9.blk
    have HPA := Lib.hid (HP8.out.wrote hw9 (.inl rfl) HXE.out)
    have HM6 : Hid (MSl w9 sl x.cut.ms) := Lib.hid (by
      by_cases hne : x.cut.ms = []
      · rw [hne]; rcases HM8.out with h | ⟨b, off, cap, e, _⟩
        · exact .inl ⟨rfl, h.2⟩
        · exact .inr ⟨b, off, cap, by rw [← hne]; exact e, fun i hi => absurd hi (Nat.not_lt_zero _)⟩
      · exact HM8.out.same fun b hb => hw9.oth b fun e => HXL.out hne (by rw [← e]; exact hb))
    clear hw9 HX8 HP8 HM8 HXL
    have HP6 : Hid (BR w (fun k => k = X ∨ (x.cut.ms ≠ [] ∧ sl.ownBlock = some k)) w9.drew p T2 q T2.ref) := Lib.hid (HPA.out.kept (Kept.refl _).drew)
    clear HPA
    have HU := Lib.hid (HSA7.out.use (by decide) (by decide))
    have HDO := Lib.hid (HSA7.out.doc (by decide) (by decide))
    have hlx : x.cut.ms.length ≤ 9223372036854775807 := by
      have : x.cut.ms.length ≤ 20 := by show (x.ms.take 20).length ≤ 20; rw [List.length_take]; omega
      omega
    have H1 := Lib.hid (fun (R : Nat → Prop) (W : World) (h : BR w R W p T2 q T2.ref) (hm : MSl W sl x.cut.ms) => br_Save h HU.out x.cut sl hlx hm fun hr => (HSA7.out.write _ _ (right_sec hr)).use (by decide) (by decide))
    have H2 := Lib.hid (fun (R : Nat → Prop) (W : World) (h : BR w R W p (T2.saveX x.cut).1 q T2.ref) (hm : MSl W sl x.cut.ms) => br_Save2 h HDO.out x.cut sl hlx hm fun hr => (HSA7.out.write _ _ (right_sec hr)).doc (by decide) (by decide))
    have HSA8 := Lib.hid (HSA7.out.saveX x.cut)
    obtain ⟨T3, ec, hT3⟩ : ∃ T3 ec, T2.saveX x.cut = (T3, ec) := ⟨_, _, rfl⟩
    rw [hT3] at H1 H2 HSA8
    simp only at H1 H2 HSA8
    clear hT3 hlx HU HDO HSA7
    have same : ∀ {W W' : World} {ms : List Mem}, MSl W sl ms → (∀ b, (ms ≠ [] ∧ sl.ownBlock = some b) → W'.heap[b]? = W.heap[b]?) → MSl W' sl ms := fun {W W' ms} h hs => by
      by_cases hne : ms = []
      · subst hne; rcases h with h | ⟨b, off, cap, e, _⟩
        · exact .inl h
        · exact .inr ⟨b, off, cap, e, fun i hi => absurd hi (Nat.not_lt_zero _)⟩
      · exact h.same fun b hb => hs b ⟨hne, hb⟩
    have HSM := Lib.hid (fun (W W' : World) (ms : List Mem) h hs => same (W := W) (W' := W') (ms := ms) h hs)
    clear same
    go_upto_region 11 with fail
    replace hS : w9.drew.heap[X]? = some (.cells (Lab.vals x.cut sl).toArray 80 (0, 0)) := hS
    refine wp_region_calm ?_
    refine wp_region_E (fun W => W.heap[X]? = some (.cells (Lab.vals x.cut sl).toArray 80 (0, 0))) 100 (by kernel_rfl) ?_
    refine wpAnyE_take (i := 0) (v := ?_) (listed' := #[true, false, false, false, false, false, false]) (by rfl) (by kernel_rfl) (by kernel_rfl) calm_put hS (by rfl) ?_ ?_
    rotate_left
    · intro W hW; clear hW; go_simp; try (with_reducible rfl)
    simp only [Act.put, List.getElem_toArray, List.getElem_cons_succ, List.getElem_cons_zero, List.setIfInBounds_toArray, List.set_cons_zero, List.set_cons_succ]
    refine wpAnyE_take (i := 1) (v := (x.cut.val sl)) (listed' := #[true, true, false, false, false, false, false]) (by rfl) (by kernel_rfl) (by kernel_rfl) calm_put hS (by rfl) ?_ ?_
    · intro W hW; skip; exact exec_load_lab _ rfl X rfl (Lab.vals x.cut sl) rfl (by simpa using Cells.of_block hW)
    simp only [Act.put, List.getElem_toArray, List.getElem_cons_succ, List.getElem_cons_zero, List.setIfInBounds_toArray, List.set_cons_zero, List.set_cons_succ]
    refine wpAnyE_take (i := 3) (v := ?_) (listed' := #[true, true, false, true, false, false, false]) (by rfl) (by kernel_rfl) (by kernel_rfl) calm_put hS (by rfl) ?_ ?_
    rotate_left
    · intro W hW; clear hW; go_simp; try (with_reducible rfl)
    simp only [Act.put, List.getElem_toArray, List.getElem_cons_succ, List.getElem_cons_zero, List.setIfInBounds_toArray, List.set_cons_zero, List.set_cons_succ]
    refine wpAnyE_take (i := 4) (v := (x.cut.val sl)) (listed' := #[true, true, false, true, true, false, false]) (by rfl) (by kernel_rfl) (by kernel_rfl) calm_put hS (by rfl) ?_ ?_
    · intro W hW; skip; exact exec_load_lab _ rfl X rfl (Lab.vals x.cut sl) rfl (by simpa using Cells.of_block hW)
    simp only [Act.put, List.getElem_toArray, List.getElem_cons_succ, List.getElem_cons_zero, List.setIfInBounds_toArray, List.set_cons_zero, List.set_cons_succ]
    refine wpAnyE_one (i := 2) (listed' := #[true, true, true, true, true, false, false]) (by rfl) (by kernel_rfl) (by kernel_rfl) (by rfl) (fun K hK => ?_)
    simp only [Act.put, List.getElem_toArray, List.getElem_cons_succ, List.getElem_cons_zero, List.setIfInBounds_toArray, List.set_cons_zero, List.set_cons_succ]
    go_wp2_with fail
    refine Calls.mono (H1.out _ _ HP6.out HM6.out) ?_
    rintro e v7 ⟨rfl, hb, hr⟩
    have HP7 := Lib.hid hb
    have HM7 := Lib.hid (HSM.out _ _ _ HM6.out fun b hb => hr b (.inr hb))
    have hS := (hr X (.inl rfl)).trans hS
    refine hK _ _ (fun _ => hS) ?_; clear hK K
    clear hb hr HP6 HM6
    refine wpAnyE_one (i := 5) (listed' := #[true, true, true, true, true, true, false]) (by rfl) (by kernel_rfl) (by kernel_rfl) (by rfl) (fun K hK => ?_)
    simp only [Act.put, List.getElem_toArray, List.getElem_cons_succ, List.getElem_cons_zero, List.setIfInBounds_toArray, List.set_cons_zero, List.set_cons_succ]
    go_wp2_with fail
    refine Calls.mono (H2.out _ _ HP7.out HM7.out) ?_
    rintro e v8 ⟨rfl, hb, hr⟩
    have HP8 := Lib.hid hb
    have HM8 := Lib.hid (HSM.out _ _ _ HM7.out fun b hb => hr b (.inr hb))
    have hS := (hr X (.inl rfl)).trans hS
    refine hK _ _ (fun _ => hS) ?_; clear hK K
    clear hb hr HP7 HM7
    refine wpAnyE_take (i := 6) (v := ?_) (listed' := #[true, true, true, true, true, true, true]) (by rfl) (by kernel_rfl) (by kernel_rfl) calm_put hS (by rfl) ?_ ?_
    rotate_left
    · intro W hW; clear hW; go_simp; try (with_reducible rfl)
    simp only [Act.put, List.getElem_toArray, List.getElem_cons_succ, List.getElem_cons_zero, List.setIfInBounds_toArray, List.set_cons_zero, List.set_cons_succ]
    refine wpAnyE_done (by kernel_rfl) ?_ _
    refine calm_normal ?_
    have HQ := Lib.hid (HP8.out.less (R' := fun _ => False) fun k hk => hk.elim)
    clear hS H1 H2 HP8 HM8 HSM
    go_wp2
    go_loopw [16] (fun i wr => ∃ (k : Nat) (T : BankT), k ≤ 2 ∧ i = .int .i64 k ∧ Hid (BR w (fun _ => False) wr p T q T.ref) ∧ Hid (Sane T 3 200 13)) (fun i _ => 2 - (intOf i).toNat)
    case atStart => exact ⟨0, T3, Nat.zero_le _, rfl, HQ, HSA8⟩
    case round =>
      clear HQ HSA8
      obtain ⟨k, T, hk, rfl, HP, HSA⟩ := hrel
      by_cases hlt : k < 2
      · have hk2' : (k : Int) < 2 := by omega
        have HU := Lib.hid (HSA.out.use (by decide) (by decide))
        have HDO := Lib.hid (HSA.out.doc (by decide) (by decide))
        go_wp2
        go_loopw [17] (fun i wr => ∃ (j : Nat), j ≤ 5 ∧ i = .int .i64 ((j : Int) - 1) ∧ Hid (BR w (fun _ => False) wr p T q T.ref)) (fun i _ => (4 - intOf i).toNat)
        case atStart => exact ⟨0, Nat.zero_le _, rfl, HP⟩
        case round =>
          clear HP
          obtain ⟨j, hj, rfl, HP⟩ := hrel
          by_cases hlj : j < 5
          · have hd4 : (j : Int) - 1 < 4 := by omega
            have H1 := Lib.hid (fun (W : World) (h : BR w (fun _ => False) W p T q T.ref) => label_Load h.disk HU.out ((j : Int) - 1))
            have H2 := Lib.hid (fun (W : World) (h : BR w (fun _ => False) W p T q T.ref) => doc_Load (T := T) h.doc HDO.out ((j : Int) - 1))
            have HLT := Lib.hid (T.load_top ((j : Int) - 1))
            obtain ⟨y, ec, hT'⟩ : ∃ y ec, T.loadL ((j : Int) - 1) = (y, ec) := ⟨_, _, rfl⟩
            rw [hT'] at H1 H2 HLT
            simp only at H1 H2 HLT
            clear hT'
            go_wp2_with fail
            refine Calls.mono (H1.out _ HP.out) ?_
            rintro e u1 ⟨s1, rfl, hm, hk1⟩
            have HP1 := Lib.hid (HP.out.kept hk1)
            have HM1 := Lib.hid hm
            clear hm hk1 HP H1
            go_wp2_with (refine stop_at (o := ⟨some 18, _, _, _, _, _⟩) ?_)
            refine Stop.mk ?_
            refine wpList_new_row rfl rfl _ _ rfl rfl ty_lab [.int .i64 0, .int .i64 0, .int .i64 0, .int .i64 0, .slice none 0 0] zero_lab rfl (Lab.vals y s1) rfl rfl (lab_one y s1 HM1.out.one) rfl ?_
            intro u2 hz hs2 hk2
            have HV2 := hz
            have HP2 := Lib.hid (HP1.out.kept hk2)
            have HM2 := Lib.hid (HM1.out.kept hk2)
            obtain ⟨V1, hV⟩ : ∃ b, b = u1.heap.size := ⟨_, rfl⟩
            rw [← hV] at HV2 ⊢
            clear hz hs2 hk2 hV HP1 HM1
            go_wp2_with fail
            refine Calls.mono (H2.out _ HP2.out) ?_
            rintro e u3 ⟨s2, rfl, hm, hk3⟩
            have HP3 := Lib.hid (HP2.out.kept hk3)
            have HM3 := Lib.hid (HM2.out.kept hk3)
            have HV3 := Lib.hid (hk3.block HV2.out)
            have HN3 := Lib.hid hm
            clear hm hk3 HP2 HM2 HV2 H2
            go_wp2_with (refine stop_at (o := ⟨some 20, _, _, _, _, _⟩) ?_)
            refine Stop.mk ?_
            refine wpList_new_row rfl rfl _ _ rfl rfl ty_lab [.int .i64 0, .int .i64 0, .int .i64 0, .int .i64 0, .slice none 0 0] zero_lab rfl (Lab.vals y s2) rfl rfl (lab_one y s2 HN3.out.one) rfl ?_
            intro u4 hz hs4 hk4
            have HY4 := hz
            have HP4 := Lib.hid (HP3.out.kept hk4)
            have HM4 := Lib.hid (HM3.out.kept hk4)
            have HN4 := Lib.hid (HN3.out.kept hk4)
            have HV4 := Lib.hid (hk4.block HV3.out)
            obtain ⟨V2, hV⟩ : ∃ b, b = u3.heap.size := ⟨_, rfl⟩
            rw [← hV] at HY4 ⊢
            clear hz hs4 hk4 hV HP3 HM3 HN3 HV3
            go_wp2_with (refine stop_at (o := ⟨some 85, _, _, _, _, _⟩) ?_)
            refine Stop.mk ?_
            refine wpList_load_agg rfl _ rfl ty_lab V1 0 rfl (Lab.vals y s1) (by simpa using Cells.of_block HV4.out) rfl ?_
            go_wp2_with (refine stop_at (o := ⟨some 86, _, _, _, _, _⟩) ?_)
            refine Stop.mk ?_
            refine wpList_load_agg rfl _ rfl ty_lab V2 0 rfl (Lab.vals y s2) (by simpa using Cells.of_block HY4.out) rfl ?_
            go_wp2_with fail
            refine Calls.mono (same_labels y s1 s2 u4 (by have := HLT.out; omega) HM4.out HN4.out) ?_
            rintro e u5 ⟨rfl, hk5⟩
            have HP5 := Lib.hid (HP4.out.kept hk5)
            clear hk5 HP4 HM4 HN4 HV4 HY4
            go_wp2
            go_roundw
            case rel => exact ⟨j + 1, hlj, by go_num, HP5⟩
            case measure => simp [intOf]; omega
          · have hd4 : ¬ ((j : Int) - 1 < 4) := by omega
            go_wp2_with fail
            refine Calls.mono (br_Crash HP.out HU.out mask HAM.out.2.1 HAM.out.2.2) ?_
            rintro e u1 ⟨rfl, hb, _⟩
            have HP1 := Lib.hid hb
            clear hb HP
            go_wp2_with fail
            refine Calls.mono (br_Crash2 HP1.out HDO.out mask HAM.out.2.1) ?_
            rintro e u2 ⟨rfl, hb, _⟩
            have HP2 := Lib.hid hb
            clear hb HP1
            go_wp2_with fail
            refine Calls.mono (br_Start HP2.out) ?_
            rintro e u3 ⟨rfl, hb, _⟩
            have HP3 := Lib.hid hb
            clear hb HP2
            go_wp2_with fail
            refine Calls.mono (br_Start2 HP3.out) ?_
            rintro e u4 ⟨rfl, hb, _⟩
            have HP4 := Lib.hid hb
            have HSA4 := Lib.hid ((HSA.out.crash mask).start)
            clear hb HP3
            go_wp2
            go_roundw
            case rel => exact ⟨k + 1, _, hlt, by go_num, HP4, HSA4⟩
            case measure => simp [intOf]; omega
      · go_wp2
        go_ret
        exact ⟨rfl, HP.out.keeps⟩
  · obtain ⟨T1, hT1⟩ : ∃ T1, T0 = T1 := ⟨_, rfl⟩
    rw [hT1] at HP3 HSA3
    clear hT1 T0
    go_wp2_with fail
    refine Calls.mono (br_Arm HP3.out arm mask) ?_
    rintro e w6 ⟨rfl, hb, hr⟩
    have HP6 := Lib.hid hb
    have HX6 := Lib.hid ((hr X rfl).trans HX3.out)
    have HSA6 := HSA3
    clear hb hr HX3 HP3 HSA3 hd0 hd3
    go_wp2_with fail
    refine Calls.mono (br_Arm2 HP6.out arm mask) ?_
    rintro e w7 ⟨rfl, hb, hr⟩
    have HP7 := Lib.hid hb
    have HX7 := Lib.hid ((hr X rfl).trans HX6.out)
    have HSA7 := Lib.hid (HSA6.out.arm HAM.out.1 HAM.out.2)
    clear hb hr HX6 HP6 HSA6
    obtain ⟨T2, hT2⟩ : ∃ T2, T1.arm arm mask = T2 := ⟨_, rfl⟩
    rw [hT2] at HP7 HSA7
    clear hT2
    go_wp2_with (refine stop_at (o := ⟨some 56, _, _, _, _, _⟩) ?_)
    refine Stop.mk ?_
    refine wpList_load_agg rfl _ rfl ty_lab X 0 rfl (Lab.vals x (.slice ox nx cx)) (by simpa using Cells.of_block HX7.out) rfl ?_
    go_wp2_with fail
    refine Calls.mono (law_cut x ox nx cx _ (HMX.out.keptA HP7.out.keeps)) ?_
    rintro e w8 ⟨sl, rfl, hm, hk8, hst⟩
    have HM8 : Hid (MSl w8 sl x.cut.ms) := Lib.hid hm
    have HX8 := Lib.hid (hk8.block HX7.out)
    have HP8 : Hid (BR w (fun k => k = X ∨ (x.cut.ms ≠ [] ∧ sl.ownBlock = some k)) w8 p T2 q T2.ref) := Lib.hid (HP7.out.range hk8 _ fun k hk => cut_new hm hk.1 hst hk.2)
    have HXL : Hid (x.cut.ms ≠ [] → sl.ownBlock ≠ some X) := Lib.hid fun hne e => by
      have h1 := (cut_new hm hne hst e).1
      have h2 := (Array.getElem?_eq_some_iff.1 HX7.out).1
      omega
    clear hm hk8 hst HX7 HP7
    go_wp2_with (refine stop_at (o := ⟨none, .store _ _ _, _, _, _, _⟩) ?_)
    refine Stop.mk ?_
    refine wpList_store_agg rfl _ _ rfl ty_lab X 0 rfl (Lab.vals x.cut sl) rfl rfl (lab_one x.cut sl HM8.out.one) _ _ HX8.out (by simp [Lab.vals]) ?_
    intro w9 hw9
    replace hw9 := hw9.all rfl
    have hS := hw9.blk
    have HPA := Lib.hid (HP8.out.wrote hw9 (.inl rfl) HXE.out)
    have HM6 : Hid (MSl w9 sl x.cut.ms) := Lib.hid (by
      by_cases hne : x.cut.ms = []
      · rw [hne]; rcases HM8.out with h | ⟨b, off, cap, e, _⟩
        · exact .inl ⟨rfl, h.2⟩
        · exact .inr ⟨b, off, cap, by rw [← hne]; exact e, fun i hi => absurd hi (Nat.not_lt_zero _)⟩
      · exact HM8.out.same fun b hb => hw9.oth b fun e => HXL.out hne (by rw [← e]; exact hb))
    clear hw9 HX8 HP8 HM8 HXL
    have HP6 : Hid (BR w (fun k => k = X ∨ (x.cut.ms ≠ [] ∧ sl.ownBlock = some k)) w9.drew p T2 q T2.ref) := Lib.hid (HPA.out.kept (Kept.refl _).drew)
    clear HPA
    have HU := Lib.hid (HSA7.out.use (by decide) (by decide))
    have HDO := Lib.hid (HSA7.out.doc (by decide) (by decide))
    have hlx : x.cut.ms.length ≤ 9223372036854775807 := by
      have : x.cut.ms.length ≤ 20 := by show (x.ms.take 20).length ≤ 20; rw [List.length_take]; omega
      omega
    have H1 := Lib.hid (fun (R : Nat → Prop) (W : World) (h : BR w R W p T2 q T2.ref) (hm : MSl W sl x.cut.ms) => br_Save h HU.out x.cut sl hlx hm fun hr => (HSA7.out.write _ _ (right_sec hr)).use (by decide) (by decide))
    have H2 := Lib.hid (fun (R : Nat → Prop) (W : World) (h : BR w R W p (T2.saveX x.cut).1 q T2.ref) (hm : MSl W sl x.cut.ms) => br_Save2 h HDO.out x.cut sl hlx hm fun hr => (HSA7.out.write _ _ (right_sec hr)).doc (by decide) (by decide))
    have HSA8 := Lib.hid (HSA7.out.saveX x.cut)
    obtain ⟨T3, ec, hT3⟩ : ∃ T3 ec, T2.saveX x.cut = (T3, ec) := ⟨_, _, rfl⟩
    rw [hT3] at H1 H2 HSA8
    simp only at H1 H2 HSA8
    clear hT3 hlx HU HDO HSA7
    have same : ∀ {W W' : World} {ms : List Mem}, MSl W sl ms → (∀ b, (ms ≠ [] ∧ sl.ownBlock = some b) → W'.heap[b]? = W.heap[b]?) → MSl W' sl ms := fun {W W' ms} h hs => by
      by_cases hne : ms = []
      · subst hne; rcases h with h | ⟨b, off, cap, e, _⟩
        · exact .inl h
        · exact .inr ⟨b, off, cap, e, fun i hi => absurd hi (Nat.not_lt_zero _)⟩
      · exact h.same fun b hb => hs b ⟨hne, hb⟩
    have HSM := Lib.hid (fun (W W' : World) (ms : List Mem) h hs => same (W := W) (W' := W') (ms := ms) h hs)
    clear same
    go_upto_region 11 with fail
    replace hS : w9.drew.heap[X]? = some (.cells (Lab.vals x.cut sl).toArray 80 (0, 0)) := hS
    refine wp_region_calm ?_
    refine wp_region_E (fun W => W.heap[X]? = some (.cells (Lab.vals x.cut sl).toArray 80 (0, 0))) 100 (by kernel_rfl) ?_
    refine wpAnyE_take (i := 0) (v := ?_) (listed' := #[true, false, false, false, false, false, false]) (by rfl) (by kernel_rfl) (by kernel_rfl) calm_put hS (by rfl) ?_ ?_
    rotate_left
    · intro W hW; clear hW; go_simp; try (with_reducible rfl)
    simp only [Act.put, List.getElem_toArray, List.getElem_cons_succ, List.getElem_cons_zero, List.setIfInBounds_toArray, List.set_cons_zero, List.set_cons_succ]
    refine wpAnyE_take (i := 1) (v := (x.cut.val sl)) (listed' := #[true, true, false, false, false, false, false]) (by rfl) (by kernel_rfl) (by kernel_rfl) calm_put hS (by rfl) ?_ ?_
    · intro W hW; skip; exact exec_load_lab _ rfl X rfl (Lab.vals x.cut sl) rfl (by simpa using Cells.of_block hW)
    simp only [Act.put, List.getElem_toArray, List.getElem_cons_succ, List.getElem_cons_zero, List.setIfInBounds_toArray, List.set_cons_zero, List.set_cons_succ]
    refine wpAnyE_take (i := 3) (v := ?_) (listed' := #[true, true, false, true, false, false, false]) (by rfl) (by kernel_rfl) (by kernel_rfl) calm_put hS (by rfl) ?_ ?_
    rotate_left
    · intro W hW; clear hW; go_simp; try (with_reducible rfl)
    simp only [Act.put, List.getElem_toArray, List.getElem_cons_succ, List.getElem_cons_zero, List.setIfInBounds_toArray, List.set_cons_zero, List.set_cons_succ]
    refine wpAnyE_take (i := 4) (v := (x.cut.val sl)) (listed' := #[true, true, false, true, true, false, false]) (by rfl) (by kernel_rfl) (by kernel_rfl) calm_put hS (by rfl) ?_ ?_
    · intro W hW; skip; exact exec_load_lab _ rfl X rfl (Lab.vals x.cut sl) rfl (by simpa using Cells.of_block hW)
    simp only [Act.put, List.getElem_toArray, List.getElem_cons_succ, List.getElem_cons_zero, List.setIfInBounds_toArray, List.set_cons_zero, List.set_cons_succ]
    refine wpAnyE_one (i := 2) (listed' := #[true, true, true, true, true, false, false]) (by rfl) (by kernel_rfl) (by kernel_rfl) (by rfl) (fun K hK => ?_)
    simp only [Act.put, List.getElem_toArray, List.getElem_cons_succ, List.getElem_cons_zero, List.setIfInBounds_toArray, List.set_cons_zero, List.set_cons_succ]
    go_wp2_with fail
    refine Calls.mono (H1.out _ _ HP6.out HM6.out) ?_
    rintro e v7 ⟨rfl, hb, hr⟩
    have HP7 := Lib.hid hb
    have HM7 := Lib.hid (HSM.out _ _ _ HM6.out fun b hb => hr b (.inr hb))
    have hS := (hr X (.inl rfl)).trans hS
    refine hK _ _ (fun _ => hS) ?_; clear hK K
    clear hb hr HP6 HM6
    refine wpAnyE_one (i := 5) (listed' := #[true, true, true, true, true, true, false]) (by rfl) (by kernel_rfl) (by kernel_rfl) (by rfl) (fun K hK => ?_)
    simp only [Act.put, List.getElem_toArray, List.getElem_cons_succ, List.getElem_cons_zero, List.setIfInBounds_toArray, List.set_cons_zero, List.set_cons_succ]
    go_wp2_with fail
    refine Calls.mono (H2.out _ _ HP7.out HM7.out) ?_
    rintro e v8 ⟨rfl, hb, hr⟩
    have HP8 := Lib.hid hb
    have HM8 := Lib.hid (HSM.out _ _ _ HM7.out fun b hb => hr b (.inr hb))
    have hS := (hr X (.inl rfl)).trans hS
    refine hK _ _ (fun _ => hS) ?_; clear hK K
    clear hb hr HP7 HM7
    refine wpAnyE_take (i := 6) (v := ?_) (listed' := #[true, true, true, true, true, true, true]) (by rfl) (by kernel_rfl) (by kernel_rfl) calm_put hS (by rfl) ?_ ?_
    rotate_left
    · intro W hW; clear hW; go_simp; try (with_reducible rfl)
    simp only [Act.put, List.getElem_toArray, List.getElem_cons_succ, List.getElem_cons_zero, List.setIfInBounds_toArray, List.set_cons_zero, List.set_cons_succ]
    refine wpAnyE_done (by kernel_rfl) ?_ _
    refine calm_normal ?_
    have HQ := Lib.hid (HP8.out.less (R' := fun _ => False) fun k hk => hk.elim)
    clear hS H1 H2 HP8 HM8 HSM
    go_wp2
    go_loopw [16] (fun i wr => ∃ (k : Nat) (T : BankT), k ≤ 2 ∧ i = .int .i64 k ∧ Hid (BR w (fun _ => False) wr p T q T.ref) ∧ Hid (Sane T 3 200 13)) (fun i _ => 2 - (intOf i).toNat)
    case atStart => exact ⟨0, T3, Nat.zero_le _, rfl, HQ, HSA8⟩
    case round =>
      clear HQ HSA8
      obtain ⟨k, T, hk, rfl, HP, HSA⟩ := hrel
      by_cases hlt : k < 2
      · have hk2' : (k : Int) < 2 := by omega
        have HU := Lib.hid (HSA.out.use (by decide) (by decide))
        have HDO := Lib.hid (HSA.out.doc (by decide) (by decide))
        go_wp2
        go_loopw [17] (fun i wr => ∃ (j : Nat), j ≤ 5 ∧ i = .int .i64 ((j : Int) - 1) ∧ Hid (BR w (fun _ => False) wr p T q T.ref)) (fun i _ => (4 - intOf i).toNat)
        case atStart => exact ⟨0, Nat.zero_le _, rfl, HP⟩
        case round =>
          clear HP
          obtain ⟨j, hj, rfl, HP⟩ := hrel
          by_cases hlj : j < 5
          · have hd4 : (j : Int) - 1 < 4 := by omega
            have H1 := Lib.hid (fun (W : World) (h : BR w (fun _ => False) W p T q T.ref) => label_Load h.disk HU.out ((j : Int) - 1))
            have H2 := Lib.hid (fun (W : World) (h : BR w (fun _ => False) W p T q T.ref) => doc_Load (T := T) h.doc HDO.out ((j : Int) - 1))
            have HLT := Lib.hid (T.load_top ((j : Int) - 1))
            obtain ⟨y, ec, hT'⟩ : ∃ y ec, T.loadL ((j : Int) - 1) = (y, ec) := ⟨_, _, rfl⟩
            rw [hT'] at H1 H2 HLT
            simp only at H1 H2 HLT
            clear hT'
            go_wp2_with fail
            refine Calls.mono (H1.out _ HP.out) ?_
            rintro e u1 ⟨s1, rfl, hm, hk1⟩
            have HP1 := Lib.hid (HP.out.kept hk1)
            have HM1 := Lib.hid hm
            clear hm hk1 HP H1
            go_wp2_with (refine stop_at (o := ⟨some 18, _, _, _, _, _⟩) ?_)
            refine Stop.mk ?_
            refine wpList_new_row rfl rfl _ _ rfl rfl ty_lab [.int .i64 0, .int .i64 0, .int .i64 0, .int .i64 0, .slice none 0 0] zero_lab rfl (Lab.vals y s1) rfl rfl (lab_one y s1 HM1.out.one) rfl ?_
            intro u2 hz hs2 hk2
            have HV2 := hz
            have HP2 := Lib.hid (HP1.out.kept hk2)
            have HM2 := Lib.hid (HM1.out.kept hk2)
            obtain ⟨V1, hV⟩ : ∃ b, b = u1.heap.size := ⟨_, rfl⟩
            rw [← hV] at HV2 ⊢
            clear hz hs2 hk2 hV HP1 HM1
            go_wp2_with fail
            refine Calls.mono (H2.out _ HP2.out) ?_
            rintro e u3 ⟨s2, rfl, hm, hk3⟩
            have HP3 := Lib.hid (HP2.out.kept hk3)
            have HM3 := Lib.hid (HM2.out.kept hk3)
            have HV3 := Lib.hid (hk3.block HV2.out)
            have HN3 := Lib.hid hm
            clear hm hk3 HP2 HM2 HV2 H2
            go_wp2_with (refine stop_at (o := ⟨some 20, _, _, _, _, _⟩) ?_)
            refine Stop.mk ?_
            refine wpList_new_row rfl rfl _ _ rfl rfl ty_lab [.int .i64 0, .int .i64 0, .int .i64 0, .int .i64 0, .slice none 0 0] zero_lab rfl (Lab.vals y s2) rfl rfl (lab_one y s2 HN3.out.one) rfl ?_
            intro u4 hz hs4 hk4
            have HY4 := hz
            have HP4 := Lib.hid (HP3.out.kept hk4)
            have HM4 := Lib.hid (HM3.out.kept hk4)
            have HN4 := Lib.hid (HN3.out.kept hk4)
            have HV4 := Lib.hid (hk4.block HV3.out)
            obtain ⟨V2, hV⟩ : ∃ b, b = u3.heap.size := ⟨_, rfl⟩
            rw [← hV] at HY4 ⊢
            clear hz hs4 hk4 hV HP3 HM3 HN3 HV3
            go_wp2_with (refine stop_at (o := ⟨some 85, _, _, _, _, _⟩) ?_)
            refine Stop.mk ?_
            refine wpList_load_agg rfl _ rfl ty_lab V1 0 rfl (Lab.vals y s1) (by simpa using Cells.of_block HV4.out) rfl ?_
            go_wp2_with (refine stop_at (o := ⟨some 86, _, _, _, _, _⟩) ?_)
            refine Stop.mk ?_
            refine wpList_load_agg rfl _ rfl ty_lab V2 0 rfl (Lab.vals y s2) (by simpa using Cells.of_block HY4.out) rfl ?_
            go_wp2_with fail
            refine Calls.mono (same_labels y s1 s2 u4 (by have := HLT.out; omega) HM4.out HN4.out) ?_
            rintro e u5 ⟨rfl, hk5⟩
            have HP5 := Lib.hid (HP4.out.kept hk5)
            clear hk5 HP4 HM4 HN4 HV4 HY4
            go_wp2
            go_roundw
            case rel => exact ⟨j + 1, hlj, by go_num, HP5⟩
            case measure => simp [intOf]; omega
          · have hd4 : ¬ ((j : Int) - 1 < 4) := by omega
            go_wp2_with fail
            refine Calls.mono (br_Crash HP.out HU.out mask HAM.out.2.1 HAM.out.2.2) ?_
            rintro e u1 ⟨rfl, hb, _⟩
            have HP1 := Lib.hid hb
            clear hb HP
            go_wp2_with fail
            refine Calls.mono (br_Crash2 HP1.out HDO.out mask HAM.out.2.1) ?_
            rintro e u2 ⟨rfl, hb, _⟩
            have HP2 := Lib.hid hb
            clear hb HP1
            go_wp2_with fail
            refine Calls.mono (br_Start HP2.out) ?_
            rintro e u3 ⟨rfl, hb, _⟩
            have HP3 := Lib.hid hb
            clear hb HP2
            go_wp2_with fail
            refine Calls.mono (br_Start2 HP3.out) ?_
            rintro e u4 ⟨rfl, hb, _⟩
            have HP4 := Lib.hid hb
            have HSA4 := Lib.hid ((HSA.out.crash mask).start)
            clear hb HP3
            go_wp2
            go_roundw
            case rel => exact ⟨k + 1, _, hlt, by go_num, HP4, HSA4⟩
            case measure => simp [intOf]; omega
      · go_wp2
        go_ret
        exact ⟨rfl, HP.out.keeps⟩
end Go.Proofs.Ytglplhmclfekfaa
