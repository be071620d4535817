/- law06: same. -/
import Derived.Test.YtglplhmclfekfaaDoorRvq
import Derived.Test.YtglplhmclfekfaaDoorEdk
namespace Go.Proofs.YtglplhmclfekfaaDoor
open Go.RowKit
set_option linter.unusedVariables false
set_option linter.unusedSimpArgs false

theorem own_form2 {W : World} {base n : Nat} {x : Value} {ks : List Int} (h : W.ownsRow base 3 1 x n (ints ks)) (hn : n = ks.length) {k : Nat} (hk : k < ks.length) : ∃ g cap, x = .slice (some ⟨g, 0, none⟩) n cap ∧ W.cell? ⟨g, k, none⟩ = some (.int .i64 (ks.getD k 0)) := by
  obtain ⟨g, cap, hx, _, _, hc⟩ := own_cell h (by omega)
  exact ⟨g, cap, hx, hc k _ (by simp [ints, List.getD_eq_getElem?_getD, hk])⟩
section
variable {w0 W : World} {R : Nat → Prop} {q q2 c : Nat} {E : XT} {M : RM} {v : Value} {tb : Nat → Nat} {tj : Nat → List Value}
set_option maxHeartbeats 2000000
set_option maxRecDepth 100000
theorem law_same06 (h : PX w0 R W q q2 E c M v tb tj) (hc : c ≤ 1000) : Calls Tryd.prog 20 #[.pointer (some ⟨q, 0, none⟩), .pointer (some ⟨q2, 0, none⟩)] W fun e w' => e = .returned (.bool true) ∧ Kept W w' := by
  have hxo := h.xo
  obtain ⟨S, hX, _⟩ := h.xo
  have HX := Lib.hid hX
  have HR := Lib.hid h.xr
  have HF := Lib.hid h.fine
  have HOK := Lib.hid h.ok
  have HE := Lib.hid h.eq
  have hml := h.len
  have HD := Lib.hid (ext_Disks hX M.nums (fun n hn => by
    rw [← h.eq] at hn
    have hlt : M.at_ n < M.length := by
      rcases Nat.lt_or_ge (M.at_ n) M.length with h1 | h1
      · exact h1
      · exact absurd (RM.xt_none (by omega)) hn
    refine ⟨RM.mem_nums.2 ⟨_, hlt, RM.at_is hlt⟩, ?_⟩
    have h1 := h.fine.pos _ hlt
    have h2 := h.fine.top _ hlt
    rw [RM.at_is hlt] at h1 h2
    have e1 : IntKind.i64.min = -9223372036854775808 := rfl
    have e2 : IntKind.i64.max = 9223372036854775807 := rfl
    simp [Lit.wf]; omega) (by rw [RM.nums_len]; omega))
  have HU := Lib.hid (fun (W' : World) (hk : Kept W W') (d : Int) => ext_Used (hX.kept hk) d)
  have HRO := Lib.hid (fun (W' : World) (hk : Kept W W') (d : Int) => ext_Room (hX.kept hk) d)
  have HU2 := Lib.hid (fun (W' : World) (hk : Kept W W') (d : Int) => (xr_Used (h.xr.kept hk) h.ok d).mono (R' := fun e w' => e = .returned (.int .i64 (usedX E d : Int)) ∧ W' = w') fun e w' ⟨h1, h2⟩ => ⟨by rw [h1, h.eq], h2⟩)
  have HRO2 := Lib.hid (fun (W' : World) (hk : Kept W W') (d : Int) => (xr_Room (h.xr.kept hk) h.ok d).mono (R' := fun e w' => e = .returned (.int .i64 (roomX E d : Int)) ∧ Kept W' w') fun e w' ⟨h1, h2⟩ => ⟨by rw [h1, h.eq], h2⟩)
  have hneg : E (-1) = none := by
    rw [← h.eq]
    refine RM.xt_none fun hlt => ?_
    have h1 := h.fine.pos _ hlt
    rw [RM.at_is hlt] at h1
    omega
  have HN1 : Hid (usedX E (-1) = 0) := Lib.hid (by unfold usedX; rw [hneg])
  have HN2 : Hid (roomX E (-1) = 0) := Lib.hid (by unfold roomX; rw [hneg])
  clear h hxo hX hneg
  go_enter Tryd.func20, Tryd.ntmps20
  go_wp2_with fail
  refine Calls.mono HD.out ?_
  rintro e w1 ⟨x1, ks, rfl, hm1, hp1, ho1, _, hk1⟩
  have HM1 := Lib.hid hm1; have HP1 := Lib.hid hp1; have HO1 := Lib.hid ho1
  have HK1 := Lib.hid hk1
  clear hm1 hp1 ho1 hk1 HD
  go_wp2_with fail
  refine Calls.mono (xr_Disks (HR.out.kept HK1.out) HF.out (by omega)) ?_
  rintro e w2 ⟨x2, ks2, rfl, hm2, hp2, ho2, hk2⟩
  have HSUB0 := Lib.hid (fun n (hn : n ∈ ks) => (show n ∈ M.nums from by
    have h1 := (HM1.out n).1 hn
    rw [← HE.out] at h1
    have hlt : M.at_ n < M.length := by
      rcases Nat.lt_or_ge (M.at_ n) M.length with h2 | h2
      · exact h2
      · exact absurd (RM.xt_none (by omega)) h1
    exact RM.mem_nums.2 ⟨_, hlt, RM.at_is hlt⟩))
  have hks : ks2 = ks := rising_one hp2 HP1.out (fun n => by rw [hm2 n, HM1.out n, HE.out])
  subst hks
  have HSUB := HSUB0
  clear HSUB0
  have hkl : ks2.length ≤ 1000 := by
    have hnd : ks2.Nodup := HP1.out.imp (fun h => by omega)
    have h1 := hnd.length_le_of_subset (l₂ := M.nums) (fun n hn => HSUB.out n hn)
    rw [RM.nums_len] at h1
    omega
  have HO2 := Lib.hid ho2
  have HO1' := Lib.hid (own_same HO1.out fun g hg => hk2.block_eq (own_lt HO1.out hg))
  have HK2 := Lib.hid (HK1.out.trans hk2)
  obtain ⟨a1, p1, hx1⟩ := own_form HO1.out
  obtain ⟨a2, p2, hx2⟩ := own_form ho2
  subst hx1 hx2
  clear hm2 hp2 ho2 hk2 HO1 HK1 HM1
  go_wp2
  go_loopw [7] (fun i wr => ∃ k : Nat, k ≤ ks2.length ∧ i = .int .i64 k ∧ Hid (Kept w2 wr)) (fun i _ => ks2.length - (intOf i).toNat)
  case atStart => exact ⟨0, Nat.zero_le _, rfl, Lib.hid (Kept.refl _)⟩
  case round =>
    obtain ⟨k, hk, rfl, HKR⟩ := hrel
    by_cases hlt : k < ks2.length
    · obtain ⟨g1, p1', e1, c1⟩ := own_form2 HO1'.out rfl hlt
      obtain ⟨g2, p2', e2, c2⟩ := own_form2 HO2.out rfl hlt
      injection e1 with e1 _ e1'
      injection e2 with e2 _ e2'
      subst e1 e2
      clear e1' e2'
      have hdm : ks2.getD k 0 ∈ ks2 := by rw [List.getD_eq_getElem?_getD, List.getElem?_eq_getElem hlt]; exact List.getElem_mem hlt
      obtain ⟨jj, hjj, hje⟩ := RM.mem_nums.1 (HSUB.out _ hdm)
      have hd0 := HF.out.pos jj hjj
      have hd1 := HF.out.top jj hjj
      rw [hje] at hd0 hd1
      have c1r := HKR.out.cell' c1
      have c2r := HKR.out.cell' c2
      clear hdm hjj hje c1 c2
      generalize ks2.getD k 0 = d at *
      have hcase : d = 9223372036854775807 ∨ d < 9223372036854775807 := by omega
      have HKW := Lib.hid (HK2.out.trans HKR.out)
      rcases hcase with rfl | hdlt
      · go_wp2_with fail
        refine Calls.mono (HU.out _ HKW.out _) ?_
        rintro e w3 ⟨rfl, rfl⟩
        go_wp2_with fail
        refine Calls.mono (HU2.out _ HKW.out _) ?_
        rintro e w3 ⟨rfl, rfl⟩
        go_wp2_with fail
        refine Calls.mono (HRO.out _ HKW.out _) ?_
        rintro e w3 ⟨rfl, rfl⟩
        go_wp2_with fail
        refine Calls.mono (HRO2.out _ HKW.out _) ?_
        rintro e w3 ⟨rfl, hk3⟩
        have HK3 := Lib.hid hk3
        clear hk3
        go_wp2_with fail
        refine Calls.mono (HU.out _ (HKW.out.trans HK3.out) _) ?_
        rintro e w4 ⟨rfl, rfl⟩
        go_wp2_with fail
        refine Calls.mono (HU2.out _ (HKW.out.trans HK3.out) _) ?_
        rintro e w4 ⟨rfl, rfl⟩
        go_wp2_with fail
        refine Calls.mono (HRO.out _ (HKW.out.trans HK3.out) _) ?_
        rintro e w4 ⟨rfl, rfl⟩
        go_wp2_with fail
        refine Calls.mono (HRO2.out _ (HKW.out.trans HK3.out) _) ?_
        rintro e w4 ⟨rfl, hk4⟩
        have HK4 := Lib.hid (HKR.out.trans (HK3.out.trans hk4))
        clear hk4
        go_wp2
        go_roundw
        case rel => exact ⟨k + 1, hlt, by go_num, HK4⟩
        case measure => simp [intOf]; omega
      · go_wp2_with fail
        refine Calls.mono (HU.out _ HKW.out _) ?_
        rintro e w3 ⟨rfl, rfl⟩
        go_wp2_with fail
        refine Calls.mono (HU2.out _ HKW.out _) ?_
        rintro e w3 ⟨rfl, rfl⟩
        go_wp2_with fail
        refine Calls.mono (HRO.out _ HKW.out _) ?_
        rintro e w3 ⟨rfl, rfl⟩
        go_wp2_with fail
        refine Calls.mono (HRO2.out _ HKW.out _) ?_
        rintro e w3 ⟨rfl, hk3⟩
        have HK3 := Lib.hid hk3
        clear hk3
        go_wp2_with fail
        refine Calls.mono (HU.out _ (HKW.out.trans HK3.out) _) ?_
        rintro e w4 ⟨rfl, rfl⟩
        go_wp2_with fail
        refine Calls.mono (HU2.out _ (HKW.out.trans HK3.out) _) ?_
        rintro e w4 ⟨rfl, rfl⟩
        go_wp2_with fail
        refine Calls.mono (HRO.out _ (HKW.out.trans HK3.out) _) ?_
        rintro e w4 ⟨rfl, rfl⟩
        go_wp2_with fail
        refine Calls.mono (HRO2.out _ (HKW.out.trans HK3.out) _) ?_
        rintro e w4 ⟨rfl, hk4⟩
        have HK4 := Lib.hid (HKR.out.trans (HK3.out.trans hk4))
        clear hk4
        go_wp2
        go_roundw
        case rel => exact ⟨k + 1, hlt, by go_num, HK4⟩
        case measure => simp [intOf]; omega
    · have hkk : k = ks2.length := by omega
      subst hkk
      have HKW := Lib.hid (HK2.out.trans HKR.out)
      go_wp2_with fail
      refine Calls.mono (HU.out _ HKW.out _) ?_
      rintro e w3 ⟨rfl, rfl⟩
      rw [HN1.out]
      go_wp2_with fail
      refine Calls.mono (HRO.out _ HKW.out _) ?_
      rintro e w3 ⟨rfl, rfl⟩
      rw [HN2.out]
      go_wp2
      go_ret
      exact ⟨rfl, HKW.out⟩
end
end Go.Proofs.YtglplhmclfekfaaDoor
