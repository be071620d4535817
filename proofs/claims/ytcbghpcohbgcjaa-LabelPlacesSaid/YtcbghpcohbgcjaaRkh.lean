/- LabelPlaces: the walk (gen_places.py). -/
import Derived.Test.YtcbghpcohbgcjaaRkf
namespace Go.Proofs.Ytcbghpcohbgcjaa
open Go.RowKit
set_option linter.unusedVariables false
set_option linter.unusedSimpArgs false

theorem beB_byte (v : Int) (n : Nat) : ∀ x ∈ beBytes v n, IsByte x := by
  induction n with
  | zero => intro x hx; simp [beBytes] at hx
  | succ n ih =>
    intro x hx
    simp only [beBytes, List.mem_cons] at hx
    rcases hx with rfl | hx
    · simp only [IsByte]; omega
    · exact ih x hx
theorem Lab.sec_byte (l : Lab) : ∀ x ∈ l.sec, IsByte x := by
  intro x hx
  simp only [Lab.sec, Lab.text, List.mem_append, List.mem_replicate] at hx
  rcases hx with (hx | hx | hx) | ⟨_, rfl⟩
  · simp at hx; rcases hx with rfl | rfl <;> simp [IsByte]
  · simp only [fldBytes, List.mem_flatMap] at hx
    obtain ⟨p, _, hx⟩ := hx
    exact beB_byte _ _ x hx
  · simp only [memBytes, List.mem_flatMap, Mem.bytes, List.mem_append] at hx
    obtain ⟨m, _, hx⟩ := hx
    rcases hx with hx | hx | hx <;> exact beB_byte _ _ x hx
  · simp [IsByte]
theorem plainL_right (g m : Nat) (h1 : 1 ≤ g) (h2 : g ≤ 4294967295) (hm : m < 3) : rightB (plainL (g : Int) (m : Int)) = true := by
  have h3 : m = 0 ∨ m = 1 ∨ m = 2 := by omega
  have e1 : inB (g : Int) 1 4294967295 = true := by simp [inB]; omega
  rcases h3 with rfl | rfl | rfl
  all_goals
    unfold rightB headB
    show ((inB 9 0 4294967295 && (inB (g : Int) 1 4294967295 && _)) && _) = true
    rw [e1]
    rfl
/-- Save of a plain label on three calm disks: its sector, and no other -/
theorem save_calm {T : BankT} (h : Still T 3 200) {g m : Nat} (hm : m < 3) : ∃ T', T.saveL (plainL (g : Int) (m : Int)) = (T', 0) ∧ (T.write (m : Int) ((g : Int).tmod 2) (plainL (g : Int) (m : Int)).sec).1.clock ≤ T.clock + 1 ∧ (T.write (m : Int) ((g : Int).tmod 2) (plainL (g : Int) (m : Int)).sec).1.writes = T.writes + 1 ∧ Still (T.write (m : Int) ((g : Int).tmod 2) (plainL (g : Int) (m : Int)).sec).1 3 200 ∧
    Still T' 3 200 ∧ T'.clock ≤ T.clock + 1 ∧ T'.writes ≤ T.writes + 1 ∧ ∀ c k, k < 200 → T'.N c k = if c = m ∧ k = g % 2 then (plainL (g : Int) (m : Int)).sec else T.N c k := by
  have hs : (plainL (g : Int) (m : Int)).sec.length = 64 ∧ ∀ x ∈ (plainL (g : Int) (m : Int)).sec, IsByte x := ⟨Lab.sec_length _ (by show plainMs.length ≤ 12; decide), Lab.sec_byte _⟩
  have hz : (g : Int).tmod 2 = ((g % 2 : Nat) : Int) := by rw [Int.tmod_eq_emod_of_nonneg (by omega)]; rfl
  unfold BankT.saveL
  show ∃ T', (if (T.write (m : Int) ((g : Int).tmod 2) _).2 ≠ 0 then _ else (T.write (m : Int) ((g : Int).tmod 2) _).1.flushC (m : Int)) = (T', 0) ∧ _
  rw [hz]
  obtain ⟨T1, e1, s1, c1, v1, r1⟩ := h.write hm (show g % 2 < 200 by omega) hs
  obtain ⟨T2, e2, s2, c2, v2, r2⟩ := s1.flush hm
  rw [e1]
  refine ⟨T2, by simp only [ne_eq, not_true_eq_false, if_false]; exact e2, c1, v1, s1, s2, by rw [c2]; exact c1, by rw [v2, v1]; exact Int.le_refl _, fun c k hk => ?_⟩
  rw [(r2 c k hk).2.1, (r1 c k).2.1]
theorem SL.six {W : World} {v : Value} {T : BankT} (h : SL W v (T.six 6)) : ∃ b o n, v = .slice (some ⟨b, o, none⟩) 6 n ∧ ∀ k, k < 6 → Cells W b (o + k * 64) (u8s (T.N (k % 3) (k / 3))) ∧ (T.N (k % 3) (k / 3)).length = 64 := by
  have hl := T.six_len 6
  obtain ⟨ao, n, e, hi⟩ := h.form
  obtain ⟨b, rfl, _⟩ := hi 0 (by omega)
  refine ⟨b, 0, n, by rw [e, hl], fun k hk => ?_⟩
  obtain ⟨b', e', hc, hn⟩ := hi k (by omega)
  cases e'
  rw [BankT.six_at] at hc hn
  rw [Nat.zero_add]
  exact ⟨hc, hn⟩
section
variable {w W : World}
set_option maxHeartbeats 4000000
set_option maxRecDepth 100000
theorem law_places (g0 m0 : Int) (v : Value) (l : List (List Int)) (w : World) (hs : SSrc w v l) :
    Calls Try.prog 10 #[.int .i64 g0, .int .i64 m0, v] w fun e w' => e = .returned (.bool true) ∧ Kept w w' := by
  obtain ⟨oa, cap, rfl⟩ : ∃ oa cap, v = .slice oa l.length cap := by obtain ⟨oa, cap, e, _⟩ := hs; exact ⟨oa, cap, e⟩
  have HS := Lib.hid hs
  clear hs
  obtain ⟨y, hy, hyl⟩ := and_low g0 28 (by decide) (m := 268435455) (by decide)
  have hyl' : y < 268435456 := hyl
  obtain ⟨x, hx, hxl⟩ := and_low m0 4 (by decide) (m := 15) (by decide)
  have hxl' : x < 16 := hxl
  clear hyl hxl
  have hxm : (x : Int) % 3 = ((x % 3 : Nat) : Int) := by omega
  have hm3 : x % 3 < 3 := by omega
  generalize x % 3 = m at *
  obtain ⟨g, hg, hg1, hg2⟩ : ∃ g : Nat, (1 : Int) + (y : Int) = (g : Int) ∧ 1 ≤ g ∧ g ≤ 268435456 := ⟨1 + y, by omega, by omega, by omega⟩
  have hgp : bits .and .i64 (g : Int) 1 = ((g % 2 : Nat) : Int) := by
    have := i64_and_mask (g : Int) 1 (by decide)
    exact this
  have HSH := Lib.hid (law_shown w)
  have HRT := Lib.hid (plainL_right g m hg1 (by omega) hm3)
  clear hyl' hxl'
  go_enter Try.func10, Try.ntmps10
  go_wp2_with fail
  refine Calls.mono HSH.out ?_
  rintro e w1 ⟨rfl, hk1⟩
  have HL := Lib.hid (law_bank l oa cap w w1 HS.out hk1)
  clear hk1 HSH
  go_wp2_with fail
  refine Calls.mono HL.out ?_
  rintro e w2 ⟨qb, qr, T, rfl, hb, hst, hcl, hwr⟩
  have HB2 := Lib.hid hb; have HT := Lib.hid hst; have HC := Lib.hid (And.intro hcl hwr)
  have HU := Lib.hid (hst.live.use (by decide) (by omega) (by omega))
  clear hb hst hcl hwr HL HS
  go_wp2_with fail
  have hp2 : g % 2 < 2 := by omega
  obtain ⟨T', e1, c1, v1, s1, s2, c2, v2, hN⟩ := save_calm HT.out (g := g) hm3
  have HU1 : Hid (T.write (m : Int) ((g : Int).tmod 2) (plainL (g : Int) (m : Int)).sec).1.Use := Lib.hid (s1.live.use (by decide) (by have := HC.out.1; omega) (by have := HC.out.2; omega))
  have HU2 : Hid T'.Use := Lib.hid (s2.live.use (by decide) (by have := HC.out.1; omega) (by have := HC.out.2; omega))
  have HT2 := Lib.hid s2
  have HE1 := Lib.hid e1
  have HN : Hid (∀ k, k < 6 → T'.N (k % 3) (k / 3) = if k = m + 3 * (g % 2) then (plainL (g : Int) (m : Int)).sec else T.N (k % 3) (k / 3)) := Lib.hid fun k hk => by
    rw [hN (k % 3) (k / 3) (by omega)]
    by_cases h : k = m + 3 * (g % 2)
    · rw [if_pos h, if_pos ⟨by omega, by omega⟩]
    · rw [if_neg h, if_neg (by omega)]
  have HX : Hid ((plainL (g : Int) (m : Int)).sec.length = 64) := Lib.hid (Lab.sec_length _ (by show plainMs.length ≤ 12; decide))
  clear c1 v1 s1 s2 c2 v2 hN e1 HC
  generalize g % 2 = p at *
  refine Calls.mono (law_sectors HB2.out HU.out HT.out (by decide)) ?_
  rintro e w3 ⟨v1, rfl, hsl, hb, hk⟩
  have HS3 := Lib.hid hsl; have HB3 := Lib.hid hb
  clear hsl hb hk HB2 HT
  try simp only [hg]
  try simp only [hxm]
  go_wp2_with fail
  refine Calls.mono (law_plain (g : Int) (m : Int) w3) ?_
  rintro e w4 ⟨sl, rfl, hm4, hk4⟩
  have HM4 := Lib.hid hm4
  have HS4 := Lib.hid (HS3.out.kept hk4); have HB4 := Lib.hid (HB3.out.kept hk4).1
  clear hm4 hk4 HS3 HB3
  go_wp2_with (refine stop_at (o := ⟨some 11, _, _, _, _, _⟩) ?_)
  refine Stop.mk ?_
  refine wpList_new_row rfl rfl _ _ rfl rfl ty_lab [.int .i64 0, .int .i64 0, .int .i64 0, .int .i64 0, .slice none 0 0] zero_lab rfl (Lab.vals (plainL (g : Int) (m : Int)) sl) rfl rfl (lab_one _ _ HM4.out.one) rfl ?_
  intro w5 hz5 hs5 hk5
  have HL5 := hz5
  have HM5 := Lib.hid (HM4.out.kept hk5)
  have HS5 := Lib.hid (HS4.out.kept hk5); have HB5 := Lib.hid (HB4.out.box hk5 hs5)
  generalize w4.heap.size = X at *
  clear hz5 hs5 hk5 HS4 HB4 HM4
  go_wp2_with (refine stop_at (o := ⟨some 41, _, _, _, _, _⟩) ?_)
  refine Stop.mk ?_
  refine wpList_load_agg rfl _ rfl ty_lab X 0 rfl (Lab.vals (plainL (g : Int) (m : Int)) sl) (by simpa using Cells.of_block HL5.out) rfl ?_
  go_wp2_with fail
  refine Calls.mono (label_Put_ok (plainL (g : Int) (m : Int)) sl w5 HM5.out HRT.out) ?_
  rintro e w6 ⟨rfl, hk6⟩
  have HL6 := Lib.hid (hk6.block HL5.out)
  have HM6 := Lib.hid (HM5.out.kept hk6)
  have HS6 := Lib.hid (HS5.out.kept hk6); have HB6 := Lib.hid (HB5.out.kept hk6).1
  clear hk6 HL5 HM5 HS5 HB5
  go_wp2_with (refine stop_at (o := ⟨some 12, _, _, _, _, _⟩) ?_)
  refine Stop.mk ?_
  refine wpList_new_row rfl rfl _ _ rfl rfl ty_sec (u8s zeroB) zero_sec (by rw [u8s_length, zeroB_length]) (u8s (plainL (g : Int) (m : Int)).sec) rfl (by rw [u8s_length, HX.out]) (u8s_one _) rfl ?_
  intro w7 hz7 hs7 hk7
  have HX7 := hz7
  have HL7 := Lib.hid (hk7.block HL6.out)
  have HM7 := Lib.hid (HM6.out.kept hk7)
  have HS7 := Lib.hid (HS6.out.kept hk7); have HB7 := Lib.hid (HB6.out.box hk7 hs7)
  generalize w6.heap.size = X2 at *
  clear hz7 hs7 hk7 HL6 HM6 HS6 HB6
  go_wp2_with (refine stop_at (o := ⟨some 46, _, _, _, _, _⟩) ?_)
  refine Stop.mk ?_
  refine wpList_load_agg rfl _ rfl ty_lab X 0 rfl (Lab.vals (plainL (g : Int) (m : Int)) sl) (by simpa using Cells.of_block HL7.out) rfl ?_
  go_wp2_with fail
  refine Calls.mono (label_Save HB7.out HU.out (plainL (g : Int) (m : Int)) sl HM7.out HRT.out g rfl HU1.out) ?_
  rintro e w8 ⟨he, hb8, hr8⟩
  rw [HE1.out] at he hb8
  dsimp only at he hb8
  subst he
  have HX8 := Lib.hid ((hr8 X2 (.inr rfl)).trans HX7.out)
  have HS8 := Lib.hid (HS7.out.same fun g' hg' => hr8 g' (.inl (.inl (.inr hg'))))
  have HB8 := Lib.hid hb8
  clear hb8 hr8 HX7 HL7 HM7 HS7 HB7 HU HU1 HE1
  go_wp2_with fail
  refine Calls.mono (law_sectors HB8.out HU2.out HT2.out (by decide)) ?_
  rintro e w9 ⟨v2, rfl, hsl, hb, hk⟩
  have HK9 := Lib.hid hb.keeps
  have HX9 := Lib.hid (hk.block HX8.out)
  obtain ⟨b1, o1, n1, rfl, h1⟩ := (HS8.out.kept hk).six
  obtain ⟨b2, o2, n2, rfl, h2⟩ := hsl.six
  have H1 := Lib.hid h1; have H2 := Lib.hid h2
  clear hsl hb hk h1 h2 HX8 HS8 HB8 HU2 HT2 HRT
  generalize (plainL (g : Int) (m : Int)).sec = sec at *
  clear hg hxm
  go_wp2
  go_loopw [16] (fun i wr => ∃ k : Nat, k ≤ 6 ∧ i = .int .i64 k ∧ Hid (Kept w9 wr)) (fun i _ => 6 - (intOf i).toNat)
  case atStart => exact ⟨0, Nat.zero_le _, rfl, Lib.hid (Kept.refl _)⟩
  case round =>
    obtain ⟨k, hk, rfl, HK⟩ := hrel
    by_cases hlt : k < 6
    · obtain ⟨hc1, hl1⟩ := H1.out k hlt
      obtain ⟨hc2, hl2⟩ := H2.out k hlt
      have hn := HN.out k hlt
      generalize T.N (k % 3) (k / 3) = s1 at *
      generalize T'.N (k % 3) (k / 3) = s2 at *
      have HL1 := Lib.hid hl1
      by_cases hkm : k = m + 3 * p
      · rw [if_pos hkm] at hn
        subst hn
        have HC2 := Lib.hid (Cells.kept hc2 HK.out)
        have HXB := Lib.hid (HK.out.block HX9.out)
        have hcd : ((k : Int) == (m : Int) + 3 * (p : Int)) = true := by rw [beq_iff_eq]; omega
        clear hc1 hc2 hl1 hl2 hkm HL1
        go_upto_region 18 with fail
        have hS : Cells wr.drew b2 (o2 + k * 64) (u8s s2) ∧ Cells wr.drew X2 0 (u8s s2) := ⟨Cells.kept HC2.out (Kept.refl _).drew, by simpa using Cells.of_block ((Kept.refl _).drew.block HXB.out)⟩
        refine wp_region_calm ?_
        refine wp_region_E (fun W => Cells W b2 (o2 + k * 64) (u8s s2) ∧ Cells W X2 0 (u8s s2)) 100 (by kernel_rfl) ?_
        refine wpAnyE_take (i := 0) (v := ?_) (listed' := #[true, false, false, false, false, false]) (by rfl) (by kernel_rfl) (by kernel_rfl) calm_put hS (by rfl) ?_ ?_
        rotate_left
        · intro W hW; clear hW; go_simp; try (with_reducible rfl)
        simp only [Act.put, List.getElem_toArray, List.getElem_cons_succ, List.getElem_cons_zero, List.setIfInBounds_toArray, List.set_cons_zero, List.set_cons_succ]
        refine wpAnyE_take (i := 1) (v := ?_) (listed' := #[true, true, false, false, false, false]) (by rfl) (by kernel_rfl) (by kernel_rfl) calm_put hS (by rfl) ?_ ?_
        rotate_left
        · intro W hW; clear hW; go_simp; try (with_reducible rfl)
        simp only [Act.put, List.getElem_toArray, List.getElem_cons_succ, List.getElem_cons_zero, List.setIfInBounds_toArray, List.set_cons_zero, List.set_cons_succ]
        refine wpAnyE_take (i := 2) (v := ?_) (listed' := #[true, true, true, false, false, false]) (by rfl) (by kernel_rfl) (by kernel_rfl) calm_put hS (by rfl) ?_ ?_
        rotate_left
        · intro W hW; clear hW; go_simp; try (with_reducible rfl)
        simp only [Act.put, List.getElem_toArray, List.getElem_cons_succ, List.getElem_cons_zero, List.setIfInBounds_toArray, List.set_cons_zero, List.set_cons_succ]
        refine wpAnyE_take (i := 3) (v := .agg (u8s s2).toArray) (listed' := #[true, true, true, true, false, false]) (by rfl) (by kernel_rfl) (by kernel_rfl) calm_put hS (by rfl) ?_ ?_
        · intro W hW; skip; exact exec_load_secO _ rfl b2 (o2 + k * 64) rfl s2 HX.out hW.1
        simp only [Act.put, List.getElem_toArray, List.getElem_cons_succ, List.getElem_cons_zero, List.setIfInBounds_toArray, List.set_cons_zero, List.set_cons_succ]
        refine wpAnyE_take (i := 4) (v := .agg (u8s s2).toArray) (listed' := #[true, true, true, true, true, false]) (by rfl) (by kernel_rfl) (by kernel_rfl) calm_put hS (by rfl) ?_ ?_
        · intro W hW; skip; exact exec_load_sec _ rfl X2 rfl s2 HX.out hW.2
        simp only [Act.put, List.getElem_toArray, List.getElem_cons_succ, List.getElem_cons_zero, List.setIfInBounds_toArray, List.set_cons_zero, List.set_cons_succ]
        refine wpAnyE_take (i := 5) (v := .bool false) (listed' := #[true, true, true, true, true, true]) (by rfl) (by kernel_rfl) (by kernel_rfl) calm_put hS (by rfl) ?_ ?_
        · intro W hW; clear hW; exact exec_cmp_secN _ _ rfl s2 HX.out rfl rfl
        simp only [Act.put, List.getElem_toArray, List.getElem_cons_succ, List.getElem_cons_zero, List.setIfInBounds_toArray, List.set_cons_zero, List.set_cons_succ]
        refine wpAnyE_done (by kernel_rfl) ?_ _
        refine calm_normal ?_
        go_wp2
        go_roundw
        case rel => exact ⟨k + 1, hlt, by go_num, Lib.hid (HK.out.trans (Kept.refl _).drew)⟩
        case measure => simp [intOf]; omega
      · rw [if_neg hkm] at hn
        subst hn
        have HC1 := Lib.hid (Cells.kept hc1 HK.out)
        have HC2 := Lib.hid (Cells.kept hc2 HK.out)
        have hcd : ((k : Int) == (m : Int) + 3 * (p : Int)) = false := by rw [beq_eq_false_iff_ne]; omega
        clear hc1 hc2 hl1 hl2 hkm
        go_upto_region 20 with fail
        have hS : Cells wr.drew b2 (o2 + k * 64) (u8s s2) ∧ Cells wr.drew b1 (o1 + k * 64) (u8s s2) := ⟨Cells.kept HC2.out (Kept.refl _).drew, Cells.kept HC1.out (Kept.refl _).drew⟩
        refine wp_region_calm ?_
        refine wp_region_E (fun W => Cells W b2 (o2 + k * 64) (u8s s2) ∧ Cells W b1 (o1 + k * 64) (u8s s2)) 100 (by kernel_rfl) ?_
        refine wpAnyE_take (i := 0) (v := ?_) (listed' := #[true, false, false, false, false, false, false, false, false]) (by rfl) (by kernel_rfl) (by kernel_rfl) calm_put hS (by rfl) ?_ ?_
        rotate_left
        · intro W hW; clear hW; go_simp; try (with_reducible rfl)
        simp only [Act.put, List.getElem_toArray, List.getElem_cons_succ, List.getElem_cons_zero, List.setIfInBounds_toArray, List.set_cons_zero, List.set_cons_succ]
        refine wpAnyE_take (i := 1) (v := ?_) (listed' := #[true, true, false, false, false, false, false, false, false]) (by rfl) (by kernel_rfl) (by kernel_rfl) calm_put hS (by rfl) ?_ ?_
        rotate_left
        · intro W hW; clear hW; go_simp; try (with_reducible rfl)
        simp only [Act.put, List.getElem_toArray, List.getElem_cons_succ, List.getElem_cons_zero, List.setIfInBounds_toArray, List.set_cons_zero, List.set_cons_succ]
        refine wpAnyE_take (i := 2) (v := ?_) (listed' := #[true, true, true, false, false, false, false, false, false]) (by rfl) (by kernel_rfl) (by kernel_rfl) calm_put hS (by rfl) ?_ ?_
        rotate_left
        · intro W hW; clear hW; go_simp; try (with_reducible rfl)
        simp only [Act.put, List.getElem_toArray, List.getElem_cons_succ, List.getElem_cons_zero, List.setIfInBounds_toArray, List.set_cons_zero, List.set_cons_succ]
        refine wpAnyE_take (i := 3) (v := .agg (u8s s2).toArray) (listed' := #[true, true, true, true, false, false, false, false, false]) (by rfl) (by kernel_rfl) (by kernel_rfl) calm_put hS (by rfl) ?_ ?_
        · intro W hW; skip; exact exec_load_secO _ rfl b2 (o2 + k * 64) rfl s2 HL1.out hW.1
        simp only [Act.put, List.getElem_toArray, List.getElem_cons_succ, List.getElem_cons_zero, List.setIfInBounds_toArray, List.set_cons_zero, List.set_cons_succ]
        refine wpAnyE_take (i := 4) (v := ?_) (listed' := #[true, true, true, true, true, false, false, false, false]) (by rfl) (by kernel_rfl) (by kernel_rfl) calm_put hS (by rfl) ?_ ?_
        rotate_left
        · intro W hW; clear hW; go_simp; try (with_reducible rfl)
        simp only [Act.put, List.getElem_toArray, List.getElem_cons_succ, List.getElem_cons_zero, List.setIfInBounds_toArray, List.set_cons_zero, List.set_cons_succ]
        refine wpAnyE_take (i := 5) (v := ?_) (listed' := #[true, true, true, true, true, true, false, false, false]) (by rfl) (by kernel_rfl) (by kernel_rfl) calm_put hS (by rfl) ?_ ?_
        rotate_left
        · intro W hW; clear hW; go_simp; try (with_reducible rfl)
        simp only [Act.put, List.getElem_toArray, List.getElem_cons_succ, List.getElem_cons_zero, List.setIfInBounds_toArray, List.set_cons_zero, List.set_cons_succ]
        refine wpAnyE_take (i := 6) (v := ?_) (listed' := #[true, true, true, true, true, true, true, false, false]) (by rfl) (by kernel_rfl) (by kernel_rfl) calm_put hS (by rfl) ?_ ?_
        rotate_left
        · intro W hW; clear hW; go_simp; try (with_reducible rfl)
        simp only [Act.put, List.getElem_toArray, List.getElem_cons_succ, List.getElem_cons_zero, List.setIfInBounds_toArray, List.set_cons_zero, List.set_cons_succ]
        refine wpAnyE_take (i := 7) (v := .agg (u8s s2).toArray) (listed' := #[true, true, true, true, true, true, true, true, false]) (by rfl) (by kernel_rfl) (by kernel_rfl) calm_put hS (by rfl) ?_ ?_
        · intro W hW; skip; exact exec_load_secO _ rfl b1 (o1 + k * 64) rfl s2 HL1.out hW.2
        simp only [Act.put, List.getElem_toArray, List.getElem_cons_succ, List.getElem_cons_zero, List.setIfInBounds_toArray, List.set_cons_zero, List.set_cons_succ]
        refine wpAnyE_take (i := 8) (v := .bool false) (listed' := #[true, true, true, true, true, true, true, true, true]) (by rfl) (by kernel_rfl) (by kernel_rfl) calm_put hS (by rfl) ?_ ?_
        · intro W hW; clear hW; exact exec_cmp_secN _ _ rfl s2 HL1.out rfl rfl
        simp only [Act.put, List.getElem_toArray, List.getElem_cons_succ, List.getElem_cons_zero, List.setIfInBounds_toArray, List.set_cons_zero, List.set_cons_succ]
        refine wpAnyE_done (by kernel_rfl) ?_ _
        refine calm_normal ?_
        go_wp2
        go_roundw
        case rel => exact ⟨k + 1, hlt, by go_num, Lib.hid (HK.out.trans (Kept.refl _).drew)⟩
        case measure => simp [intOf]; omega
    · have hk6 : 6 ≤ k := by omega
      clear hlt
      go_wp2
      go_ret
      exact ⟨rfl, HK9.out.trans HK.out⟩
end
end Go.Proofs.Ytcbghpcohbgcjaa
