/- What law09 must show in any case. -/
import Derived.Test.YtpeclkhppgabfaaDoorJqp
import Derived.Test.YtpeclkhppgabfaaDoorPaM
namespace Go.Proofs.YtpeclkhppgabfaaDoor
open Go.RowKit
set_option linter.unusedVariables false
set_option linter.unusedSimpArgs false

def abB : List Int := [97, 98]
theorem abB_byte : ∀ x ∈ abB, IsByte x := by intro x hx; simp [abB] at hx; rcases hx with rfl | rfl <;> exact ⟨by decide, by decide⟩
theorem shown09_plain : ∃ T1, (⟨7, 0, 0, false⟩ : LogT).app (addZ 200 2) [0, 1] abB = (⟨7, 1, 1, false⟩, T1, 0) ∧ T1.Use ∧ scanL T1.read [1] 7 48 0 [] = ([abB], 1, 0) ∧ scanL T1.read [0, 1] 8 48 0 [] = ([], 0, 0) := by
  have h0 := LogQ.start (n := 2) (by decide) [0, 1] 7
  obtain ⟨T1, e, h1⟩ := h0.app (ls := [0, 1]) (by intro d hd; simp at hd; omega) (fun d hd => hd) ⟨0, by simp, rfl⟩ (by decide) (b := abB) (by decide) abB_byte (by decide)
  have hf := (FromJ.zero [0, 1] (fun g => g = 7)).app (ls := [0, 1]) (gen := 7) (by decide) rfl (b := abB) (by decide) (num := 0) (by decide) 0
  have s1 := h1.scan (ls := [1]) (by intro d hd; simp at hd; omega) (by intro d hd; simp at hd ⊢; omega) (by simp) (by decide)
  have s2 := h1.q.scan (by decide) (ls := [0, 1]) (gen := 8) (by intro d hd; simp at hd; omega) (al := [0, 1]) rfl (by simp) (by decide) RecsOk.nil (hf.only (by decide)) (AllJ.nil _ _ _)
  exact ⟨T1, e, h1.q.use (by decide) (by decide), s1, s2⟩
section
set_option maxHeartbeats 4000000
set_option maxRecDepth 100000
theorem law_shown09 (w : World) : Calls Tryd.prog 23 #[] w fun e w' => e = .returned (.bool true) ∧ Kept w w' := by
  obtain ⟨T1, ha, hu1, hs1, hs2⟩ := shown09_plain
  have HA := Lib.hid ha
  have HU1 := Lib.hid hu1
  have HS1 := Lib.hid hs1
  have HS2 := Lib.hid hs2
  have HU0 := Lib.hid ((Quiet.start (z := 200) (n := 2) (by decide) (by decide)).useN (by decide) 100 (by decide))
  clear ha hu1 hs1 hs2
  go_enter Tryd.func23, Tryd.ntmps23
  go_wp2_with fail
  refine Calls.mono (bank09 2 (by decide) w w (fun k => k ∈ ([] : List Nat)) (Kept.refl _) (fun k h => by cases h)) ?_
  rintro e w1 ⟨q, rfl, hb1, _⟩
  have HB1 := Lib.hid hb1
  clear hb1
  go_wp2_with (refine stop_at (o := ⟨some 14, _, _, _, _, _⟩) ?_)
  refine Stop.mk ?_
  refine wpList_lit_ints rfl 2 (by decide) _ rfl [0, 1] (by kernel_rfl) ?_
  intro w2 hz2 hs2 hk2
  have HC2 := Lib.hid (by simpa using Cells.of_block hz2.out : Cells w2 w1.heap.size 0 (ints [0, 1]))
  have HB2 := Lib.hid (HB1.out.kept hk2).1
  generalize w1.heap.size = B at *
  clear hz2 hs2 hk2 HB1
  go_wp2_with fail
  refine Calls.mono (meta_New q B 2 [0, 1] 7 w2 (by decide) (by decide) (by decide) HC2.out) ?_
  rintro e w3 ⟨p, lg, cap, rfl, hl3, hlg, hlp, hps, hk3⟩
  have HB3 := Lib.hid (HB2.out.pushRs hk3 [p, lg] (by intro k hk; simp at hk; rcases hk with rfl | rfl <;> omega))
  have HL3 := Lib.hid hl3
  have HP := Lib.hid (And.intro (Nat.le_trans HB2.out.keeps.size (Nat.le_trans hlg (Nat.le_of_lt hlp))) (Nat.ne_of_lt hlp))
  clear hl3 hlg hlp hps hk3 HB2 HC2
  go_wp2_with (refine stop_at (o := ⟨some 19, _, _, _, _, _⟩) ?_)
  refine Stop.mk ?_
  refine wpList_str_bytes rfl rfl 2 (by decide) _ rfl _ rfl abB (by kernel_rfl) rfl ?_
  intro w4 hz4 hs4 hk4
  have HX4 := hz4
  have HB4 := Lib.hid (HB3.out.kept hk4).1
  have HL4 := Lib.hid (HL3.out.kept hk4)
  generalize w3.heap.size = B3 at *
  clear hz4 hs4 hk4 HB3 HL3
  have hc := meta_Append HB4.out HL4.out (by simp) (by simp) HP.out.1 HP.out.2 (.slice (some ⟨B3, 0, none⟩) 2 2) abB (Src.of_cells (n := 2) (c := 2) HX4.out rfl (by decide)) (by decide) abB_byte (by decide) (HU0.out.less (by decide)) (by decide) (by decide) (by decide)
  rw [HA.out] at hc
  have HC := Lib.hid hc
  clear hc
  go_wp2_with fail
  refine Calls.mono HC.out ?_
  rintro e w5 ⟨rfl, hb5, hl5, hs5⟩
  have HB5 : Hid (BK w (fun k => k ∈ [p, lg]) w5 q T1) := Lib.hid hb5
  have HL5 := Lib.hid hl5
  clear hb5 hl5 hs5 HC HB4 HL4 HX4
  go_wp2_with (refine stop_at (o := ⟨some 24, _, _, _, _, _⟩) ?_)
  refine Stop.mk ?_
  refine wpList_lit_ints rfl 1 (by decide) _ rfl [1] (by kernel_rfl) ?_
  intro w6 hz6 hs6 hk6
  have HC6 := Lib.hid (by simpa using Cells.of_block hz6.out : Cells w6 w5.heap.size 0 (ints [1]))
  have HB6 := Lib.hid (HB5.out.kept hk6).1
  have HL6 := Lib.hid (HL5.out.kept hk6)
  have HSZ := Lib.hid hs6
  generalize w5.heap.size = B6 at *
  clear hz6 hs6 hk6 HB5 HL5
  have hc := meta_Scan HB6.out HU1.out B6 1 [1] HC6.out HSZ.out (by decide) 7
  rw [HS1.out] at hc
  have HC := Lib.hid hc
  clear hc
  go_wp2_with fail
  refine Calls.mono HC.out ?_
  rintro e w7 ⟨v1, rfl, hr7, hk7⟩
  have HB7 := Lib.hid (HB6.out.kept hk7).1
  have HL7 := Lib.hid (HL6.out.kept hk7)
  have HR7 := Lib.hid hr7
  clear hr7 hk7 HC HC6 HB6 HL6 HSZ
  go_wp2_with (refine stop_at (o := ⟨some 31, _, _, _, _, _⟩) ?_)
  refine Stop.mk ?_
  refine wpList_lit_ints rfl 2 (by decide) _ rfl [0, 1] (by kernel_rfl) ?_
  intro w8 hz8 hs8 hk8
  have HC8 := Lib.hid (by simpa using Cells.of_block hz8.out : Cells w8 w7.heap.size 0 (ints [0, 1]))
  have HB8 := Lib.hid (HB7.out.kept hk8).1
  have HL8 := Lib.hid (HL7.out.kept hk8)
  have HR8 := Lib.hid (HR7.out.kept hk8)
  have HSZ := Lib.hid hs8
  generalize w7.heap.size = B8 at *
  clear hz8 hs8 hk8 HB7 HL7 HR7
  have hc := meta_Scan HB8.out HU1.out B8 2 [0, 1] HC8.out HSZ.out (by decide) 8
  rw [HS2.out] at hc
  have HC := Lib.hid hc
  clear hc
  go_wp2_with fail
  refine Calls.mono HC.out ?_
  rintro e w9 ⟨v2, rfl, hr9, hk9⟩
  have HK9 := Lib.hid (HB8.out.kept hk9).1.keeps
  have HL9 := Lib.hid (HL8.out.kept hk9)
  have HR9 := Lib.hid (HR8.out.kept hk9)
  obtain ⟨ao, c2, rfl⟩ := hr9.slice
  clear hr9 hk9 HC HC8 HB8 HL8 HR8 HSZ
  obtain ⟨g, c1, bv, rfl, hc1, hcell, hsrc⟩ := HR9.out.at (i := 0) (by decide)
  have HSR := Lib.hid hsrc
  clear hsrc HR9
  go_wp2_with fail
  refine Calls.mono (meta_Room HL9.out (by decide)) ?_
  rintro e w10 ⟨rfl, rfl⟩
  go_wp2_with fail
  refine Calls.mono (meta_Next HL9.out) ?_
  rintro e w11 ⟨rfl, rfl⟩
  go_wp2_with (refine stop_at (o := ⟨some 57, _, _, _, _, _⟩) ?_)
  refine Stop.mk ?_
  refine wpList_conv_str rfl _ rfl bv rfl abB HSR.out abB_byte ?_
  have hstr : (strB abB).toList = [97, 98] := by rw [strB_toList]; decide
  go_wp2
  go_ret
  exact ⟨rfl, HK9.out⟩
end
end Go.Proofs.YtpeclkhppgabfaaDoor
