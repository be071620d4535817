/- The document's SameGroup, Same. -/
import Derived.Test.YtiijfocdjcjlaaaGreatSam
namespace Go.Proofs.YtiijfocdjcjlaaaGreat
open Go.RowKit Go.ChangeMaps Go.MapKept
set_option linter.unusedVariables false
set_option linter.unusedSimpArgs false
set_option maxRecDepth 100000
set_option maxHeartbeats 1000000
theorem same_group (x1 x2 : Gw) (g1 g2 : Grp) (w : World) (h1 : GRel w x1 g1) (h2 : GRel w x2 g2) :
    Calls Tryz.prog 14 #[.agg (grw x1).toArray, .agg (grw x2).toArray] w fun e w' => ∃ b, e = .returned (.bool b) ∧ (g1 = g2 → b = true) ∧ Kept w w' := by
  obtain ⟨i1, k1, v1⟩ := x1
  obtain ⟨i2, k2, v2⟩ := x2
  obtain ⟨gi1, gk1, l1⟩ := g1
  obtain ⟨gi2, gk2, l2⟩ := g2
  have e1 : i1 = gi1 := h1.id
  have e2 : i2 = gi2 := h2.id
  have e3 : k1 = gk1 := h1.kind
  have e4 : k2 = gk2 := h2.kind
  subst e1 e2 e3 e4
  have hx1 : RSl pairV 2 w v1 l1 := h1.ext
  have hx2 : RSl pairV 2 w v2 l2 := h2.ext
  have hf1 : l1.length ≤ 4096 := h1.few
  obtain ⟨o1, c1, rfl, _⟩ := hx1.form
  obtain ⟨o2, c2, rfl, _⟩ := hx2.form
  have H1 := Lib.hid hx1; have H2 := Lib.hid hx2
  clear h1 h2 hx1 hx2
  go_enter Tryz.func14, Tryz.ntmps14
  go_wp2_with (refine stop_at (o := ⟨some 2, _, _, _, _, _⟩) ?_)
  refine Stop.mk ?_
  refine wpList_box_rowS rfl _ _ rfl (grw (i1, k1, .slice o1 l1.length c1)) rfl ?_
  intro w1 hz1 hs1 hk1
  obtain ⟨X, hX⟩ : ∃ X, X = w.heap.size := ⟨_, rfl⟩
  rw [← hX] at hz1 ⊢
  refine wpList_box_rowS rfl _ _ rfl (grw (i2, k2, .slice o2 l2.length c2)) rfl ?_
  intro w2 hz2 hs2 hk2
  obtain ⟨Y, hY⟩ : ∃ Y, Y = w1.heap.size := ⟨_, rfl⟩
  rw [← hY] at hz2 ⊢
  have hcx := Cells.of_block (hk2.block hz1.out)
  have hcy := Cells.of_block hz2.out
  have a0 : w2.cell? ⟨X, 0, none⟩ = some (.int .i64 i1) := hcx 0 (by simp [grw])
  have a1 : w2.cell? ⟨X, 1, none⟩ = some (.int .i64 k1) := hcx 1 (by simp [grw])
  have a2 : w2.cell? ⟨X, 2, none⟩ = some (.slice o1 l1.length c1) := hcx 2 (by simp [grw])
  have b0 : w2.cell? ⟨Y, 0, none⟩ = some (.int .i64 i2) := hcy 0 (by simp [grw])
  have b1 : w2.cell? ⟨Y, 1, none⟩ = some (.int .i64 k2) := hcy 1 (by simp [grw])
  have b2 : w2.cell? ⟨Y, 2, none⟩ = some (.slice o2 l2.length c2) := hcy 2 (by simp [grw])
  have HK2 := Lib.hid (hk1.trans hk2)
  have HA2 := Lib.hid a2; have HB2 := Lib.hid b2
  clear hz1 hz2 hs1 hs2 hk1 hk2 hcx hcy hX hY
  cases hid : (i1 != i2) with
  | true =>
    go_wp2
    go_ret
    refine ⟨false, rfl, fun h => ?_, HK2.out⟩
    injection h with h1 h2 h3
    subst h1
    simp at hid
  | false =>
    cases hkd : (k1 != k2) with
    | true =>
      go_wp2
      go_ret
      refine ⟨false, rfl, fun h => ?_, HK2.out⟩
      injection h with h1 h2 h3
      subst h2
      simp at hkd
    | false =>
      cases hle : ((l1.length : Int) != (l2.length : Int)) with
      | true =>
        go_wp2
        go_ret
        refine ⟨false, rfl, fun h => ?_, HK2.out⟩
        injection h with h1 h2 h3
        subst h3
        simp at hle
      | false =>
        have hl2 : l1.length ≤ l2.length ∧ l2.length ≤ l1.length := by
          have : (l1.length : Int) = l2.length := by simpa using hle
          omega
        obtain ⟨hl2, hl3⟩ := hl2
        go_wp2
        clear a0 a1 a2 b0 b1 b2 hid hkd hle
        go_loopw [5] (fun iv wr => ∃ i : Nat, i ≤ l1.length ∧ iv = .int .i64 (i : Int) ∧ Hid (Kept w2 wr)) (fun iv _ => l1.length - (intOf iv).toNat)
        case atStart => exact ⟨0, Nat.zero_le _, rfl, Lib.hid (Kept.refl _)⟩
        case round =>
          obtain ⟨i, hi, rfl, HK⟩ := hrel
          have a2 := HK.out.cell' HA2.out
          have b2 := HK.out.cell' HB2.out
          by_cases hlt : i < l1.length
          · have hlt2 : i < l2.length := by omega
            obtain ⟨ba, offa, rfl, _, ha⟩ := (H1.out.kept (HK2.out.trans HK.out)).at hlt
            obtain ⟨bb, offb, rfl, _, hb⟩ := (H2.out.kept (HK2.out.trans HK.out)).at hlt2
            obtain ⟨x, hx⟩ : ∃ x, x = l1[i]'hlt := ⟨_, rfl⟩
            obtain ⟨y, hy⟩ : ∃ y, y = l2[i]'hlt2 := ⟨_, rfl⟩
            rw [← hx] at ha
            rw [← hy] at hb
            have p0 := ha 0 (by rw [pairV_len]; decide)
            have q0 := hb 0 (by rw [pairV_len]; decide)
            have p1 := ha 1 (by rw [pairV_len]; decide)
            have q1 := hb 1 (by rw [pairV_len]; decide)
            simp only [pairV, List.getElem_cons_zero, List.getElem_cons_succ, Nat.add_zero] at p0 q0 p1 q1
            have HX := Lib.hid hx; have HY := Lib.hid hy
            clear ha hb hx hy
            go_upto_region 6 with fail
            refine wp_still_all (by kernel_rfl) (by kernel_rfl) fun ws hks hhs => ?_
            replace p0 := hks.cell' p0
            replace p1 := hks.cell' p1
            replace q0 := hks.cell' q0
            replace q1 := hks.cell' q1
            replace a2 := hks.cell' a2
            replace b2 := hks.cell' b2
            have HKW := Lib.hid (HK.out.trans hks)
            clear hks hhs
            iterate 10 still_step
            refine SB.out (SB.val (v := .bool (!(x == y))) (by rfl) (exec_neq_ext _ _ rfl x y rfl rfl) ?_)
            cases hxy : (x == y) with
            | true =>
              rw [show (!true) = false from rfl]
              refine ⟨wpStill_nil ?_⟩
              go_wp2
              go_roundw
              case rel => exact ⟨i + 1, by omega, by go_num, HKW⟩
              case measure => simp [intOf]; omega
            | false =>
              rw [show (!false) = true from rfl]
              refine ⟨wpStill_nil ?_⟩
              go_wp2
              go_ret
              refine ⟨false, rfl, fun h => ?_, HK2.out.trans HKW.out⟩
              injection h with h1 h2 h3
              subst h3
              rw [HX.out, HY.out] at hxy
              simp at hxy
          · go_wp2
            go_ret
            exact ⟨true, rfl, fun _ => rfl, HK2.out.trans HK.out⟩
end Go.Proofs.YtiijfocdjcjlaaaGreat
