/- The document's text of a label. -/
import Derived.Test.YtpnpconphpbcaaaRfb
namespace Go.Proofs.Ytpnpconphpbcaaa
open Go.RowKit
set_option linter.unusedVariables false
set_option linter.unusedSimpArgs false

theorem ref_Put0 (v : Int) (w : World) (h : mayPut v (4 : Nat) = true) :
    Calls Try.prog 50 #[.string ⟨#[66, 87]⟩, .int .i64 v, .int .i64 4] w fun e w' => ∃ t, e = .returned (.string (strA t)) ∧ Hid (t = [66, 87] ++ beBytes v 4) ∧ Hid (t.length = 2 + 4) ∧ Kept w w' :=
  (ref_Put [66, 87] v 4 w (by decide) h).mono fun e w' ⟨he, hk⟩ => ⟨_, he, Lib.hid rfl, Lib.hid (by simp [beBytes_length]), hk⟩
theorem ref_Put1 (l : List Int) (v : Int) (w : World) (hlen : l.length ≤ 8388608) (h : mayPut v (1 : Nat) = true) :
    Calls Try.prog 50 #[.string (strA l), .int .i64 v, .int .i64 1] w fun e w' => ∃ t, e = .returned (.string (strA t)) ∧ Hid (t = l ++ beBytes v 1) ∧ Hid (t.length = l.length + 1) ∧ Kept w w' :=
  (ref_Put l v 1 w hlen h).mono fun e w' ⟨he, hk⟩ => ⟨_, he, Lib.hid rfl, Lib.hid (by simp [beBytes_length]), hk⟩
theorem ref_Put2 (l : List Int) (v : Int) (w : World) (hlen : l.length ≤ 8388608) (h : mayPut v (2 : Nat) = true) :
    Calls Try.prog 50 #[.string (strA l), .int .i64 v, .int .i64 2] w fun e w' => ∃ t, e = .returned (.string (strA t)) ∧ Hid (t = l ++ beBytes v 2) ∧ Hid (t.length = l.length + 2) ∧ Kept w w' :=
  (ref_Put l v 2 w hlen h).mono fun e w' ⟨he, hk⟩ => ⟨_, he, Lib.hid rfl, Lib.hid (by simp [beBytes_length]), hk⟩
theorem ref_Put4 (l : List Int) (v : Int) (w : World) (hlen : l.length ≤ 8388608) (h : mayPut v (4 : Nat) = true) :
    Calls Try.prog 50 #[.string (strA l), .int .i64 v, .int .i64 4] w fun e w' => ∃ t, e = .returned (.string (strA t)) ∧ Hid (t = l ++ beBytes v 4) ∧ Hid (t.length = l.length + 4) ∧ Kept w w' :=
  (ref_Put l v 4 w hlen h).mono fun e w' ⟨he, hk⟩ => ⟨_, he, Lib.hid rfl, Lib.hid (by simp [beBytes_length]), hk⟩

attribute [local go_sem ↓] Go.wp_at_zero Go.wp_at_succ
set_option maxHeartbeats 1000000 in
set_option maxRecDepth 100000 in
theorem ref_text (l : Lab) (sl : Value) (w : World) (hm : MSl w sl l.ms) (hr : rightB l = true) :
    Calls Try.prog 34 #[l.val sl] w fun e w' => e = .returned (strV l.text) ∧ Kept w w' := by
  have hF := l.fld hr
  have hM := l.mem hr
  have hN : l.ms.length ≤ 12 := by
    simp only [rightB, headB, inB, Bool.and_eq_true, decide_eq_true_eq] at hr
    omega
  obtain ⟨oa, cap, rfl⟩ := hm.form
  obtain ⟨array, gen, member, blocks, ms⟩ := l
  have F0 : Hid (mayPut array (4 : Nat) = true) := Lib.hid (hF (array, 4) (by simp [Lab.flds]))
  have F1 : Hid (mayPut gen (4 : Nat) = true) := Lib.hid (hF (gen, 4) (by simp [Lab.flds]))
  have F2 : Hid (mayPut member (1 : Nat) = true) := Lib.hid (hF (member, 1) (by simp [Lab.flds]))
  have F3 : Hid (mayPut blocks (2 : Nat) = true) := Lib.hid (hF (blocks, 2) (by simp [Lab.flds]))
  have F4 : Hid (mayPut ms.length (1 : Nat) = true) := Lib.hid (hF (ms.length, 1) (by simp [Lab.flds]))
  have HMm := Lib.hid hM; clear hM
  clear hF hr
  have HS := Lib.hid hm; clear hm
  simp only [Lab.val] at HS ⊢
  simp only at hN
  have hbox0 : ∀ (bx : Obj), bx = Obj.cells #[.int .i64 array, .int .i64 gen, .int .i64 member, .int .i64 blocks, .slice oa ms.length cap] 24 → ∀ W, Kept (w.alloc bx) W → Cells W w.heap.size 0 [.int .i64 array, .int .i64 gen, .int .i64 member, .int .i64 blocks, .slice oa ms.length cap] := by
    rintro _ rfl W hk
    exact (Cells.of_block (heap_alloc_new w _)).kept hk
  have hbox := hbox0 _ rfl
  clear hbox0
  have HB1 := Lib.hid fun W hk => (show W.cell? ⟨w.heap.size, 0, none⟩ = some (.int .i64 array) ∧ W.cell? ⟨w.heap.size, 1, none⟩ = some (.int .i64 gen) from ⟨hbox W hk 0 (by simp), hbox W hk 1 (by simp)⟩)
  have HB2 := Lib.hid fun W hk => (show W.cell? ⟨w.heap.size, 2, none⟩ = some (.int .i64 member) ∧ W.cell? ⟨w.heap.size, 3, none⟩ = some (.int .i64 blocks) ∧ W.cell? ⟨w.heap.size, 4, none⟩ = some (.slice oa ms.length cap) from ⟨hbox W hk 2 (by simp), hbox W hk 3 (by simp), hbox W hk 4 (by simp)⟩)
  clear hbox
  go_enter Try.func34, Try.ntmps34
  go_upto_region 1 with fail
  have K0 := (Kept.refl (w.alloc (Obj.cells #[.int .i64 array, .int .i64 gen, .int .i64 member, .int .i64 blocks, .slice oa ms.length cap] 24))).drew
  have hS := HB1.out _ K0
  refine wp_region_calm ?_
  refine wp_region_E (fun W => W.cell? ⟨w.heap.size, 0, none⟩ = some (.int .i64 array) ∧ W.cell? ⟨w.heap.size, 1, none⟩ = some (.int .i64 gen)) 100 (by kernel_rfl) ?_
  refine wpAnyE_take (i := 0) (v := ?_) (listed' := #[true, false, false, false, false, false, false]) (by rfl) (by kernel_rfl) (by kernel_rfl) calm_put hS (by rfl) ?_ ?_
  rotate_left
  · intro W hW; clear hW; go_simp; try (with_reducible rfl)
  simp only [Act.put, List.getElem_toArray, List.getElem_cons_succ, List.getElem_cons_zero, List.setIfInBounds_toArray, List.set_cons_zero, List.set_cons_succ]
  refine wpAnyE_take (i := 1) (v := ?_) (listed' := #[true, true, false, false, false, false, false]) (by rfl) (by kernel_rfl) (by kernel_rfl) calm_put hS (by rfl) ?_ ?_
  rotate_left
  · intro W hW; obtain ⟨q0, q1⟩ := hW; go_simp; try (with_reducible rfl)
  simp only [Act.put, List.getElem_toArray, List.getElem_cons_succ, List.getElem_cons_zero, List.setIfInBounds_toArray, List.set_cons_zero, List.set_cons_succ]
  refine wpAnyE_take (i := 3) (v := ?_) (listed' := #[true, true, false, true, false, false, false]) (by rfl) (by kernel_rfl) (by kernel_rfl) calm_put hS (by rfl) ?_ ?_
  rotate_left
  · intro W hW; clear hW; go_simp; try (with_reducible rfl)
  simp only [Act.put, List.getElem_toArray, List.getElem_cons_succ, List.getElem_cons_zero, List.setIfInBounds_toArray, List.set_cons_zero, List.set_cons_succ]
  refine wpAnyE_take (i := 4) (v := ?_) (listed' := #[true, true, false, true, true, false, false]) (by rfl) (by kernel_rfl) (by kernel_rfl) calm_put hS (by rfl) ?_ ?_
  rotate_left
  · intro W hW; obtain ⟨q0, q1⟩ := hW; go_simp; try (with_reducible rfl)
  simp only [Act.put, List.getElem_toArray, List.getElem_cons_succ, List.getElem_cons_zero, List.setIfInBounds_toArray, List.set_cons_zero, List.set_cons_succ]
  refine wpAnyE_one (i := 2) (listed' := #[true, true, true, true, true, false, false]) (by rfl) (by kernel_rfl) (by kernel_rfl) (by rfl) (fun K hK => ?_)
  simp only [Act.put, List.getElem_toArray, List.getElem_cons_succ, List.getElem_cons_zero, List.setIfInBounds_toArray, List.set_cons_zero, List.set_cons_succ]
  go_wp2_with fail
  refine Calls.mono (ref_Put0 array _ F0.out) ?_
  rintro e w2 ⟨t1, rfl, ht1, hl1, hk2⟩
  replace K0 := K0.trans hk2
  have hS := HB1.out _ K0
  refine hK _ _ (fun _ => hS) ?_; clear hK K
  refine wpAnyE_one (i := 5) (listed' := #[true, true, true, true, true, true, false]) (by rfl) (by kernel_rfl) (by kernel_rfl) (by rfl) (fun K hK => ?_)
  simp only [Act.put, List.getElem_toArray, List.getElem_cons_succ, List.getElem_cons_zero, List.setIfInBounds_toArray, List.set_cons_zero, List.set_cons_succ]
  go_wp2_with fail
  refine Calls.mono (ref_Put4 t1 gen _ (by have := hl1.out; omega) F1.out) ?_
  rintro e w3 ⟨t2, rfl, ht2, hl2, hk3⟩
  replace K0 := K0.trans hk3
  have hS := HB1.out _ K0
  refine hK _ _ (fun _ => hS) ?_; clear hK K
  refine wpAnyE_one (i := 6) (listed' := #[true, true, true, true, true, true, true]) (by rfl) (by kernel_rfl) (by kernel_rfl) (by rfl) (fun K hK => ?_)
  simp only [Act.put, List.getElem_toArray, List.getElem_cons_succ, List.getElem_cons_zero, List.setIfInBounds_toArray, List.set_cons_zero, List.set_cons_succ]
  go_wp2
  refine hK _ _ (fun _ => hS) ?_; clear hK K
  refine wpAnyE_done (by kernel_rfl) ?_ _
  refine calm_normal ?_
  go_upto_region 2 with fail
  replace K0 := K0.drew
  have hS := HB2.out _ K0
  refine wp_region_calm ?_
  refine wp_region_E (fun W => W.cell? ⟨w.heap.size, 2, none⟩ = some (.int .i64 member) ∧ W.cell? ⟨w.heap.size, 3, none⟩ = some (.int .i64 blocks) ∧ W.cell? ⟨w.heap.size, 4, none⟩ = some (.slice oa ms.length cap)) 100 (by kernel_rfl) ?_
  refine wpAnyE_take (i := 0) (v := ?_) (listed' := #[true, false, false, false, false, false, false, false, false, false, false, false]) (by rfl) (by kernel_rfl) (by kernel_rfl) calm_put hS (by rfl) ?_ ?_
  rotate_left
  · intro W hW; clear hW; go_simp; try (with_reducible rfl)
  simp only [Act.put, List.getElem_toArray, List.getElem_cons_succ, List.getElem_cons_zero, List.setIfInBounds_toArray, List.set_cons_zero, List.set_cons_succ]
  refine wpAnyE_take (i := 1) (v := ?_) (listed' := #[true, true, false, false, false, false, false, false, false, false, false, false]) (by rfl) (by kernel_rfl) (by kernel_rfl) calm_put hS (by rfl) ?_ ?_
  rotate_left
  · intro W hW; clear hW; go_simp; try (with_reducible rfl)
  simp only [Act.put, List.getElem_toArray, List.getElem_cons_succ, List.getElem_cons_zero, List.setIfInBounds_toArray, List.set_cons_zero, List.set_cons_succ]
  refine wpAnyE_take (i := 2) (v := ?_) (listed' := #[true, true, true, false, false, false, false, false, false, false, false, false]) (by rfl) (by kernel_rfl) (by kernel_rfl) calm_put hS (by rfl) ?_ ?_
  rotate_left
  · intro W hW; obtain ⟨q2, q3, q4⟩ := hW; go_simp; try (with_reducible rfl)
  simp only [Act.put, List.getElem_toArray, List.getElem_cons_succ, List.getElem_cons_zero, List.setIfInBounds_toArray, List.set_cons_zero, List.set_cons_succ]
  refine wpAnyE_take (i := 4) (v := ?_) (listed' := #[true, true, true, false, true, false, false, false, false, false, false, false]) (by rfl) (by kernel_rfl) (by kernel_rfl) calm_put hS (by rfl) ?_ ?_
  rotate_left
  · intro W hW; clear hW; go_simp; try (with_reducible rfl)
  simp only [Act.put, List.getElem_toArray, List.getElem_cons_succ, List.getElem_cons_zero, List.setIfInBounds_toArray, List.set_cons_zero, List.set_cons_succ]
  refine wpAnyE_take (i := 5) (v := ?_) (listed' := #[true, true, true, false, true, true, false, false, false, false, false, false]) (by rfl) (by kernel_rfl) (by kernel_rfl) calm_put hS (by rfl) ?_ ?_
  rotate_left
  · intro W hW; obtain ⟨q2, q3, q4⟩ := hW; go_simp; try (with_reducible rfl)
  simp only [Act.put, List.getElem_toArray, List.getElem_cons_succ, List.getElem_cons_zero, List.setIfInBounds_toArray, List.set_cons_zero, List.set_cons_succ]
  refine wpAnyE_take (i := 7) (v := ?_) (listed' := #[true, true, true, false, true, true, false, true, false, false, false, false]) (by rfl) (by kernel_rfl) (by kernel_rfl) calm_put hS (by rfl) ?_ ?_
  rotate_left
  · intro W hW; clear hW; go_simp; try (with_reducible rfl)
  simp only [Act.put, List.getElem_toArray, List.getElem_cons_succ, List.getElem_cons_zero, List.setIfInBounds_toArray, List.set_cons_zero, List.set_cons_succ]
  refine wpAnyE_take (i := 8) (v := ?_) (listed' := #[true, true, true, false, true, true, false, true, true, false, false, false]) (by rfl) (by kernel_rfl) (by kernel_rfl) calm_put hS (by rfl) ?_ ?_
  rotate_left
  · intro W hW; obtain ⟨q2, q3, q4⟩ := hW; go_simp; try (with_reducible rfl)
  simp only [Act.put, List.getElem_toArray, List.getElem_cons_succ, List.getElem_cons_zero, List.setIfInBounds_toArray, List.set_cons_zero, List.set_cons_succ]
  refine wpAnyE_take (i := 9) (v := ?_) (listed' := #[true, true, true, false, true, true, false, true, true, true, false, false]) (by rfl) (by kernel_rfl) (by kernel_rfl) calm_put hS (by rfl) ?_ ?_
  rotate_left
  · intro W hW; clear hW; go_simp; try (with_reducible rfl)
  simp only [Act.put, List.getElem_toArray, List.getElem_cons_succ, List.getElem_cons_zero, List.setIfInBounds_toArray, List.set_cons_zero, List.set_cons_succ]
  refine wpAnyE_one (i := 3) (listed' := #[true, true, true, true, true, true, false, true, true, true, false, false]) (by rfl) (by kernel_rfl) (by kernel_rfl) (by rfl) (fun K hK => ?_)
  simp only [Act.put, List.getElem_toArray, List.getElem_cons_succ, List.getElem_cons_zero, List.setIfInBounds_toArray, List.set_cons_zero, List.set_cons_succ]
  go_wp2_with fail
  refine Calls.mono (ref_Put1 t2 member _ (by have := hl1.out; have := hl2.out; omega) F2.out) ?_
  rintro e w4 ⟨t3, rfl, ht3, hl3, hk4⟩
  replace K0 := K0.trans hk4
  have hS := HB2.out _ K0
  refine hK _ _ (fun _ => hS) ?_; clear hK K
  refine wpAnyE_one (i := 6) (listed' := #[true, true, true, true, true, true, true, true, true, true, false, false]) (by rfl) (by kernel_rfl) (by kernel_rfl) (by rfl) (fun K hK => ?_)
  simp only [Act.put, List.getElem_toArray, List.getElem_cons_succ, List.getElem_cons_zero, List.setIfInBounds_toArray, List.set_cons_zero, List.set_cons_succ]
  go_wp2_with fail
  refine Calls.mono (ref_Put2 t3 blocks _ (by have := hl1.out; have := hl2.out; have := hl3.out; omega) F3.out) ?_
  rintro e w5 ⟨t4, rfl, ht4, hl4, hk5⟩
  replace K0 := K0.trans hk5
  have hS := HB2.out _ K0
  refine hK _ _ (fun _ => hS) ?_; clear hK K
  refine wpAnyE_one (i := 10) (listed' := #[true, true, true, true, true, true, true, true, true, true, true, false]) (by rfl) (by kernel_rfl) (by kernel_rfl) (by rfl) (fun K hK => ?_)
  simp only [Act.put, List.getElem_toArray, List.getElem_cons_succ, List.getElem_cons_zero, List.setIfInBounds_toArray, List.set_cons_zero, List.set_cons_succ]
  go_wp2_with fail
  refine Calls.mono (ref_Put1 t4 ms.length _ (by have := hl1.out; have := hl2.out; have := hl3.out; have := hl4.out; omega) F4.out) ?_
  rintro e w6 ⟨t5, rfl, ht5, hl5, hk6⟩
  replace K0 := K0.trans hk6
  have hS := HB2.out _ K0
  refine hK _ _ (fun _ => hS) ?_; clear hK K
  refine wpAnyE_one (i := 11) (listed' := #[true, true, true, true, true, true, true, true, true, true, true, true]) (by rfl) (by kernel_rfl) (by kernel_rfl) (by rfl) (fun K hK => ?_)
  simp only [Act.put, List.getElem_toArray, List.getElem_cons_succ, List.getElem_cons_zero, List.setIfInBounds_toArray, List.set_cons_zero, List.set_cons_succ]
  go_wp2
  refine hK _ _ (fun _ => hS) ?_; clear hK K
  refine wpAnyE_done (by kernel_rfl) ?_ _
  refine calm_normal ?_
  have HT2 : Hid (t5 = [66, 87] ++ fldBytes (Lab.flds ⟨array, gen, member, blocks, ms⟩)) := Lib.hid (by rw [ht5.out, ht4.out, ht3.out, ht2.out, ht1.out]; simp [fldBytes, Lab.flds])
  have HT2L : Hid (t5.length = 14) := Lib.hid (by rw [hl5.out, hl4.out, hl3.out, hl2.out, hl1.out])
  clear hS
  have hk0 : Kept w w6 := ((Kept.refl w).alloc _).trans K0
  have c4 := (HB2.out _ K0).2.2
  have HK0 := Lib.hid hk0; clear hk0 K0 hk2 hk3 hk4 hk5 hk6
  obtain ⟨wa, rfl⟩ : ∃ wa, wa = w6 := ⟨_, rfl⟩
  go_wp2_with fail
  go_loopw [3, 4] (fun t i wr => ∃ k : Nat, k ≤ ms.length ∧ i = .int .i64 k ∧ t = .string (strA (t5 ++ memBytes (ms.take k))) ∧ Kept wa wr) (fun _ i _ => ms.length - (intOf i).toNat)
  case atStart => exact ⟨0, Nat.zero_le _, rfl, by simp [memBytes], Kept.refl _⟩
  case round =>
    obtain ⟨k, hk, rfl, rfl, hkr⟩ := hrel
    have hsz := hkr.size
    replace c4 := hkr.cell' c4
    by_cases hlt : k < ms.length
    · obtain ⟨b, off, cap', hsl, hmr⟩ : ∃ b off cap', Value.slice oa ms.length cap = .slice (some ⟨b, off, none⟩) ms.length cap' ∧ MRow w b off ms := by
        rcases HS.out with ⟨h, _⟩ | h
        · have h' : ms = [] := h
          subst h'; simp at hlt
        · exact h
      cases hsl
      obtain ⟨m0, m1, m2⟩ := (hmr.kept (HK0.out.trans hkr)) k hlt
      clear hmr
      obtain ⟨p0, p1, p2⟩ := HMm.out _ (List.getElem_mem hlt)
      have HT := Lib.hid (memBytes_next ms k hlt)
      have HTL : Hid ((t5 ++ memBytes (ms.take k)).length ≤ 100) := Lib.hid (by
        have := HT2L.out
        rw [List.length_append, memBytes_length, List.length_take]; omega)
      generalize ms[k] = m at *
      obtain ⟨id, sec, st⟩ := m
      simp only at m0 m1 m2
      have P0 : Hid (mayPut id (1 : Nat) = true) := Lib.hid p0
      have P1 : Hid (mayPut sec (2 : Nat) = true) := Lib.hid p1
      have P2 : Hid (mayPut st (1 : Nat) = true) := Lib.hid p2
      clear p0 p1 p2
      obtain ⟨T, hT⟩ : ∃ T, t5 ++ memBytes (ms.take k) = T := ⟨_, rfl⟩
      rw [hT] at HTL ⊢
      have HTe := Lib.hid hT; clear hT
      go_upto_region 7 with fail
      have K1 := (Kept.refl (wr.alloc (Obj.cells #[.int .i64 id, .int .i64 sec, .int .i64 st] 38))).drew
      have HB3 := Lib.hid fun W (hk : Kept (wr.alloc (Obj.cells #[.int .i64 id, .int .i64 sec, .int .i64 st] 38)) W) => (show W.cell? ⟨wr.heap.size, 0, none⟩ = some (.int .i64 id) ∧ W.cell? ⟨wr.heap.size, 1, none⟩ = some (.int .i64 sec) ∧ W.cell? ⟨wr.heap.size, 2, none⟩ = some (.int .i64 st) from
        have h := (Cells.of_block (heap_alloc_new wr (Obj.cells #[.int .i64 id, .int .i64 sec, .int .i64 st] 38))).kept hk
        ⟨h 0 (by simp), h 1 (by simp), h 2 (by simp)⟩)
      have hS := HB3.out _ K1
      refine wp_region_calm ?_
      refine wp_region_E (fun W => W.cell? ⟨wr.heap.size, 0, none⟩ = some (.int .i64 id) ∧ W.cell? ⟨wr.heap.size, 1, none⟩ = some (.int .i64 sec) ∧ W.cell? ⟨wr.heap.size, 2, none⟩ = some (.int .i64 st)) 100 (by kernel_rfl) ?_
      refine wpAnyE_take (i := 0) (v := ?_) (listed' := #[true, false, false, false, false, false, false, false, false, false, false]) (by rfl) (by kernel_rfl) (by kernel_rfl) calm_put hS (by rfl) ?_ ?_
      rotate_left
      · intro W hW; clear hW; go_simp; try (with_reducible rfl)
      simp only [Act.put, List.getElem_toArray, List.getElem_cons_succ, List.getElem_cons_zero, List.setIfInBounds_toArray, List.set_cons_zero, List.set_cons_succ]
      refine wpAnyE_take (i := 1) (v := ?_) (listed' := #[true, true, false, false, false, false, false, false, false, false, false]) (by rfl) (by kernel_rfl) (by kernel_rfl) calm_put hS (by rfl) ?_ ?_
      rotate_left
      · intro W hW; clear hW; go_simp; try (with_reducible rfl)
      simp only [Act.put, List.getElem_toArray, List.getElem_cons_succ, List.getElem_cons_zero, List.setIfInBounds_toArray, List.set_cons_zero, List.set_cons_succ]
      refine wpAnyE_take (i := 2) (v := ?_) (listed' := #[true, true, true, false, false, false, false, false, false, false, false]) (by rfl) (by kernel_rfl) (by kernel_rfl) calm_put hS (by rfl) ?_ ?_
      rotate_left
      · intro W hW; obtain ⟨q0, q1, q2⟩ := hW; go_simp; try (with_reducible rfl)
      simp only [Act.put, List.getElem_toArray, List.getElem_cons_succ, List.getElem_cons_zero, List.setIfInBounds_toArray, List.set_cons_zero, List.set_cons_succ]
      refine wpAnyE_take (i := 4) (v := ?_) (listed' := #[true, true, true, false, true, false, false, false, false, false, false]) (by rfl) (by kernel_rfl) (by kernel_rfl) calm_put hS (by rfl) ?_ ?_
      rotate_left
      · intro W hW; clear hW; go_simp; try (with_reducible rfl)
      simp only [Act.put, List.getElem_toArray, List.getElem_cons_succ, List.getElem_cons_zero, List.setIfInBounds_toArray, List.set_cons_zero, List.set_cons_succ]
      refine wpAnyE_take (i := 5) (v := ?_) (listed' := #[true, true, true, false, true, true, false, false, false, false, false]) (by rfl) (by kernel_rfl) (by kernel_rfl) calm_put hS (by rfl) ?_ ?_
      rotate_left
      · intro W hW; obtain ⟨q0, q1, q2⟩ := hW; go_simp; try (with_reducible rfl)
      simp only [Act.put, List.getElem_toArray, List.getElem_cons_succ, List.getElem_cons_zero, List.setIfInBounds_toArray, List.set_cons_zero, List.set_cons_succ]
      refine wpAnyE_take (i := 7) (v := ?_) (listed' := #[true, true, true, false, true, true, false, true, false, false, false]) (by rfl) (by kernel_rfl) (by kernel_rfl) calm_put hS (by rfl) ?_ ?_
      rotate_left
      · intro W hW; clear hW; go_simp; try (with_reducible rfl)
      simp only [Act.put, List.getElem_toArray, List.getElem_cons_succ, List.getElem_cons_zero, List.setIfInBounds_toArray, List.set_cons_zero, List.set_cons_succ]
      refine wpAnyE_take (i := 8) (v := ?_) (listed' := #[true, true, true, false, true, true, false, true, true, false, false]) (by rfl) (by kernel_rfl) (by kernel_rfl) calm_put hS (by rfl) ?_ ?_
      rotate_left
      · intro W hW; obtain ⟨q0, q1, q2⟩ := hW; go_simp; try (with_reducible rfl)
      simp only [Act.put, List.getElem_toArray, List.getElem_cons_succ, List.getElem_cons_zero, List.setIfInBounds_toArray, List.set_cons_zero, List.set_cons_succ]
      refine wpAnyE_one (i := 3) (listed' := #[true, true, true, true, true, true, false, true, true, false, false]) (by rfl) (by kernel_rfl) (by kernel_rfl) (by rfl) (fun K hK => ?_)
      simp only [Act.put, List.getElem_toArray, List.getElem_cons_succ, List.getElem_cons_zero, List.setIfInBounds_toArray, List.set_cons_zero, List.set_cons_succ]
      go_wp2_with fail
      refine Calls.mono (ref_Put1 T id _ (by have := HTL.out; omega) P0.out) ?_
      rintro e w7 ⟨t6, rfl, ht6, hl6, hk7⟩
      replace K1 := K1.trans hk7
      have hS := HB3.out _ K1
      refine hK _ _ (fun _ => hS) ?_; clear hK K
      refine wpAnyE_one (i := 6) (listed' := #[true, true, true, true, true, true, true, true, true, false, false]) (by rfl) (by kernel_rfl) (by kernel_rfl) (by rfl) (fun K hK => ?_)
      simp only [Act.put, List.getElem_toArray, List.getElem_cons_succ, List.getElem_cons_zero, List.setIfInBounds_toArray, List.set_cons_zero, List.set_cons_succ]
      go_wp2_with fail
      refine Calls.mono (ref_Put2 t6 sec _ (by have := HTL.out; have := hl6.out; omega) P1.out) ?_
      rintro e w8 ⟨t7, rfl, ht7, hl7, hk8⟩
      replace K1 := K1.trans hk8
      have hS := HB3.out _ K1
      refine hK _ _ (fun _ => hS) ?_; clear hK K
      refine wpAnyE_one (i := 9) (listed' := #[true, true, true, true, true, true, true, true, true, true, false]) (by rfl) (by kernel_rfl) (by kernel_rfl) (by rfl) (fun K hK => ?_)
      simp only [Act.put, List.getElem_toArray, List.getElem_cons_succ, List.getElem_cons_zero, List.setIfInBounds_toArray, List.set_cons_zero, List.set_cons_succ]
      go_wp2_with fail
      refine Calls.mono (ref_Put1 t7 st _ (by have := HTL.out; have := hl6.out; have := hl7.out; omega) P2.out) ?_
      rintro e w9 ⟨t8, rfl, ht8, hl8, hk9⟩
      replace K1 := K1.trans hk9
      have hS := HB3.out _ K1
      refine hK _ _ (fun _ => hS) ?_; clear hK K
      refine wpAnyE_one (i := 10) (listed' := #[true, true, true, true, true, true, true, true, true, true, true]) (by rfl) (by kernel_rfl) (by kernel_rfl) (by rfl) (fun K hK => ?_)
      simp only [Act.put, List.getElem_toArray, List.getElem_cons_succ, List.getElem_cons_zero, List.setIfInBounds_toArray, List.set_cons_zero, List.set_cons_succ]
      go_wp2
      refine hK _ _ (fun _ => hS) ?_; clear hK K
      refine wpAnyE_done (by kernel_rfl) ?_ _
      refine calm_normal ?_
      go_wp2
      go_roundw
      case rel =>
        refine ⟨k + 1, by omega, by go_num, ?_, hkr.trans (((Kept.refl _).alloc _).trans K1)⟩
        rw [HT.out, ← List.append_assoc, HTe.out, ht8.out, ht7.out, ht6.out]
        simp [Mem.bytes]
      case measure => simp [intOf]; omega
    · go_wp2
      go_ret
      refine ⟨?_, HK0.out.trans hkr⟩
      have e1 : ms.take k = ms := by rw [List.take_of_length_le]; omega
      rw [e1, HT2.out, List.append_assoc]
      rfl
end Go.Proofs.Ytpnpconphpbcaaa
