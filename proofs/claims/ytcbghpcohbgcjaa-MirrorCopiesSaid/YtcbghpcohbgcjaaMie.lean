/- mirror: Write on a law's bank. -/
import Derived.Test.YtcbghpcohbgcjaaMid
import Derived.Test.YtcbghpcohbgcjaaDlh
namespace Go.Proofs.Ytcbghpcohbgcjaa
open Go.RowKit
set_option linter.unusedVariables false
set_option linter.unusedSimpArgs false

section
variable {w0 W : World} {R : Nat → Prop} {q : Nat} {T : BankT}
set_option maxHeartbeats 2000000
set_option maxRecDepth 100000
theorem m_Write (h : BK w0 R W q T) (u : T.Use) (x0 x1 y0 y1 : Int) {s : List Int} (hs : s.length = 64) (u1 : (T.write x0 x1 s).1.Use) :
    Calls Try.prog 35 #[.pointer (some ⟨q, 0, none⟩), .agg #[.int .i64 x0, .int .i64 x1], .agg #[.int .i64 y0, .int .i64 y1], .agg (u8s s).toArray] W fun e w' => e = .returned (.int .i64 (T.mWrite x0 x1 y0 y1 s).2) ∧ BK w0 R w' q (T.mWrite x0 x1 y0 y1 s).1 ∧ SameR R W w' := by
  obtain ⟨T1, c, hw⟩ : ∃ T1 c, T.write x0 x1 s = (T1, c) := ⟨_, _, rfl⟩
  unfold BankT.mWrite
  rw [hw] at u1 ⊢
  simp only [] at u1 ⊢
  obtain ⟨T2, d, hw2⟩ : ∃ T2 d, T1.write y0 y1 s = (T2, d) := ⟨_, _, rfl⟩
  rw [hw2]
  simp only []
  obtain ⟨Tr, cr, hres⟩ : ∃ Tr cr, (if c ≠ 0 ∧ lostB c = false then (T1, c) else if d ≠ 0 ∧ lostB d = false then (T2, d) else (T2, if c = 0 ∨ d = 0 then (0 : Int) else 5)) = (Tr, cr) := ⟨_, _, rfl⟩
  rw [hres]
  have HW1 := Lib.hid hw; have HW2 := Lib.hid hw2; have HX := Lib.hid hs; have HU := Lib.hid u; have HU1 := Lib.hid u1; have HB := Lib.hid h; have HRES := Lib.hid hres
  clear hw hw2 hs u u1 h hres
  go_enter Try.func35, Try.ntmps35
  go_wp2_with (refine stop_at (o := ⟨some 5, _, _, _, _, _⟩) ?_)
  refine Stop.mk ?_
  refine wpList_box_row rfl _ _ rfl [.int .i64 x0, .int .i64 x1] rfl ?_
  intro w1 hz1 hs1 hk1
  have p0 : w1.cell? ⟨W.heap.size, 0, none⟩ = some (.int .i64 x0) := cell_of_row _ _ 0 _ _ _ hz1.out
  have p1 : w1.cell? ⟨W.heap.size, 1, none⟩ = some (.int .i64 x1) := cell_of_row _ _ 1 _ _ _ hz1.out
  have HB1 := Lib.hid (HB.out.box hk1 hs1)
  have HS := Lib.hid (show SameR R W w1 from (HB.out.kept hk1).2)
  generalize W.heap.size = X at *
  clear hz1 hs1 hk1
  go_wp2_with (refine stop_at (o := ⟨some 6, _, _, _, _, _⟩) ?_)
  refine Stop.mk ?_
  refine wpList_box_row rfl _ _ rfl [.int .i64 y0, .int .i64 y1] rfl ?_
  intro w2 hz2 hs2 hk2
  have HY2 := hz2
  replace p0 := hk2.cell' p0
  replace p1 := hk2.cell' p1
  have HB2 := Lib.hid (HB1.out.box hk2 hs2)
  replace HS := Lib.hid (show SameR R W w2 from HS.out.trans fun k hk => (HB1.out.kept hk2).2 k (.inl hk))
  generalize w1.heap.size = Yb at *
  clear hz2 hs2 hk2 HB1 HB
  go_wp2_with (refine stop_at (o := ⟨some 7, _, _, _, _, _⟩) ?_)
  refine Stop.mk ?_
  refine wpList_box_row rfl _ _ rfl (u8s s) rfl ?_
  intro w3 hz3 hs3 hk3
  have HZ3 := hz3
  replace HY2 := Lib.hid (hk3.block HY2.out)
  replace p0 := hk3.cell' p0
  replace p1 := hk3.cell' p1
  have HB3 := Lib.hid (HB2.out.box hk3 hs3)
  replace HS := Lib.hid (show SameR R W w3 from HS.out.trans fun k hk => (HB2.out.kept hk3).2 k (.inl (.inl hk)))
  generalize w2.heap.size = Z at *
  clear hz3 hs3 hk3 HB2
  go_wp2_with fail
  refine wp_scope_jumps 0 (fun a' w' => ∃ (ans : Int) (P : Nat) (v12 v13 v14 v15 v16 v17 v18 v19 v20 v21 v22 v23 v24 v25 v26 v27 v28 : Value), a' = { tmps := #[.pointer (some ⟨q, 0, none⟩), .agg #[.int .i64 x0, .int .i64 x1], .agg #[.int .i64 y0, .int .i64 y1], .agg (u8s s).toArray, undef, .pointer (some ⟨X, 0, none⟩), .pointer (some ⟨Yb, 0, none⟩), .pointer (some ⟨Z, 0, none⟩), .int .i64 0, .int .i64 ans, .pointer (some ⟨P, 0, none⟩), .bool true, v12, v13, v14, v15, v16, v17, v18, v19, v20, v21, v22, v23, v24, v25, v26, v27, v28, undef], defers := [] } ∧
    Hid (BK w0 (fun k => (((R k ∨ k = X) ∨ k = Yb) ∨ k = Z) ∨ k = P) w' q T1) ∧ Hid (SameR R W w') ∧ Hid (w'.heap[P]? = some (.cells [.int .i64 y0, .int .i64 y1].toArray 31 (0, 0))) ∧ Hid (w'.heap[Z]? = some (.cells (u8s s).toArray 36 (0, 0))) ∧ (c = 0 ∧ ans = 0 ∨ lostB c = true ∧ c ≠ 0 ∧ ans = 5))
    (fun a' _ => match a'.tmps.getD 11 undef with | .bool true => 0 | _ => 1) rfl ?_ ?_
  · go_wp2_with (refine stop_at (o := ⟨some 10, _, _, _, _, _⟩) ?_)
    refine Stop.mk ?_
    refine wpList_new_row rfl rfl _ _ rfl rfl ty_plc _ zero_plc rfl [.int .i64 x0, .int .i64 x1] rfl rfl (by intro u hu; simp at hu; rcases hu with rfl | rfl <;> rfl) rfl ?_
    intro w4 hz4 hs4 hk4
    have HP4 := hz4
    have r0 : w4.cell? ⟨w3.heap.size, 0, none⟩ = some (.int .i64 x0) := cell_of_row _ _ 0 _ _ _ hz4.out
    have r1 : w4.cell? ⟨w3.heap.size, 1, none⟩ = some (.int .i64 x1) := cell_of_row _ _ 1 _ _ _ hz4.out
    replace HY2 := Lib.hid (hk4.block HY2.out)
    replace HZ3 := Lib.hid (hk4.block HZ3.out)
    have HB4 := Lib.hid (HB3.out.box hk4 hs4)
    replace HS := Lib.hid (show SameR R W w4 from HS.out.trans fun k hk => (HB3.out.kept hk4).2 k (.inl (.inl (.inl hk))))
    have HPZ : Hid (w3.heap.size ≠ Z ∧ w3.heap.size ≠ Yb) := Lib.hid ⟨fun e => by have := (HB3.out.kept (Kept.refl _)).1; obtain ⟨_, _, hb⟩ := this; have := (hb.off Z (.inr rfl)).1; omega, fun e => by have := (HB3.out.kept (Kept.refl _)).1; obtain ⟨_, _, hb⟩ := this; have := (hb.off Yb (.inl (.inr rfl))).1; omega⟩
    have HP0 : Hid (w0.heap.size ≤ w3.heap.size) := Lib.hid HB3.out.keeps.size
    have HRP : Hid (∀ k, R k → k ≠ w3.heap.size) := Lib.hid fun k hk e => by have := (HB3.out.kept (Kept.refl _)).1; obtain ⟨_, _, hb⟩ := this; have := (hb.off k (.inl (.inl (.inl hk)))).1; omega
    generalize w3.heap.size = P at *
    clear hz4 hs4 hk4 HB3 p0 p1
    go_wp2_with fail
    go_step3
    go_wp2_with (refine stop_at (o := ⟨some 16, _, _, _, _, _⟩) ?_)
    refine Stop.mk ?_
    refine wpList_load_agg rfl _ rfl ty_sec Z 0 rfl (u8s s) (by simpa using Cells.of_block HZ3.out) (by rw [u8s_length, HX.out]) ?_
    go_wp2_with fail
    refine Calls.mono (st_writeE HB4.out HU.out x0 x1 HX.out HW1.out) ?_
    rintro e w5 ⟨rfl, hb5, hr5⟩
    have HB5 := Lib.hid hb5
    replace HS := Lib.hid (show SameR R W w5 from HS.out.trans fun k hk => hr5 k (.inl (.inl (.inl (.inl hk)))))
    replace HZ3 := Lib.hid ((hr5 Z (.inl (.inr rfl))).trans HZ3.out)
    replace HY2 := Lib.hid ((hr5 Yb (.inl (.inl (.inr rfl)))).trans HY2.out)
    replace HP4 := Lib.hid ((hr5 P (.inr rfl)).trans HP4.out)
    have q0 : w5.cell? ⟨Yb, 0, none⟩ = some (.int .i64 y0) := cell_of_row _ _ 0 _ _ _ HY2.out
    have q1 : w5.cell? ⟨Yb, 1, none⟩ = some (.int .i64 y1) := cell_of_row _ _ 1 _ _ _ HY2.out
    clear hb5 hr5 HB4 r0 r1
    by_cases hc : c = 0
    · have hcb : (c == 0) = true := by simp [hc]
      go_wp2_with (refine stop_at (o := ⟨none, .store _ _ _, _, _, _, _⟩) ?_)
      refine Stop.mk ?_
      refine wpList_store_agg rfl _ _ rfl ty_plc P 0 rfl [.int .i64 y0, .int .i64 y1] rfl rfl (by intro u hu; simp at hu; rcases hu with rfl | rfl <;> rfl) _ _ HP4.out (by simp) ?_
      intro w6 hw6
      replace hw6 := hw6.all rfl
      have HB6 := Lib.hid (HB5.out.wrote hw6 (.inr rfl) HP0.out)
      have HS6 := Lib.hid (show SameR R W w6 from HS.out.trans (BK.wrote_same hw6 (fun k hk e => HRP.out k hk e)))
      have HZ6 := Lib.hid ((hw6.oth Z HPZ.out.1.symm).trans HZ3.out)
      have HP6 := Lib.hid hw6.blk
      clear hw6
      go_wp2
      go_step3
      exact ⟨rfl, 0, P, _, _, _, _, _, _, _, _, _, _, _, _, _, _, _, _, _, rfl, HB6, HS6, HP6, HZ6, .inl ⟨hc, rfl⟩⟩
    · have hcb : (c == 0) = false := by simpa using hc
      go_wp2_with fail
      refine Calls.mono (mirror_lost c _) ?_
      rintro e w' ⟨rfl, rfl⟩
      have hlc : lostB c = false ∨ lostB c = true := by cases lostB c <;> simp
      rcases hlc with hlc | hlc
      · have hres := HRES.out
        rw [if_pos ⟨hc, hlc⟩] at hres
        obtain ⟨rfl, rfl⟩ : T1 = Tr ∧ c = cr := by cases hres; exact ⟨rfl, rfl⟩
        clear hres HRES
        go_wp2
        simp only [Exit.jump]
        go_ret
        exact ⟨rfl, HB5.out.less (fun k hk => .inl (.inl (.inl (.inl hk)))), HS.out⟩
      · have HLC := Lib.hid hlc
        go_wp2_with (refine stop_at (o := ⟨none, .store _ _ _, _, _, _, _⟩) ?_)
        refine Stop.mk ?_
        refine wpList_store_agg rfl _ _ rfl ty_plc P 0 rfl [.int .i64 y0, .int .i64 y1] rfl rfl (by intro u hu; simp at hu; rcases hu with rfl | rfl <;> rfl) _ _ HP4.out (by simp) ?_
        intro w6 hw6
        replace hw6 := hw6.all rfl
        have HB6 := Lib.hid (HB5.out.wrote hw6 (.inr rfl) HP0.out)
        have HS6 := Lib.hid (show SameR R W w6 from HS.out.trans (BK.wrote_same hw6 (fun k hk e => HRP.out k hk e)))
        have HZ6 := Lib.hid ((hw6.oth Z HPZ.out.1.symm).trans HZ3.out)
        have HP6 := Lib.hid hw6.blk
        clear hw6
        go_wp2
        go_step3
        exact ⟨rfl, 5, P, _, _, _, _, _, _, _, _, _, _, _, _, _, _, _, _, _, rfl, HB6, HS6, HP6, HZ6, .inr ⟨HLC.out, hc, rfl⟩⟩
  · rintro a' w5 ⟨ans, P, v12, v13, v14, v15, v16, v17, v18, v19, v20, v21, v22, v23, v24, v25, v26, v27, v28, rfl, HB5, HS, HP5, HZ5, hans⟩
    have r0 : w5.cell? ⟨P, 0, none⟩ = some (.int .i64 y0) := cell_of_row _ _ 0 _ _ _ HP5.out
    have r1 : w5.cell? ⟨P, 1, none⟩ = some (.int .i64 y1) := cell_of_row _ _ 1 _ _ _ HP5.out
    have HAN := Lib.hid hans
    clear hans p0 p1
    go_wp2_with (refine stop_at (o := ⟨some 16, _, _, _, _, _⟩) ?_)
    refine Stop.mk ?_
    refine wpList_load_agg rfl _ rfl ty_sec Z 0 rfl (u8s s) (by simpa using Cells.of_block HZ5.out) (by rw [u8s_length, HX.out]) ?_
    go_wp2_with fail
    refine Calls.mono (st_writeE HB5.out HU1.out y0 y1 HX.out HW2.out) ?_
    rintro e w6 ⟨rfl, hb6, hr6⟩
    have HB6 := Lib.hid hb6
    replace HS := Lib.hid (show SameR R W w6 from HS.out.trans fun k hk => hr6 k (.inl (.inl (.inl (.inl hk)))))
    clear hb6 hr6 HB5 r0 r1
    have hcl : ¬ (c ≠ 0 ∧ lostB c = false) := by
      rcases HAN.out with ⟨h1, _⟩ | ⟨h1, _, _⟩
      · exact fun h => h.1 h1
      · intro h; rw [h1] at h; cases h.2
    by_cases hd : d = 0
    · have hdb : (d == 0) = true := by simp [hd]
      have hres := HRES.out
      rw [if_neg hcl, if_neg (fun h => h.1 hd), if_pos (.inr hd)] at hres
      obtain ⟨rfl, rfl⟩ : T2 = Tr ∧ cr = 0 := by cases hres; exact ⟨rfl, rfl⟩
      clear hres HRES hcl
      go_wp2
      simp only [Exit.jump]
      go_ret
      exact ⟨rfl, HB6.out.less (fun k hk => .inl (.inl (.inl (.inl hk)))), HS.out⟩
    · have hdb : (d == 0) = false := by simpa using hd
      go_wp2_with fail
      refine Calls.mono (mirror_lost d _) ?_
      rintro e w' ⟨rfl, rfl⟩
      have hld : lostB d = false ∨ lostB d = true := by cases lostB d <;> simp
      rcases hld with hld | hld
      · have hres := HRES.out
        rw [if_neg hcl, if_pos ⟨hd, hld⟩] at hres
        obtain ⟨rfl, rfl⟩ : T2 = Tr ∧ d = cr := by cases hres; exact ⟨rfl, rfl⟩
        clear hres HRES hcl
        go_wp2
        simp only [Exit.jump]
        go_ret
        exact ⟨rfl, HB6.out.less (fun k hk => .inl (.inl (.inl (.inl hk)))), HS.out⟩
      · have hres := HRES.out
        rw [if_neg hcl, if_neg (fun h => by rw [hld] at h; cases h.2)] at hres
        have hcr : T2 = Tr ∧ cr = ans := by
          rcases HAN.out with ⟨h1, h2⟩ | ⟨h1, h2, h3⟩
          · rw [if_pos (.inl h1)] at hres; cases hres; exact ⟨rfl, h2.symm⟩
          · rw [if_neg (fun h => h.elim h2 hd)] at hres; cases hres; exact ⟨rfl, h3.symm⟩
        obtain ⟨rfl, rfl⟩ := hcr
        clear hres HRES hcl HAN
        go_wp2
        simp only [Exit.jump]
        go_ret
        exact ⟨rfl, HB6.out.less (fun k hk => .inl (.inl (.inl (.inl hk)))), HS.out⟩
end
end Go.Proofs.Ytcbghpcohbgcjaa
