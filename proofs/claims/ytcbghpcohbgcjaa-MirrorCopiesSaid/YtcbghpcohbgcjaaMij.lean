/- mirror: Alike on a law's bank. -/
import Derived.Test.YtcbghpcohbgcjaaMie
namespace Go.Proofs.Ytcbghpcohbgcjaa
open Go.RowKit
set_option linter.unusedVariables false
set_option linter.unusedSimpArgs false

section
variable {w0 W : World} {R : Nat → Prop} {q : Nat} {T : BankT}
set_option maxHeartbeats 2000000
set_option maxRecDepth 100000
theorem m_Alike (h : BK w0 R W q T) (u : T.Use) (x0 x1 y0 y1 : Int) :
    Calls Try.prog 37 #[.pointer (some ⟨q, 0, none⟩), .agg #[.int .i64 x0, .int .i64 x1], .agg #[.int .i64 y0, .int .i64 y1]] W fun e w' => e = .returned (.tuple #[.bool (T.mAlike x0 x1 y0 y1).2.1, .int .i64 (T.mAlike x0 x1 y0 y1).2.2]) ∧ BK w0 R w' q (T.mAlike x0 x1 y0 y1).1 ∧ SameR R W w' := by
  obtain ⟨xs, c, hr⟩ : ∃ xs c, T.read x0 x1 = (xs, c) := ⟨_, _, rfl⟩
  have hx64 : xs.length = 64 := by have := (BankT.read_sec u.inv x0 x1).1; rw [hr] at this; exact this
  obtain ⟨ys, d, hq⟩ : ∃ ys d, T.read y0 y1 = (ys, d) := ⟨_, _, rfl⟩
  have hy64 : ys.length = 64 := by have := (BankT.read_sec u.inv y0 y1).1; rw [hq] at this; exact this
  unfold BankT.mAlike
  rw [hr, hq]
  obtain ⟨T', g, hw⟩ : ∃ T' g, T.write y0 y1 xs = (T', g) := ⟨_, _, rfl⟩
  simp only []
  rw [hw]
  simp only []
  obtain ⟨Tr, br, cr, hres⟩ : ∃ Tr br cr, (if c ≠ 0 ∧ lostB c = false then (T, false, c) else if d ≠ 0 ∧ lostB d = false then (T, false, d) else if c ≠ 0 ∧ d ≠ 0 then (T, false, (5 : Int)) else if c ≠ 0 ∨ d ≠ 0 ∨ xs = ys then (T, false, (0 : Int)) else if lostB g then (T', false, (0 : Int)) else (T', g == 0, g)) = (Tr, br, cr) := ⟨_, _, _, rfl⟩
  rw [hres]
  have HR := Lib.hid hr; have HQ := Lib.hid hq; have HW := Lib.hid hw; have HX := Lib.hid hx64; have HY := Lib.hid hy64; have HU := Lib.hid u; have HB := Lib.hid h; have HRES := Lib.hid hres
  clear hr hq hw hx64 hy64 u h hres
  go_enter Try.func37, Try.ntmps37
  go_wp2_with (refine stop_at (o := ⟨some 4, _, _, _, _, _⟩) ?_)
  refine Stop.mk ?_
  refine wpList_box_row rfl _ _ rfl [.int .i64 x0, .int .i64 x1] rfl ?_
  intro w1 hz1 hs1 hk1
  have p0 : w1.cell? ⟨W.heap.size, 0, none⟩ = some (.int .i64 x0) := cell_of_row _ _ 0 _ _ _ hz1.out
  have p1 : w1.cell? ⟨W.heap.size, 1, none⟩ = some (.int .i64 x1) := cell_of_row _ _ 1 _ _ _ hz1.out
  have HB1 := Lib.hid (HB.out.box hk1 hs1)
  have HS := Lib.hid (show SameR R W w1 from (HB.out.kept hk1).2)
  generalize W.heap.size = X at *
  clear hz1 hs1 hk1
  go_wp2_with (refine stop_at (o := ⟨some 5, _, _, _, _, _⟩) ?_)
  refine Stop.mk ?_
  refine wpList_box_row rfl _ _ rfl [.int .i64 y0, .int .i64 y1] rfl ?_
  intro w2 hz2 hs2 hk2
  have q0 : w2.cell? ⟨w1.heap.size, 0, none⟩ = some (.int .i64 y0) := cell_of_row _ _ 0 _ _ _ hz2.out
  have q1 : w2.cell? ⟨w1.heap.size, 1, none⟩ = some (.int .i64 y1) := cell_of_row _ _ 1 _ _ _ hz2.out
  replace p0 := hk2.cell' p0
  replace p1 := hk2.cell' p1
  have HB2 := Lib.hid (HB1.out.box hk2 hs2)
  replace HS := Lib.hid (show SameR R W w2 from HS.out.trans fun k hk => (HB1.out.kept hk2).2 k (.inl hk))
  generalize w1.heap.size = Yb at *
  clear hz2 hs2 hk2 HB1 HB
  go_wp2_with fail
  refine Calls.mono (st_read HB2.out HU.out x0 x1 HR.out) ?_
  rintro e w3 ⟨rfl, hb3, hk3⟩
  have HB3 := Lib.hid hb3
  replace q0 := hk3.cell' q0
  replace q1 := hk3.cell' q1
  replace HS := Lib.hid (show SameR R W w3 from HS.out.trans fun k hk => (HB2.out.kept hk3).2 k (.inl (.inl hk)))
  clear hb3 hk3 HB2 p0 p1
  go_wp2_with (refine stop_at (o := ⟨some 8, _, _, _, _, _⟩) ?_)
  refine Stop.mk ?_
  refine wpList_new_row rfl rfl _ _ rfl rfl ty_sec (u8s zeroB) zero_sec (by rw [u8s_length, zeroB_length]) (u8s xs) rfl (by rw [u8s_length, HX.out]) (u8s_one _) rfl ?_
  intro w4 hz4 hs4 hk4
  have HB4 := Lib.hid (HB3.out.kept hk4).1
  have HX4 := hz4
  replace q0 := hk4.cell' q0
  replace q1 := hk4.cell' q1
  replace HS := Lib.hid (show SameR R W w4 from HS.out.trans fun k hk => (HB3.out.kept hk4).2 k (.inl (.inl hk)))
  generalize w3.heap.size = SX at *
  clear hz4 hs4 hk4 HB3
  have hlc : lostB c = false ∨ lostB c = true := by cases lostB c <;> simp
  have hcc : c = 0 ∨ (c ≠ 0 ∧ lostB c = false) ∨ (c ≠ 0 ∧ lostB c = true) := by
    by_cases h : c = 0
    · exact .inl h
    · rcases hlc with e | e
      · exact .inr (.inl ⟨h, e⟩)
      · exact .inr (.inr ⟨h, e⟩)
  clear hlc
  rcases hcc with hc | ⟨hc, hlc⟩ | ⟨hc, hlc⟩
  · have hcb : (c == 0) = true := by simp [hc]
    go_wp2_with fail
    refine Calls.mono (st_read HB4.out HU.out y0 y1 HQ.out) ?_
    rintro e w5 ⟨rfl, hb5, hk5⟩
    have HB5 := Lib.hid hb5
    replace q0 := hk5.cell' q0
    replace q1 := hk5.cell' q1
    have HX5 := Lib.hid (hk5.block HX4.out)
    replace HS := Lib.hid (show SameR R W w5 from HS.out.trans fun k hk => (HB4.out.kept hk5).2 k (.inl (.inl hk)))
    clear hb5 hk5 HB4 HX4
    go_wp2_with (refine stop_at (o := ⟨some 10, _, _, _, _, _⟩) ?_)
    refine Stop.mk ?_
    refine wpList_new_row rfl rfl _ _ rfl rfl ty_sec (u8s zeroB) zero_sec (by rw [u8s_length, zeroB_length]) (u8s ys) rfl (by rw [u8s_length, HY.out]) (u8s_one _) rfl ?_
    intro w6 hz6 hs6 hk6
    have HB6 := Lib.hid (HB5.out.kept hk6).1
    have HY6 := hz6
    have HX6 := Lib.hid (hk6.block HX5.out)
    replace q0 := hk6.cell' q0
    replace q1 := hk6.cell' q1
    replace HS := Lib.hid (show SameR R W w6 from HS.out.trans fun k hk => (HB5.out.kept hk6).2 k (.inl (.inl hk)))
    generalize w5.heap.size = SY at *
    clear hz6 hs6 hk6 HB5 HX5
    by_cases hd : d = 0
    · have hdb : (d == 0) = true := by simp [hd]
      by_cases hxy : xs = ys
      · subst hxy
        go_wp2_with (refine stop_at (o := ⟨some 56, _, _, _, _, _⟩) ?_)
        refine Stop.mk ?_
        refine wpList_load_aggW _ rfl ty_sec SX 0 rfl (u8s xs) (by simpa using Cells.of_block HX6.out) (by rw [u8s_length, HX.out]) rfl ?_
        go_wp2_with (refine stop_at (o := ⟨some 57, _, _, _, _, _⟩) ?_)
        refine Stop.mk ?_
        refine wpList_load_aggW _ rfl ty_sec SY 0 rfl (u8s xs) (by simpa using Cells.of_block HY6.out) (by rw [u8s_length, HX.out]) rfl ?_
        go_wp2_with (refine stop_at (o := ⟨some 58, _, _, _, _, _⟩) ?_)
        refine Stop.mk ?_
        refine wpList_eq_sec rfl _ _ rfl xs xs rfl rfl HX.out HX.out ?_
        rw [show (xs == xs) = true by simp]
        have hres := HRES.out
        rw [if_neg (fun h => h.1 hc), if_neg (fun h => h.1 hd), if_neg (fun h => h.1 hc), if_pos (by simp)] at hres
        obtain ⟨rfl, rfl, rfl⟩ : T = Tr ∧ false = br ∧ 0 = cr := by cases hres; exact ⟨rfl, rfl, rfl⟩
        clear hres HRES
        go_wp2
        go_ret2
        exact ⟨rfl, HB6.out.less (fun k hk => .inl (.inl hk)), HS.out⟩
      · have hxb : (xs == ys) = false := by simpa using hxy
        go_wp2_with (refine stop_at (o := ⟨some 56, _, _, _, _, _⟩) ?_)
        refine Stop.mk ?_
        refine wpList_load_aggW _ rfl ty_sec SX 0 rfl (u8s xs) (by simpa using Cells.of_block HX6.out) (by rw [u8s_length, HX.out]) rfl ?_
        go_wp2_with (refine stop_at (o := ⟨some 57, _, _, _, _, _⟩) ?_)
        refine Stop.mk ?_
        refine wpList_load_aggW _ rfl ty_sec SY 0 rfl (u8s ys) (by simpa using Cells.of_block HY6.out) (by rw [u8s_length, HY.out]) rfl ?_
        go_wp2_with (refine stop_at (o := ⟨some 58, _, _, _, _, _⟩) ?_)
        refine Stop.mk ?_
        refine wpList_eq_sec rfl _ _ rfl xs ys rfl rfl HX.out HY.out ?_
        rw [hxb]
        go_wp2_with (refine stop_at (o := ⟨some 62, _, _, _, _, _⟩) ?_)
        refine Stop.mk ?_
        refine wpList_load_agg rfl _ rfl ty_sec SX 0 rfl (u8s xs) (by simpa using Cells.of_block HX6.out) (by rw [u8s_length, HX.out]) ?_
        go_wp2_with fail
        refine Calls.mono (st_writeE HB6.out HU.out y0 y1 HX.out HW.out) ?_
        rintro e w7 ⟨rfl, hb7, hr7⟩
        have HB7 := Lib.hid hb7
        replace HS := Lib.hid (show SameR R W w7 from HS.out.trans fun k hk => hr7 k (.inl (.inl hk)))
        clear hb7 hr7 HB6 q0 q1
        have hno : ¬ (c ≠ 0 ∨ d ≠ 0 ∨ xs = ys) := fun h => by rcases h with h | h | h; exact h hc; exact h hd; exact hxy h
        have HNO := Lib.hid hno
        clear hno hxy hxb
        go_wp2_with fail
        refine Calls.mono (mirror_lost g _) ?_
        rintro e w' ⟨rfl, rfl⟩
        have hlg : lostB g = false ∨ lostB g = true := by cases lostB g <;> simp
        rcases hlg with hlg | hlg
        · have hres := HRES.out
          rw [if_neg (fun h => h.1 hc), if_neg (fun h => h.1 hd), if_neg (fun h => h.1 hc), if_neg HNO.out, hlg, if_neg (by decide)] at hres
          obtain ⟨rfl, rfl, rfl⟩ : T' = Tr ∧ (g == 0) = br ∧ g = cr := by cases hres; exact ⟨rfl, rfl, rfl⟩
          clear hres HRES
          go_wp2
          go_ret2
          exact ⟨rfl, HB7.out.less (fun k hk => .inl (.inl hk)), HS.out⟩
        · have hres := HRES.out
          rw [if_neg (fun h => h.1 hc), if_neg (fun h => h.1 hd), if_neg (fun h => h.1 hc), if_neg HNO.out, hlg, if_pos rfl] at hres
          obtain ⟨rfl, rfl, rfl⟩ : T' = Tr ∧ false = br ∧ 0 = cr := by cases hres; exact ⟨rfl, rfl, rfl⟩
          clear hres HRES
          go_wp2
          go_ret2
          exact ⟨rfl, HB7.out.less (fun k hk => .inl (.inl hk)), HS.out⟩
    · have hdb : (d == 0) = false := by simpa using hd
      go_wp2_with fail
      refine Calls.mono (mirror_lost d _) ?_
      rintro e w' ⟨rfl, rfl⟩
      have hld : lostB d = false ∨ lostB d = true := by cases lostB d <;> simp
      rcases hld with hld | hld
      · have hres := HRES.out
        rw [if_neg (fun h => h.1 hc), if_pos ⟨hd, hld⟩] at hres
        obtain ⟨rfl, rfl, rfl⟩ : T = Tr ∧ false = br ∧ d = cr := by cases hres; exact ⟨rfl, rfl, rfl⟩
        clear hres HRES
        go_wp2
        go_ret2
        exact ⟨rfl, HB6.out.less (fun k hk => .inl (.inl hk)), HS.out⟩
      · have hres := HRES.out
        rw [if_neg (fun h => h.1 hc), if_neg (fun h => by rw [hld] at h; cases h.2), if_neg (fun h => h.1 hc), if_pos (.inr (.inl hd))] at hres
        obtain ⟨rfl, rfl, rfl⟩ : T = Tr ∧ false = br ∧ 0 = cr := by cases hres; exact ⟨rfl, rfl, rfl⟩
        clear hres HRES
        go_wp2
        go_ret2
        exact ⟨rfl, HB6.out.less (fun k hk => .inl (.inl hk)), HS.out⟩
  · have hcb : (c == 0) = false := by simpa using hc
    go_wp2_with fail
    refine Calls.mono (mirror_lost c _) ?_
    rintro e w' ⟨rfl, rfl⟩
    have hres := HRES.out
    rw [if_pos ⟨hc, hlc⟩] at hres
    obtain ⟨rfl, rfl, rfl⟩ : T = Tr ∧ false = br ∧ c = cr := by cases hres; exact ⟨rfl, rfl, rfl⟩
    clear hres HRES
    go_wp2
    go_ret2
    exact ⟨rfl, HB4.out.less (fun k hk => .inl (.inl hk)), HS.out⟩
  · have hcb : (c == 0) = false := by simpa using hc
    go_wp2_with fail
    refine Calls.mono (mirror_lost c _) ?_
    rintro e w' ⟨rfl, rfl⟩
    go_wp2_with fail
    refine Calls.mono (st_read HB4.out HU.out y0 y1 HQ.out) ?_
    rintro e w5 ⟨rfl, hb5, hk5⟩
    have HB5 := Lib.hid hb5
    replace q0 := hk5.cell' q0
    replace q1 := hk5.cell' q1
    have HX5 := Lib.hid (hk5.block HX4.out)
    replace HS := Lib.hid (show SameR R W w5 from HS.out.trans fun k hk => (HB4.out.kept hk5).2 k (.inl (.inl hk)))
    clear hb5 hk5 HB4 HX4
    go_wp2_with (refine stop_at (o := ⟨some 10, _, _, _, _, _⟩) ?_)
    refine Stop.mk ?_
    refine wpList_new_row rfl rfl _ _ rfl rfl ty_sec (u8s zeroB) zero_sec (by rw [u8s_length, zeroB_length]) (u8s ys) rfl (by rw [u8s_length, HY.out]) (u8s_one _) rfl ?_
    intro w6 hz6 hs6 hk6
    have HB6 := Lib.hid (HB5.out.kept hk6).1
    have HY6 := hz6
    have HX6 := Lib.hid (hk6.block HX5.out)
    replace q0 := hk6.cell' q0
    replace q1 := hk6.cell' q1
    replace HS := Lib.hid (show SameR R W w6 from HS.out.trans fun k hk => (HB5.out.kept hk6).2 k (.inl (.inl hk)))
    generalize w5.heap.size = SY at *
    clear hz6 hs6 hk6 HB5 HX5
    by_cases hd : d = 0
    · have hdb : (d == 0) = true := by simp [hd]
      have hres := HRES.out
      rw [if_neg (fun h => by rw [hlc] at h; cases h.2), if_neg (fun h => h.1 hd), if_neg (fun h => h.2 hd), if_pos (.inl hc)] at hres
      obtain ⟨rfl, rfl, rfl⟩ : T = Tr ∧ false = br ∧ 0 = cr := by cases hres; exact ⟨rfl, rfl, rfl⟩
      clear hres HRES
      go_wp2
      go_ret2
      exact ⟨rfl, HB6.out.less (fun k hk => .inl (.inl hk)), HS.out⟩
    · have hdb : (d == 0) = false := by simpa using hd
      go_wp2_with fail
      refine Calls.mono (mirror_lost d _) ?_
      rintro e w' ⟨rfl, rfl⟩
      have hld : lostB d = false ∨ lostB d = true := by cases lostB d <;> simp
      rcases hld with hld | hld
      · have hres := HRES.out
        rw [if_neg (fun h => by rw [hlc] at h; cases h.2), if_pos ⟨hd, hld⟩] at hres
        obtain ⟨rfl, rfl, rfl⟩ : T = Tr ∧ false = br ∧ d = cr := by cases hres; exact ⟨rfl, rfl, rfl⟩
        clear hres HRES
        go_wp2
        go_ret2
        exact ⟨rfl, HB6.out.less (fun k hk => .inl (.inl hk)), HS.out⟩
      · have hres := HRES.out
        rw [if_neg (fun h => by rw [hlc] at h; cases h.2), if_neg (fun h => by rw [hld] at h; cases h.2), if_pos ⟨hc, hd⟩] at hres
        obtain ⟨rfl, rfl, rfl⟩ : T = Tr ∧ false = br ∧ 5 = cr := by cases hres; exact ⟨rfl, rfl, rfl⟩
        clear hres HRES
        have hcn : (c != 0) = true := by simp [hc]
        have hdn : (d != 0) = true := by simp [hd]
        go_wp2
        go_ret2
        exact ⟨rfl, HB6.out.less (fun k hk => .inl (.inl hk)), HS.out⟩
end
end Go.Proofs.Ytcbghpcohbgcjaa
