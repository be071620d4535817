/- mirror: Copy and Read on a law's bank. -/
import Derived.Test.YtcbghpcohbgcjaaMia
import Derived.Test.YtcbghpcohbgcjaaDlv
import Derived.ScopeJumps
import Derived.WalkMore
namespace Go.Proofs.Ytcbghpcohbgcjaa
open Go.RowKit
set_option linter.unusedVariables false
set_option linter.unusedSimpArgs false

section
variable {P : Program} {ops : Array Oper} {rest : List Oper} {o : Oper} {a : Act} {w : World} {Q : Exit → Act → World → Prop}
/-- a parameter of many cells that lies in a block of its own; the world a letter -/
theorem wpList_box_row (hgd : Region.wanted o (yielded ops a.tmps) = true) (T : TypeId) (x : Operand) (ho : o.op = .box T x) (zs : List Value) (hx : a.eval x = .agg zs.toArray)
    (h : ∀ w1, Hid (w1.heap[w.heap.size]? = some (.cells zs.toArray T (0, 0))) → w.heap.size < w1.heap.size → Kept w w1 → wpList P ops Q rest (a.put o.dst (.pointer (some ⟨w.heap.size, 0, none⟩))) w1) : wpList P ops Q (o :: rest) a w := by
  refine BigFrame.wpList_want hgd fun K hK => ?_
  unfold Oper.wp execOp
  simp only [ho, hx, Instr.box, newVar, newRow, Sem.run_bind, Result.andThen_ok, Sem.run_pure, run_newObj_alloc, Value.cells]
  exact hK _ _ (h _ (Lib.hid (heap_alloc_new w _)) (by simp) ((Kept.refl _).alloc _))
end
theorem BankT.inE_zero {T : BankT} {d a : Int} (h : T.inE d a = 0) : ∃ k b : Nat, d = (k : Int) ∧ a = (b : Int) ∧ k < T.l.length ∧ b < (T.d k).sin.length := by
  unfold BankT.inE at h
  by_cases hr : T.readyE d ≠ 0
  · rw [if_pos hr] at h; exact absurd h hr
  · rw [if_neg hr] at h
    obtain ⟨k, rfl, hk⟩ := BankT.readyE_in (by simpa using hr)
    rw [Int.toNat_natCast] at h
    by_cases hb : a < 0 ∨ ((T.d k).sin.length : Int) ≤ a
    · rw [if_pos hb] at h; cases h
    · exact ⟨k, a.toNat, rfl, by omega, hk, by omega⟩
theorem zeroB_byte : zeroB.length = 64 ∧ ∀ x ∈ zeroB, IsByte x := by
  refine ⟨zeroB_length, fun x hx => ?_⟩
  have : x = 0 := List.eq_of_mem_replicate (n := 64) (by rw [show List.replicate 64 (0 : Int) = zeroB by decide]; exact hx)
  rw [this]; unfold IsByte; decide
theorem BankT.read_sec {T : BankT} (h : T.Inv) (d a : Int) : (T.read d a).1.length = 64 ∧ ∀ x ∈ (T.read d a).1, IsByte x := by
  unfold BankT.read
  by_cases hi : T.inE d a = 0
  · obtain ⟨k, b, rfl, rfl, hk, hb⟩ := BankT.inE_zero hi
    rw [if_pos hi, Int.toNat_natCast, Int.toNat_natCast]
    exact (h.ok.d hk).new.at hb
  · rw [if_neg hi]; exact zeroB_byte
section
variable {w0 W : World} {R : Nat → Prop} {q : Nat} {T : BankT}
theorem BK.box {w1 : World} (h : BK w0 R W q T) (hk : Kept W w1) (hs : W.heap.size < w1.heap.size) : BK w0 (fun k => R k ∨ k = W.heap.size) w1 q T := h.more hk _ (Nat.le_refl _) hs
set_option maxHeartbeats 2000000
set_option maxRecDepth 100000
theorem m_Copy (h : BK w0 R W q T) (u : T.Use) (x0 x1 y0 y1 : Int) :
    Calls Try.prog 34 #[.pointer (some ⟨q, 0, none⟩), .agg #[.int .i64 x0, .int .i64 x1], .agg #[.int .i64 y0, .int .i64 y1]] W fun e w' => e = .returned (.int .i64 (T.mCopy x0 x1 y0 y1).2) ∧ BK w0 R w' q (T.mCopy x0 x1 y0 y1).1 ∧ SameR R W w' := by
  obtain ⟨xs, c, hr⟩ : ∃ xs c, T.read x0 x1 = (xs, c) := ⟨_, _, rfl⟩
  have hx64 : xs.length = 64 := by have := (BankT.read_sec u.inv x0 x1).1; rw [hr] at this; exact this
  unfold BankT.mCopy
  rw [hr]
  obtain ⟨T', c', hw⟩ : ∃ T' c', T.write y0 y1 xs = (T', c') := ⟨_, _, rfl⟩
  simp only []
  rw [hw]
  obtain ⟨Tr, cr, hres⟩ : ∃ Tr cr, (if c ≠ 0 then (T, c) else (T', c')) = (Tr, cr) := ⟨_, _, rfl⟩
  rw [hres]
  have HR := Lib.hid hr; have HW := Lib.hid hw; have HX := Lib.hid hx64; have HU := Lib.hid u; have HB := Lib.hid h; have HRES := Lib.hid hres
  clear hr hw hx64 u h hres
  go_enter Try.func34, Try.ntmps34
  go_wp2_with (refine stop_at (o := ⟨some 4, _, _, _, _, _⟩) ?_)
  refine Stop.mk ?_
  refine wpList_box_row rfl _ _ rfl [.int .i64 x0, .int .i64 x1] rfl ?_
  intro w1 hz1 hs1 hk1
  have p0 : w1.cell? ⟨W.heap.size, 0, none⟩ = some (.int .i64 x0) := cell_of_row _ _ 0 _ _ _ hz1.out
  have p1 : w1.cell? ⟨W.heap.size, 1, none⟩ = some (.int .i64 x1) := cell_of_row _ _ 1 _ _ _ hz1.out
  have HB1 := Lib.hid (HB.out.box hk1 hs1)
  have HS := Lib.hid (show SameR R W w1 from (HB.out.kept hk1).2)
  generalize W.heap.size = X at *
  clear hz1 hs1 hk1
  go_wp2_with (refine stop_at (o := ⟨some 5, _, _, _, _, _⟩) ?_)
  refine Stop.mk ?_
  refine wpList_box_row rfl _ _ rfl [.int .i64 y0, .int .i64 y1] rfl ?_
  intro w2 hz2 hs2 hk2
  have q0 : w2.cell? ⟨w1.heap.size, 0, none⟩ = some (.int .i64 y0) := cell_of_row _ _ 0 _ _ _ hz2.out
  have q1 : w2.cell? ⟨w1.heap.size, 1, none⟩ = some (.int .i64 y1) := cell_of_row _ _ 1 _ _ _ hz2.out
  replace p0 := hk2.cell' p0
  replace p1 := hk2.cell' p1
  have HB2 := Lib.hid (HB1.out.box hk2 hs2)
  replace HS := Lib.hid (show SameR R W w2 from HS.out.trans fun k hk => (HB1.out.kept hk2).2 k (.inl hk))
  generalize w1.heap.size = Yb at *
  clear hz2 hs2 hk2 HB1 HB
  go_wp2_with fail
  refine Calls.mono (st_read HB2.out HU.out x0 x1 HR.out) ?_
  rintro e w3 ⟨rfl, hb3, hk3⟩
  have HB3 := Lib.hid hb3
  replace q0 := hk3.cell' q0
  replace q1 := hk3.cell' q1
  replace HS := Lib.hid (show SameR R W w3 from HS.out.trans fun k hk => (HB2.out.kept hk3).2 k (.inl (.inl hk)))
  clear hb3 hk3 HB2 p0 p1
  go_wp2_with (refine stop_at (o := ⟨some 7, _, _, _, _, _⟩) ?_)
  refine Stop.mk ?_
  refine wpList_new_row rfl rfl _ _ rfl rfl ty_sec (u8s zeroB) zero_sec (by rw [u8s_length, zeroB_length]) (u8s xs) rfl (by rw [u8s_length, HX.out]) (u8s_one _) rfl ?_
  intro w4 hz4 hs4 hk4
  have HB4 := Lib.hid (HB3.out.kept hk4).1
  have HX4 := hz4
  replace q0 := hk4.cell' q0
  replace q1 := hk4.cell' q1
  replace HS := Lib.hid (show SameR R W w4 from HS.out.trans fun k hk => (HB3.out.kept hk4).2 k (.inl (.inl hk)))
  clear hz4 hs4 hk4 HB3
  by_cases hc : c = 0
  · subst hc
    have hres := HRES.out
    rw [if_neg (by decide)] at hres
    obtain ⟨rfl, rfl⟩ : T' = Tr ∧ c' = cr := by cases hres; exact ⟨rfl, rfl⟩
    clear hres HRES
    go_wp2_with (refine stop_at (o := ⟨some 20, _, _, _, _, _⟩) ?_)
    refine Stop.mk ?_
    refine wpList_load_agg rfl _ rfl ty_sec w3.heap.size 0 rfl (u8s xs) (by simpa using Cells.of_block HX4.out) (by rw [u8s_length, HX.out]) ?_
    go_wp2_with fail
    refine Calls.mono (st_writeE HB4.out HU.out y0 y1 HX.out HW.out) ?_
    rintro e w5 ⟨rfl, hb5, hs5⟩
    go_wp2
    go_ret
    exact ⟨rfl, hb5.less (fun k hk => .inl (.inl hk)), HS.out.trans fun k hk => hs5 k (.inl (.inl hk))⟩
  · have hres := HRES.out
    rw [if_pos hc] at hres
    obtain ⟨rfl, rfl⟩ : T = Tr ∧ c = cr := by cases hres; exact ⟨rfl, rfl⟩
    clear hres HRES
    have hcb : (c == 0) = false := by simpa using hc
    go_wp2
    go_ret
    exact ⟨rfl, HB4.out.less (fun k hk => .inl (.inl hk)), HS.out⟩
theorem m_Read (h : BK w0 R W q T) (u : T.Use) (x0 x1 y0 y1 : Int) :
    Calls Try.prog 36 #[.pointer (some ⟨q, 0, none⟩), .agg #[.int .i64 x0, .int .i64 x1], .agg #[.int .i64 y0, .int .i64 y1]] W fun e w' => e = .returned (.tuple #[.agg (u8s (T.mRead x0 x1 y0 y1).1).toArray, .int .i64 (T.mRead x0 x1 y0 y1).2]) ∧ BK w0 R w' q T ∧ SameR R W w' ∧ Kept W w' := by
  obtain ⟨xs, c, hr⟩ : ∃ xs c, T.read x0 x1 = (xs, c) := ⟨_, _, rfl⟩
  have hx64 : xs.length = 64 := by have := (BankT.read_sec u.inv x0 x1).1; rw [hr] at this; exact this
  obtain ⟨ys, d, hq⟩ : ∃ ys d, T.read y0 y1 = (ys, d) := ⟨_, _, rfl⟩
  have hy64 : ys.length = 64 := by have := (BankT.read_sec u.inv y0 y1).1; rw [hq] at this; exact this
  unfold BankT.mRead
  rw [hr, hq]
  simp only []
  suffices hh : Calls Try.prog 36 #[.pointer (some ⟨q, 0, none⟩), .agg #[.int .i64 x0, .int .i64 x1], .agg #[.int .i64 y0, .int .i64 y1]] W fun e w' => e = .returned (.tuple #[.agg (u8s (if lostB c then (if lostB d then (ys, (5 : Int)) else (ys, d)) else (xs, c)).1).toArray, .int .i64 (if lostB c then (if lostB d then (ys, (5 : Int)) else (ys, d)) else (xs, c)).2]) ∧ Kept W w' from
    hh.mono fun e w' ⟨he, hk⟩ => ⟨he, (h.kept hk).1, (h.kept hk).2, hk⟩
  obtain ⟨zs, cr, hres⟩ : ∃ zs cr, (if lostB c then (if lostB d then (ys, (5 : Int)) else (ys, d)) else (xs, c)) = (zs, cr) := ⟨_, _, rfl⟩
  rw [hres]
  have HRES := Lib.hid hres; clear hres
  have HR := Lib.hid hr; have HQ := Lib.hid hq; have HX := Lib.hid hx64; have HY := Lib.hid hy64; have HU := Lib.hid u; have HB := Lib.hid h
  clear hr hq hx64 hy64 u h
  go_enter Try.func36, Try.ntmps36
  go_wp2_with (refine stop_at (o := ⟨some 4, _, _, _, _, _⟩) ?_)
  refine Stop.mk ?_
  refine wpList_box_row rfl _ _ rfl [.int .i64 x0, .int .i64 x1] rfl ?_
  intro w1 hz1 hs1 hk1
  have p0 : w1.cell? ⟨W.heap.size, 0, none⟩ = some (.int .i64 x0) := cell_of_row _ _ 0 _ _ _ hz1.out
  have p1 : w1.cell? ⟨W.heap.size, 1, none⟩ = some (.int .i64 x1) := cell_of_row _ _ 1 _ _ _ hz1.out
  have HK := Lib.hid hk1
  have HW1 : W.heap.size ≤ w1.heap.size := by omega
  generalize hXe : W.heap.size = X at *
  clear hz1 hs1 hk1
  go_wp2_with (refine stop_at (o := ⟨some 5, _, _, _, _, _⟩) ?_)
  refine Stop.mk ?_
  refine wpList_box_row rfl _ _ rfl [.int .i64 y0, .int .i64 y1] rfl ?_
  intro w2 hz2 hs2 hk2
  have q0 : w2.cell? ⟨w1.heap.size, 0, none⟩ = some (.int .i64 y0) := cell_of_row _ _ 0 _ _ _ hz2.out
  have q1 : w2.cell? ⟨w1.heap.size, 1, none⟩ = some (.int .i64 y1) := cell_of_row _ _ 1 _ _ _ hz2.out
  replace p0 := hk2.cell' p0
  replace p1 := hk2.cell' p1
  replace HK := Lib.hid (HK.out.trans hk2)
  generalize w1.heap.size = Yb at *
  clear hz2 hk2
  go_wp2_with (refine stop_at (o := ⟨some 6, _, _, _, _, _⟩) ?_)
  refine Stop.mk ?_
  refine wpList_alloc_abs rfl 36 rfl (u8s zeroB) zero_sec ?_
  intro w3 hz3 hs3 hn3 hk3
  have HZ3 := hz3
  have hXs : X ≤ w2.heap.size := by omega
  replace p0 := hk3.cell' p0
  replace p1 := hk3.cell' p1
  replace q0 := hk3.cell' q0
  replace q1 := hk3.cell' q1
  replace HK := Lib.hid (HK.out.trans hk3)
  generalize w2.heap.size = Z at *
  clear hz3 hs3 hn3 hk3 hs2
  go_wp2_with fail
  refine Calls.mono (st_read (HB.out.kept HK.out).1 HU.out x0 x1 HR.out) ?_
  rintro e w4 ⟨rfl, hb4, hk4⟩
  replace q0 := hk4.cell' q0
  replace q1 := hk4.cell' q1
  replace HK := Lib.hid (HK.out.trans hk4)
  replace HZ3 := Lib.hid (hk4.block HZ3.out)
  clear hb4 hk4 p0 p1
  go_wp2_with (refine stop_at (o := ⟨some 8, _, _, _, _, _⟩) ?_)
  refine Stop.mk ?_
  refine wpList_new_row rfl rfl _ _ rfl rfl ty_sec (u8s zeroB) zero_sec (by rw [u8s_length, zeroB_length]) (u8s xs) rfl (by rw [u8s_length, HX.out]) (u8s_one _) rfl ?_
  intro w5 hz5 hs5 hk5
  have hS0 : Z < w4.heap.size := (Array.getElem?_eq_some_iff.1 HZ3.out).1
  have HS5 := hz5
  replace q0 := hk5.cell' q0
  replace q1 := hk5.cell' q1
  replace HK := Lib.hid (HK.out.trans hk5)
  replace HZ3 := Lib.hid (hk5.block HZ3.out)
  generalize w4.heap.size = S at *
  clear hz5 hs5 hk5
  go_wp2_with fail
  refine Calls.mono (mirror_lost c _) ?_
  rintro e w' ⟨rfl, rfl⟩
  have hne : S ≠ Z := by omega
  have hlc : lostB c = false ∨ lostB c = true := by cases lostB c <;> simp
  rcases hlc with hlc | hlc
  · have hres := HRES.out
    rw [hlc, if_neg (by decide)] at hres
    obtain ⟨rfl, rfl⟩ : xs = zs ∧ c = cr := by cases hres; exact ⟨rfl, rfl⟩
    clear hres HRES
    go_wp2_with fail
    refine Calls.mono (mirror_lost c _) ?_
    rintro e w' ⟨rfl, rfl⟩
    go_wp2_with (refine stop_at (o := ⟨some 26, _, _, _, _, _⟩) ?_)
    refine Stop.mk ?_
    refine wpList_load_agg rfl _ rfl ty_sec S 0 rfl (u8s xs) (by simpa using Cells.of_block HS5.out) (by rw [u8s_length, HX.out]) ?_
    go_wp2_with (refine stop_at (o := ⟨none, .store _ _ _, _, _, _, _⟩) ?_)
    refine Stop.mk ?_
    refine wpList_store_agg rfl _ _ rfl ty_sec Z 0 rfl (u8s xs) rfl (by rw [u8s_length, HX.out]) (u8s_one _) (u8s zeroB) 36 HZ3.out (by simp [u8s_length, zeroB_length]) ?_
    intro w6 hw6
    replace hw6 := hw6.all (by rw [u8s_length, u8s_length, HX.out, zeroB_length])
    have hk6 := Lib.hid (hw6.kept HK.out (by omega))
    have HW6 := Lib.hid hw6
    clear hw6
    go_wp2
    refine bodyPost_ret (results_sec rfl _ _ Z xs rfl HW6.out.cells HX.out) rfl ⟨rfl, hk6.out⟩
  · go_wp2_with fail
    refine Calls.mono (st_read (HB.out.kept HK.out).1 HU.out y0 y1 HQ.out) ?_
    rintro e w6 ⟨rfl, hb6, hk6⟩
    replace HK := Lib.hid (HK.out.trans hk6)
    replace HZ3 := Lib.hid (hk6.block HZ3.out)
    replace HS5 := Lib.hid (hk6.block HS5.out)
    clear hb6 hk6 q0 q1
    go_wp2_with (refine stop_at (o := ⟨none, .store _ _ _, _, _, _, _⟩) ?_)
    refine Stop.mk ?_
    refine wpList_store_agg rfl _ _ rfl ty_sec S 0 rfl (u8s ys) rfl (by rw [u8s_length, HY.out]) (u8s_one _) (u8s xs) 36 HS5.out (by rw [u8s_length, HX.out]; decide) ?_
    intro w7 hw7
    replace hw7 := hw7.all (by rw [u8s_length, u8s_length, HX.out, HY.out])
    replace HK := Lib.hid (hw7.kept HK.out (by omega))
    replace HS5 := Lib.hid hw7.blk
    replace HZ3 := Lib.hid ((hw7.oth _ hne.symm).trans HZ3.out)
    clear hw7
    go_wp2_with fail
    refine Calls.mono (mirror_lost d _) ?_
    rintro e w' ⟨rfl, rfl⟩
    have hld : lostB d = false ∨ lostB d = true := by cases lostB d <;> simp
    rcases hld with hld | hld
    all_goals
      have hres := HRES.out
      rw [hlc, hld] at hres
      obtain ⟨rfl, hcr⟩ : ys = zs ∧ cr = (if lostB d then 5 else d) := by rw [hld]; cases hres; exact ⟨rfl, rfl⟩
      rw [hld] at hcr
      simp only [Bool.false_eq_true, if_false, if_true] at hcr
      subst hcr
      clear hres HRES
      go_wp2_with (refine stop_at (o := ⟨some 26, _, _, _, _, _⟩) ?_)
      refine Stop.mk ?_
      refine wpList_load_agg rfl _ rfl ty_sec S 0 rfl (u8s ys) (by simpa using Cells.of_block HS5.out) (by rw [u8s_length, HY.out]) ?_
      go_wp2_with (refine stop_at (o := ⟨none, .store _ _ _, _, _, _, _⟩) ?_)
      refine Stop.mk ?_
      refine wpList_store_agg rfl _ _ rfl ty_sec Z 0 rfl (u8s ys) rfl (by rw [u8s_length, HY.out]) (u8s_one _) (u8s zeroB) 36 HZ3.out (by simp [u8s_length, zeroB_length]) ?_
      intro w8 hw8
      replace hw8 := hw8.all (by rw [u8s_length, u8s_length, HY.out, zeroB_length])
      have hk8 := Lib.hid (hw8.kept HK.out (by omega))
      have HW8 := Lib.hid hw8
      clear hw8
      go_wp2
      refine bodyPost_ret (results_sec rfl _ _ Z ys rfl HW8.out.cells HY.out) rfl ⟨rfl, hk8.out⟩
end
end Go.Proofs.Ytcbghpcohbgcjaa
