/- EaA: several texts in one: Mia Mja Mid Mie Mij Mif Mih Mik. -/
import Derived.Test.YtglplhmclfekfaaLiv
import Derived.Test.YtglplhmclfekfaaMic
import Derived.Test.YtglplhmclfekfaaDlh
import Derived.Test.YtglplhmclfekfaaDlw
import Derived.Test.YtglplhmclfekfaaDlv
import Derived.ScopeJumps
import Derived.WalkMore
/- What the mirror makes of a bank, in plain Lean. -/
namespace Go.Proofs.Ytglplhmclfekfaa
open Go.RowKit
set_option linter.unusedVariables false
set_option linter.unusedSimpArgs false


/-- what mirror.Write does -/
def BankT.mWrite (T : BankT) (x0 x1 y0 y1 : Int) (s : List Int) : BankT × Int :=
  if (T.write x0 x1 s).2 ≠ 0 ∧ lostB (T.write x0 x1 s).2 = false then T.write x0 x1 s
  else if ((T.write x0 x1 s).1.write y0 y1 s).2 ≠ 0 ∧ lostB ((T.write x0 x1 s).1.write y0 y1 s).2 = false then (T.write x0 x1 s).1.write y0 y1 s
  else (((T.write x0 x1 s).1.write y0 y1 s).1, if (T.write x0 x1 s).2 = 0 ∨ ((T.write x0 x1 s).1.write y0 y1 s).2 = 0 then 0 else 5)
/-- what mirror.Read tells -/
def BankT.mRead (T : BankT) (x0 x1 y0 y1 : Int) : List Int × Int :=
  if lostB (T.read x0 x1).2 then (if lostB (T.read y0 y1).2 then ((T.read y0 y1).1, 5) else T.read y0 y1) else T.read x0 x1
/-- what mirror.Alike does -/
def BankT.mAlike (T : BankT) (x0 x1 y0 y1 : Int) : BankT × Bool × Int :=
  if (T.read x0 x1).2 ≠ 0 ∧ lostB (T.read x0 x1).2 = false then (T, false, (T.read x0 x1).2)
  else if (T.read y0 y1).2 ≠ 0 ∧ lostB (T.read y0 y1).2 = false then (T, false, (T.read y0 y1).2)
  else if (T.read x0 x1).2 ≠ 0 ∧ (T.read y0 y1).2 ≠ 0 then (T, false, 5)
  else if (T.read x0 x1).2 ≠ 0 ∨ (T.read y0 y1).2 ≠ 0 ∨ (T.read x0 x1).1 = (T.read y0 y1).1 then (T, false, 0)
  else if lostB (T.write y0 y1 (T.read x0 x1).1).2 then ((T.write y0 y1 (T.read x0 x1).1).1, false, 0)
  else ((T.write y0 y1 (T.read x0 x1).1).1, (T.write y0 y1 (T.read x0 x1).1).2 == 0, (T.write y0 y1 (T.read x0 x1).1).2)
/-- what mirror.Copy does -/
def BankT.mCopy (T : BankT) (x0 x1 y0 y1 : Int) : BankT × Int :=
  if (T.read x0 x1).2 ≠ 0 then (T, (T.read x0 x1).2) else T.write y0 y1 (T.read x0 x1).1
end Go.Proofs.Ytglplhmclfekfaa
/- A place in memory: rules. -/
namespace Go.Proofs.Ytglplhmclfekfaa
open Go.RowKit
set_option linter.unusedVariables false
set_option linter.unusedSimpArgs false

theorem one_plc (x y : Int) : ∀ u ∈ [Value.int .i64 x, .int .i64 y], u.oneCell' = true := by intro u hu; simp at hu; rcases hu with rfl | rfl <;> rfl
/-- a place lies in block b -/
def Pl (W : World) (b : Nat) (x y : Int) : Prop := W.cell? ⟨b, 0, none⟩ = some (.int .i64 x) ∧ W.cell? ⟨b, 1, none⟩ = some (.int .i64 y)
theorem Pl.kept {W W' : World} {b : Nat} {x y : Int} (h : Pl W b x y) (hk : Kept W W') : Pl W' b x y := ⟨hk.cell' h.1, hk.cell' h.2⟩
theorem Pl.same {W W' : World} {b : Nat} {x y : Int} (h : Pl W b x y) (hs : W'.heap[b]? = W.heap[b]?) : Pl W' b x y :=
  ⟨(World.cell?_of_block (a := ⟨b, 0, none⟩) hs).trans h.1, (World.cell?_of_block (a := ⟨b, 1, none⟩) hs).trans h.2⟩
theorem Pl.of {W : World} {b : Nat} {x y : Int} (h : W.heap[b]? = some (.cells [Value.int .i64 x, .int .i64 y].toArray 32 (0, 0))) : Pl W b x y := ⟨cell_of_row _ _ 0 _ _ _ h, cell_of_row _ _ 1 _ _ _ h⟩
theorem exec_load_plc {W : World} {a : Act} {o : Oper} (x : Operand) (ho : o.op = .load 32 x) (b : Nat) (hx : a.eval x = .pointer (some ⟨b, 0, none⟩)) (xs : List Value) (hl : xs.length = 2) (hc : Cells W b 0 xs) :
    (execOp a.eval o).run Try.prog W = .ok (.value (.agg xs.toArray)) W := by
  obtain ⟨⟨d, hd1, hd2⟩, hs⟩ := ty_plc
  unfold execOp
  simp only [ho, hx, Instr.loadAt, Instr.sureAddr, Sem.run_bind, Sem.run_pure, Result.andThen_ok, run_loadVar_mid W b 0 32 xs d (rangeAt_of_cells hc) hd1 hd2 (by rw [hs, hl])]
theorem exec_eq_plc {W : World} {a : Act} {o : Oper} (x y : Operand) {t' : TypeId} (ho : o.op = .binOp .eql 32 x y t') (p q r s : Int) (hx : a.eval x = .agg #[.int .i64 p, .int .i64 q]) (hy : a.eval y = .agg #[.int .i64 r, .int .i64 s]) :
    (execOp a.eval o).run Try.prog W = .ok (.value (.bool (p == r && q == s))) W := by
  have heq := run_equal_plc W p q r s
  unfold execOp
  simp only [ho, hx, hy, Sem.run_bind]
  rw [run_eqGuard_agg _ _ _ _ _ _ _ eqg_plc]
  simp only [Result.andThen_ok]
  rw [run_eql_struct]
  simp only [Op.equal, Op.maxDepth, heq, Result.andThen_ok, Sem.run_pure, Sem.run_bind]
section
variable {P : Program} {ops : Array Oper} {rest : List Oper} {o : Oper} {a : Act} {w : World} {Q : Exit → Act → World → Prop}
/-- a parameter of many cells that lies in a block of its own; the world a letter -/
theorem wpList_box_row (hgd : Region.wanted o (yielded ops a.tmps) = true) (T : TypeId) (x : Operand) (ho : o.op = .box T x) (zs : List Value) (hx : a.eval x = .agg zs.toArray)
    (h : ∀ w1, Hid (w1.heap[w.heap.size]? = some (.cells zs.toArray T (0, 0))) → w.heap.size < w1.heap.size → Kept w w1 → wpList P ops Q rest (a.put o.dst (.pointer (some ⟨w.heap.size, 0, none⟩))) w1) : wpList P ops Q (o :: rest) a w := by
  refine BigFrame.wpList_want hgd fun K hK => ?_
  unfold Oper.wp execOp
  simp only [ho, hx, Instr.box, newVar, newRow, Sem.run_bind, Result.andThen_ok, Sem.run_pure, run_newObj_alloc, Value.cells]
  exact hK _ _ (h _ (Lib.hid (heap_alloc_new w _)) (by simp) ((Kept.refl _).alloc _))
end
theorem BankT.inE_zero {T : BankT} {d a : Int} (h : T.inE d a = 0) : ∃ k b : Nat, d = (k : Int) ∧ a = (b : Int) ∧ k < T.l.length ∧ b < (T.d k).sin.length := by
  unfold BankT.inE at h
  by_cases hr : T.readyE d ≠ 0
  · rw [if_pos hr] at h; exact absurd h hr
  · rw [if_neg hr] at h
    obtain ⟨k, rfl, hk⟩ := BankT.readyE_in (by simpa using hr)
    rw [Int.toNat_natCast] at h
    by_cases hb : a < 0 ∨ ((T.d k).sin.length : Int) ≤ a
    · rw [if_pos hb] at h; cases h
    · exact ⟨k, a.toNat, rfl, by omega, hk, by omega⟩
theorem zeroB_byte : zeroB.length = 64 ∧ ∀ x ∈ zeroB, IsByte x := by
  refine ⟨zeroB_length, fun x hx => ?_⟩
  have : x = 0 := List.eq_of_mem_replicate (n := 64) (by rw [show List.replicate 64 (0 : Int) = zeroB by decide]; exact hx)
  rw [this]; unfold IsByte; decide
theorem BankT.read_sec {T : BankT} (h : T.Inv) (d a : Int) : (T.read d a).1.length = 64 ∧ ∀ x ∈ (T.read d a).1, IsByte x := by
  unfold BankT.read
  by_cases hi : T.inE d a = 0
  · obtain ⟨k, b, rfl, rfl, hk, hb⟩ := BankT.inE_zero hi
    rw [if_pos hi, Int.toNat_natCast, Int.toNat_natCast]
    exact (h.ok.d hk).new.at hb
  · rw [if_neg hi]; exact zeroB_byte
section
variable {w0 W : World} {R : Nat → Prop} {q : Nat} {T : BankT}
theorem BK.box {w1 : World} (h : BK w0 R W q T) (hk : Kept W w1) (hs : W.heap.size < w1.heap.size) : BK w0 (fun k => R k ∨ k = W.heap.size) w1 q T := h.more hk _ (Nat.le_refl _) hs
end
end Go.Proofs.Ytglplhmclfekfaa
/- mirror: Copy and Read on a law's bank. -/
namespace Go.Proofs.Ytglplhmclfekfaa
open Go.RowKit
set_option linter.unusedVariables false
set_option linter.unusedSimpArgs false

section
variable {w0 W : World} {R : Nat → Prop} {q : Nat} {T : BankT}
set_option maxHeartbeats 2000000
set_option maxRecDepth 100000
theorem m_Copy (h : BK w0 R W q T) (u : T.Use) (x0 x1 y0 y1 : Int) :
    Calls Try.prog 105 #[.pointer (some ⟨q, 0, none⟩), .agg #[.int .i64 x0, .int .i64 x1], .agg #[.int .i64 y0, .int .i64 y1]] W fun e w' => e = .returned (.int .i64 (T.mCopy x0 x1 y0 y1).2) ∧ BK w0 R w' q (T.mCopy x0 x1 y0 y1).1 ∧ SameR R W w' := by
  obtain ⟨xs, c, hr⟩ : ∃ xs c, T.read x0 x1 = (xs, c) := ⟨_, _, rfl⟩
  have hx64 : xs.length = 64 := by have := (BankT.read_sec u.inv x0 x1).1; rw [hr] at this; exact this
  unfold BankT.mCopy
  rw [hr]
  obtain ⟨T', c', hw⟩ : ∃ T' c', T.write y0 y1 xs = (T', c') := ⟨_, _, rfl⟩
  simp only []
  rw [hw]
  obtain ⟨Tr, cr, hres⟩ : ∃ Tr cr, (if c ≠ 0 then (T, c) else (T', c')) = (Tr, cr) := ⟨_, _, rfl⟩
  rw [hres]
  have HR := Lib.hid hr; have HW := Lib.hid hw; have HX := Lib.hid hx64; have HU := Lib.hid u; have HB := Lib.hid h; have HRES := Lib.hid hres
  clear hr hw hx64 u h hres
  go_enter Try.func105, Try.ntmps105
  go_wp2_with (refine stop_at (o := ⟨some 4, _, _, _, _, _⟩) ?_)
  refine Stop.mk ?_
  refine wpList_box_row rfl _ _ rfl [.int .i64 x0, .int .i64 x1] rfl ?_
  intro w1 hz1 hs1 hk1
  have p0 : w1.cell? ⟨W.heap.size, 0, none⟩ = some (.int .i64 x0) := cell_of_row _ _ 0 _ _ _ hz1.out
  have p1 : w1.cell? ⟨W.heap.size, 1, none⟩ = some (.int .i64 x1) := cell_of_row _ _ 1 _ _ _ hz1.out
  have HB1 := Lib.hid (HB.out.box hk1 hs1)
  have HS := Lib.hid (show SameR R W w1 from (HB.out.kept hk1).2)
  generalize W.heap.size = X at *
  clear hz1 hs1 hk1
  go_wp2_with (refine stop_at (o := ⟨some 5, _, _, _, _, _⟩) ?_)
  refine Stop.mk ?_
  refine wpList_box_row rfl _ _ rfl [.int .i64 y0, .int .i64 y1] rfl ?_
  intro w2 hz2 hs2 hk2
  have q0 : w2.cell? ⟨w1.heap.size, 0, none⟩ = some (.int .i64 y0) := cell_of_row _ _ 0 _ _ _ hz2.out
  have q1 : w2.cell? ⟨w1.heap.size, 1, none⟩ = some (.int .i64 y1) := cell_of_row _ _ 1 _ _ _ hz2.out
  replace p0 := hk2.cell' p0
  replace p1 := hk2.cell' p1
  have HB2 := Lib.hid (HB1.out.box hk2 hs2)
  replace HS := Lib.hid (show SameR R W w2 from HS.out.trans fun k hk => (HB1.out.kept hk2).2 k (.inl hk))
  generalize w1.heap.size = Yb at *
  clear hz2 hs2 hk2 HB1 HB
  go_wp2_with fail
  refine Calls.mono (st_read HB2.out HU.out x0 x1 HR.out) ?_
  rintro e w3 ⟨rfl, hb3, hk3⟩
  have HB3 := Lib.hid hb3
  replace q0 := hk3.cell' q0
  replace q1 := hk3.cell' q1
  replace HS := Lib.hid (show SameR R W w3 from HS.out.trans fun k hk => (HB2.out.kept hk3).2 k (.inl (.inl hk)))
  clear hb3 hk3 HB2 p0 p1
  go_wp2_with (refine stop_at (o := ⟨some 7, _, _, _, _, _⟩) ?_)
  refine Stop.mk ?_
  refine wpList_new_row rfl rfl _ _ rfl rfl ty_sec (u8s zeroB) zero_sec (by rw [u8s_length, zeroB_length]) (u8s xs) rfl (by rw [u8s_length, HX.out]) (u8s_one _) rfl ?_
  intro w4 hz4 hs4 hk4
  have HB4 := Lib.hid (HB3.out.kept hk4).1
  have HX4 := hz4
  replace q0 := hk4.cell' q0
  replace q1 := hk4.cell' q1
  replace HS := Lib.hid (show SameR R W w4 from HS.out.trans fun k hk => (HB3.out.kept hk4).2 k (.inl (.inl hk)))
  clear hz4 hs4 hk4 HB3
  by_cases hc : c = 0
  · subst hc
    have hres := HRES.out
    rw [if_neg (by decide)] at hres
    obtain ⟨rfl, rfl⟩ : T' = Tr ∧ c' = cr := by cases hres; exact ⟨rfl, rfl⟩
    clear hres HRES
    go_wp2_with (refine stop_at (o := ⟨some 20, _, _, _, _, _⟩) ?_)
    refine Stop.mk ?_
    refine wpList_load_agg rfl _ rfl ty_sec w3.heap.size 0 rfl (u8s xs) (by simpa using Cells.of_block HX4.out) (by rw [u8s_length, HX.out]) ?_
    go_wp2_with fail
    refine Calls.mono (st_writeE HB4.out HU.out y0 y1 HX.out HW.out) ?_
    rintro e w5 ⟨rfl, hb5, hs5⟩
    go_wp2
    go_ret
    exact ⟨rfl, hb5.less (fun k hk => .inl (.inl hk)), HS.out.trans fun k hk => hs5 k (.inl (.inl hk))⟩
  · have hres := HRES.out
    rw [if_pos hc] at hres
    obtain ⟨rfl, rfl⟩ : T = Tr ∧ c = cr := by cases hres; exact ⟨rfl, rfl⟩
    clear hres HRES
    have hcb : (c == 0) = false := by simpa using hc
    go_wp2
    go_ret
    exact ⟨rfl, HB4.out.less (fun k hk => .inl (.inl hk)), HS.out⟩
theorem m_Read (h : BK w0 R W q T) (u : T.Use) (x0 x1 y0 y1 : Int) :
    Calls Try.prog 99 #[.pointer (some ⟨q, 0, none⟩), .agg #[.int .i64 x0, .int .i64 x1], .agg #[.int .i64 y0, .int .i64 y1]] W fun e w' => e = .returned (.tuple #[.agg (u8s (T.mRead x0 x1 y0 y1).1).toArray, .int .i64 (T.mRead x0 x1 y0 y1).2]) ∧ BK w0 R w' q T ∧ SameR R W w' ∧ Kept W w' := by
  obtain ⟨xs, c, hr⟩ : ∃ xs c, T.read x0 x1 = (xs, c) := ⟨_, _, rfl⟩
  have hx64 : xs.length = 64 := by have := (BankT.read_sec u.inv x0 x1).1; rw [hr] at this; exact this
  obtain ⟨ys, d, hq⟩ : ∃ ys d, T.read y0 y1 = (ys, d) := ⟨_, _, rfl⟩
  have hy64 : ys.length = 64 := by have := (BankT.read_sec u.inv y0 y1).1; rw [hq] at this; exact this
  unfold BankT.mRead
  rw [hr, hq]
  simp only []
  suffices hh : Calls Try.prog 99 #[.pointer (some ⟨q, 0, none⟩), .agg #[.int .i64 x0, .int .i64 x1], .agg #[.int .i64 y0, .int .i64 y1]] W fun e w' => e = .returned (.tuple #[.agg (u8s (if lostB c then (if lostB d then (ys, (5 : Int)) else (ys, d)) else (xs, c)).1).toArray, .int .i64 (if lostB c then (if lostB d then (ys, (5 : Int)) else (ys, d)) else (xs, c)).2]) ∧ Kept W w' from
    hh.mono fun e w' ⟨he, hk⟩ => ⟨he, (h.kept hk).1, (h.kept hk).2, hk⟩
  obtain ⟨zs, cr, hres⟩ : ∃ zs cr, (if lostB c then (if lostB d then (ys, (5 : Int)) else (ys, d)) else (xs, c)) = (zs, cr) := ⟨_, _, rfl⟩
  rw [hres]
  have HRES := Lib.hid hres; clear hres
  have HR := Lib.hid hr; have HQ := Lib.hid hq; have HX := Lib.hid hx64; have HY := Lib.hid hy64; have HU := Lib.hid u; have HB := Lib.hid h
  clear hr hq hx64 hy64 u h
  go_enter Try.func99, Try.ntmps99
  go_wp2_with (refine stop_at (o := ⟨some 4, _, _, _, _, _⟩) ?_)
  refine Stop.mk ?_
  refine wpList_box_row rfl _ _ rfl [.int .i64 x0, .int .i64 x1] rfl ?_
  intro w1 hz1 hs1 hk1
  have p0 : w1.cell? ⟨W.heap.size, 0, none⟩ = some (.int .i64 x0) := cell_of_row _ _ 0 _ _ _ hz1.out
  have p1 : w1.cell? ⟨W.heap.size, 1, none⟩ = some (.int .i64 x1) := cell_of_row _ _ 1 _ _ _ hz1.out
  have HK := Lib.hid hk1
  have HW1 : W.heap.size ≤ w1.heap.size := by omega
  generalize hXe : W.heap.size = X at *
  clear hz1 hs1 hk1
  go_wp2_with (refine stop_at (o := ⟨some 5, _, _, _, _, _⟩) ?_)
  refine Stop.mk ?_
  refine wpList_box_row rfl _ _ rfl [.int .i64 y0, .int .i64 y1] rfl ?_
  intro w2 hz2 hs2 hk2
  have q0 : w2.cell? ⟨w1.heap.size, 0, none⟩ = some (.int .i64 y0) := cell_of_row _ _ 0 _ _ _ hz2.out
  have q1 : w2.cell? ⟨w1.heap.size, 1, none⟩ = some (.int .i64 y1) := cell_of_row _ _ 1 _ _ _ hz2.out
  replace p0 := hk2.cell' p0
  replace p1 := hk2.cell' p1
  replace HK := Lib.hid (HK.out.trans hk2)
  generalize w1.heap.size = Yb at *
  clear hz2 hk2
  go_wp2_with (refine stop_at (o := ⟨some 6, _, _, _, _, _⟩) ?_)
  refine Stop.mk ?_
  refine wpList_alloc_abs rfl 34 rfl (u8s zeroB) zero_sec ?_
  intro w3 hz3 hs3 hn3 hk3
  have HZ3 := hz3
  have hXs : X ≤ w2.heap.size := by omega
  replace p0 := hk3.cell' p0
  replace p1 := hk3.cell' p1
  replace q0 := hk3.cell' q0
  replace q1 := hk3.cell' q1
  replace HK := Lib.hid (HK.out.trans hk3)
  generalize w2.heap.size = Z at *
  clear hz3 hs3 hn3 hk3 hs2
  go_wp2_with fail
  refine Calls.mono (st_read (HB.out.kept HK.out).1 HU.out x0 x1 HR.out) ?_
  rintro e w4 ⟨rfl, hb4, hk4⟩
  replace q0 := hk4.cell' q0
  replace q1 := hk4.cell' q1
  replace HK := Lib.hid (HK.out.trans hk4)
  replace HZ3 := Lib.hid (hk4.block HZ3.out)
  clear hb4 hk4 p0 p1
  go_wp2_with (refine stop_at (o := ⟨some 8, _, _, _, _, _⟩) ?_)
  refine Stop.mk ?_
  refine wpList_new_row rfl rfl _ _ rfl rfl ty_sec (u8s zeroB) zero_sec (by rw [u8s_length, zeroB_length]) (u8s xs) rfl (by rw [u8s_length, HX.out]) (u8s_one _) rfl ?_
  intro w5 hz5 hs5 hk5
  have hS0 : Z < w4.heap.size := (Array.getElem?_eq_some_iff.1 HZ3.out).1
  have HS5 := hz5
  replace q0 := hk5.cell' q0
  replace q1 := hk5.cell' q1
  replace HK := Lib.hid (HK.out.trans hk5)
  replace HZ3 := Lib.hid (hk5.block HZ3.out)
  generalize w4.heap.size = S at *
  clear hz5 hs5 hk5
  go_wp2_with fail
  refine Calls.mono (mirror_lost c _) ?_
  rintro e w' ⟨rfl, rfl⟩
  have hne : S ≠ Z := by omega
  have hlc : lostB c = false ∨ lostB c = true := by cases lostB c <;> simp
  rcases hlc with hlc | hlc
  · have hres := HRES.out
    rw [hlc, if_neg (by decide)] at hres
    obtain ⟨rfl, rfl⟩ : xs = zs ∧ c = cr := by cases hres; exact ⟨rfl, rfl⟩
    clear hres HRES
    go_wp2_with fail
    refine Calls.mono (mirror_lost c _) ?_
    rintro e w' ⟨rfl, rfl⟩
    go_wp2_with (refine stop_at (o := ⟨some 26, _, _, _, _, _⟩) ?_)
    refine Stop.mk ?_
    refine wpList_load_agg rfl _ rfl ty_sec S 0 rfl (u8s xs) (by simpa using Cells.of_block HS5.out) (by rw [u8s_length, HX.out]) ?_
    go_wp2_with (refine stop_at (o := ⟨none, .store _ _ _, _, _, _, _⟩) ?_)
    refine Stop.mk ?_
    refine wpList_store_agg rfl _ _ rfl ty_sec Z 0 rfl (u8s xs) rfl (by rw [u8s_length, HX.out]) (u8s_one _) (u8s zeroB) 34 HZ3.out (by simp [u8s_length, zeroB_length]) ?_
    intro w6 hw6
    replace hw6 := hw6.all (by rw [u8s_length, u8s_length, HX.out, zeroB_length])
    have hk6 := Lib.hid (hw6.kept HK.out (by omega))
    have HW6 := Lib.hid hw6
    clear hw6
    go_wp2
    refine bodyPost_ret (results_sec rfl _ _ Z xs rfl HW6.out.cells HX.out) rfl ⟨rfl, hk6.out⟩
  · go_wp2_with fail
    refine Calls.mono (st_read (HB.out.kept HK.out).1 HU.out y0 y1 HQ.out) ?_
    rintro e w6 ⟨rfl, hb6, hk6⟩
    replace HK := Lib.hid (HK.out.trans hk6)
    replace HZ3 := Lib.hid (hk6.block HZ3.out)
    replace HS5 := Lib.hid (hk6.block HS5.out)
    clear hb6 hk6 q0 q1
    go_wp2_with (refine stop_at (o := ⟨none, .store _ _ _, _, _, _, _⟩) ?_)
    refine Stop.mk ?_
    refine wpList_store_agg rfl _ _ rfl ty_sec S 0 rfl (u8s ys) rfl (by rw [u8s_length, HY.out]) (u8s_one _) (u8s xs) 34 HS5.out (by rw [u8s_length, HX.out]; decide) ?_
    intro w7 hw7
    replace hw7 := hw7.all (by rw [u8s_length, u8s_length, HX.out, HY.out])
    replace HK := Lib.hid (hw7.kept HK.out (by omega))
    replace HS5 := Lib.hid hw7.blk
    replace HZ3 := Lib.hid ((hw7.oth _ hne.symm).trans HZ3.out)
    clear hw7
    go_wp2_with fail
    refine Calls.mono (mirror_lost d _) ?_
    rintro e w' ⟨rfl, rfl⟩
    have hld : lostB d = false ∨ lostB d = true := by cases lostB d <;> simp
    rcases hld with hld | hld
    all_goals
      have hres := HRES.out
      rw [hlc, hld] at hres
      obtain ⟨rfl, hcr⟩ : ys = zs ∧ cr = (if lostB d then 5 else d) := by rw [hld]; cases hres; exact ⟨rfl, rfl⟩
      rw [hld] at hcr
      simp only [Bool.false_eq_true, if_false, if_true] at hcr
      subst hcr
      clear hres HRES
      go_wp2_with (refine stop_at (o := ⟨some 26, _, _, _, _, _⟩) ?_)
      refine Stop.mk ?_
      refine wpList_load_agg rfl _ rfl ty_sec S 0 rfl (u8s ys) (by simpa using Cells.of_block HS5.out) (by rw [u8s_length, HY.out]) ?_
      go_wp2_with (refine stop_at (o := ⟨none, .store _ _ _, _, _, _, _⟩) ?_)
      refine Stop.mk ?_
      refine wpList_store_agg rfl _ _ rfl ty_sec Z 0 rfl (u8s ys) rfl (by rw [u8s_length, HY.out]) (u8s_one _) (u8s zeroB) 34 HZ3.out (by simp [u8s_length, zeroB_length]) ?_
      intro w8 hw8
      replace hw8 := hw8.all (by rw [u8s_length, u8s_length, HY.out, zeroB_length])
      have hk8 := Lib.hid (hw8.kept HK.out (by omega))
      have HW8 := Lib.hid hw8
      clear hw8
      go_wp2
      refine bodyPost_ret (results_sec rfl _ _ Z ys rfl HW8.out.cells HY.out) rfl ⟨rfl, hk8.out⟩
end
end Go.Proofs.Ytglplhmclfekfaa
/- mirror: Write on a law's bank. -/
namespace Go.Proofs.Ytglplhmclfekfaa
open Go.RowKit
set_option linter.unusedVariables false
set_option linter.unusedSimpArgs false

section
variable {w0 W : World} {R : Nat → Prop} {q : Nat} {T : BankT}
set_option maxHeartbeats 2000000
set_option maxRecDepth 100000
theorem m_Write (h : BK w0 R W q T) (u : T.Use) (x0 x1 y0 y1 : Int) {s : List Int} (hs : s.length = 64) (u1 : (T.write x0 x1 s).1.Use) :
    Calls Try.prog 97 #[.pointer (some ⟨q, 0, none⟩), .agg #[.int .i64 x0, .int .i64 x1], .agg #[.int .i64 y0, .int .i64 y1], .agg (u8s s).toArray] W fun e w' => e = .returned (.int .i64 (T.mWrite x0 x1 y0 y1 s).2) ∧ BK w0 R w' q (T.mWrite x0 x1 y0 y1 s).1 ∧ SameR R W w' := by
  obtain ⟨T1, c, hw⟩ : ∃ T1 c, T.write x0 x1 s = (T1, c) := ⟨_, _, rfl⟩
  unfold BankT.mWrite
  rw [hw] at u1 ⊢
  simp only [] at u1 ⊢
  obtain ⟨T2, d, hw2⟩ : ∃ T2 d, T1.write y0 y1 s = (T2, d) := ⟨_, _, rfl⟩
  rw [hw2]
  simp only []
  obtain ⟨Tr, cr, hres⟩ : ∃ Tr cr, (if c ≠ 0 ∧ lostB c = false then (T1, c) else if d ≠ 0 ∧ lostB d = false then (T2, d) else (T2, if c = 0 ∨ d = 0 then (0 : Int) else 5)) = (Tr, cr) := ⟨_, _, rfl⟩
  rw [hres]
  have HW1 := Lib.hid hw; have HW2 := Lib.hid hw2; have HX := Lib.hid hs; have HU := Lib.hid u; have HU1 := Lib.hid u1; have HB := Lib.hid h; have HRES := Lib.hid hres
  clear hw hw2 hs u u1 h hres
  go_enter Try.func97, Try.ntmps97
  go_wp2_with (refine stop_at (o := ⟨some 5, _, _, _, _, _⟩) ?_)
  refine Stop.mk ?_
  refine wpList_box_row rfl _ _ rfl [.int .i64 x0, .int .i64 x1] rfl ?_
  intro w1 hz1 hs1 hk1
  have p0 : w1.cell? ⟨W.heap.size, 0, none⟩ = some (.int .i64 x0) := cell_of_row _ _ 0 _ _ _ hz1.out
  have p1 : w1.cell? ⟨W.heap.size, 1, none⟩ = some (.int .i64 x1) := cell_of_row _ _ 1 _ _ _ hz1.out
  have HB1 := Lib.hid (HB.out.box hk1 hs1)
  have HS := Lib.hid (show SameR R W w1 from (HB.out.kept hk1).2)
  generalize W.heap.size = X at *
  clear hz1 hs1 hk1
  go_wp2_with (refine stop_at (o := ⟨some 6, _, _, _, _, _⟩) ?_)
  refine Stop.mk ?_
  refine wpList_box_row rfl _ _ rfl [.int .i64 y0, .int .i64 y1] rfl ?_
  intro w2 hz2 hs2 hk2
  have HY2 := hz2
  replace p0 := hk2.cell' p0
  replace p1 := hk2.cell' p1
  have HB2 := Lib.hid (HB1.out.box hk2 hs2)
  replace HS := Lib.hid (show SameR R W w2 from HS.out.trans fun k hk => (HB1.out.kept hk2).2 k (.inl hk))
  generalize w1.heap.size = Yb at *
  clear hz2 hs2 hk2 HB1 HB
  go_wp2_with (refine stop_at (o := ⟨some 7, _, _, _, _, _⟩) ?_)
  refine Stop.mk ?_
  refine wpList_box_row rfl _ _ rfl (u8s s) rfl ?_
  intro w3 hz3 hs3 hk3
  have HZ3 := hz3
  replace HY2 := Lib.hid (hk3.block HY2.out)
  replace p0 := hk3.cell' p0
  replace p1 := hk3.cell' p1
  have HB3 := Lib.hid (HB2.out.box hk3 hs3)
  replace HS := Lib.hid (show SameR R W w3 from HS.out.trans fun k hk => (HB2.out.kept hk3).2 k (.inl (.inl hk)))
  generalize w2.heap.size = Z at *
  clear hz3 hs3 hk3 HB2
  go_wp2_with fail
  refine wp_scope_jumps 0 (fun a' w' => ∃ (ans : Int) (P : Nat) (v12 v13 v14 v15 v16 v17 v18 v19 v20 v21 v22 v23 v24 v25 v26 v27 v28 : Value), a' = { tmps := #[.pointer (some ⟨q, 0, none⟩), .agg #[.int .i64 x0, .int .i64 x1], .agg #[.int .i64 y0, .int .i64 y1], .agg (u8s s).toArray, undef, .pointer (some ⟨X, 0, none⟩), .pointer (some ⟨Yb, 0, none⟩), .pointer (some ⟨Z, 0, none⟩), .int .i64 0, .int .i64 ans, .pointer (some ⟨P, 0, none⟩), .bool true, v12, v13, v14, v15, v16, v17, v18, v19, v20, v21, v22, v23, v24, v25, v26, v27, v28, undef], defers := [] } ∧
    Hid (BK w0 (fun k => (((R k ∨ k = X) ∨ k = Yb) ∨ k = Z) ∨ k = P) w' q T1) ∧ Hid (SameR R W w') ∧ Hid (w'.heap[P]? = some (.cells [.int .i64 y0, .int .i64 y1].toArray 32 (0, 0))) ∧ Hid (w'.heap[Z]? = some (.cells (u8s s).toArray 34 (0, 0))) ∧ (c = 0 ∧ ans = 0 ∨ lostB c = true ∧ c ≠ 0 ∧ ans = 5))
    (fun a' _ => match a'.tmps.getD 11 undef with | .bool true => 0 | _ => 1) rfl ?_ ?_
  · go_wp2_with (refine stop_at (o := ⟨some 10, _, _, _, _, _⟩) ?_)
    refine Stop.mk ?_
    refine wpList_new_row rfl rfl _ _ rfl rfl ty_plc _ zero_plc rfl [.int .i64 x0, .int .i64 x1] rfl rfl (by intro u hu; simp at hu; rcases hu with rfl | rfl <;> rfl) rfl ?_
    intro w4 hz4 hs4 hk4
    have HP4 := hz4
    have r0 : w4.cell? ⟨w3.heap.size, 0, none⟩ = some (.int .i64 x0) := cell_of_row _ _ 0 _ _ _ hz4.out
    have r1 : w4.cell? ⟨w3.heap.size, 1, none⟩ = some (.int .i64 x1) := cell_of_row _ _ 1 _ _ _ hz4.out
    replace HY2 := Lib.hid (hk4.block HY2.out)
    replace HZ3 := Lib.hid (hk4.block HZ3.out)
    have HB4 := Lib.hid (HB3.out.box hk4 hs4)
    replace HS := Lib.hid (show SameR R W w4 from HS.out.trans fun k hk => (HB3.out.kept hk4).2 k (.inl (.inl (.inl hk))))
    have HPZ : Hid (w3.heap.size ≠ Z ∧ w3.heap.size ≠ Yb) := Lib.hid ⟨fun e => by have := (HB3.out.kept (Kept.refl _)).1; obtain ⟨_, _, hb⟩ := this; have := (hb.off Z (.inr rfl)).1; omega, fun e => by have := (HB3.out.kept (Kept.refl _)).1; obtain ⟨_, _, hb⟩ := this; have := (hb.off Yb (.inl (.inr rfl))).1; omega⟩
    have HP0 : Hid (w0.heap.size ≤ w3.heap.size) := Lib.hid HB3.out.keeps.size
    have HRP : Hid (∀ k, R k → k ≠ w3.heap.size) := Lib.hid fun k hk e => by have := (HB3.out.kept (Kept.refl _)).1; obtain ⟨_, _, hb⟩ := this; have := (hb.off k (.inl (.inl (.inl hk)))).1; omega
    generalize w3.heap.size = P at *
    clear hz4 hs4 hk4 HB3 p0 p1
    go_wp2_with fail
    go_step3
    go_wp2_with (refine stop_at (o := ⟨some 16, _, _, _, _, _⟩) ?_)
    refine Stop.mk ?_
    refine wpList_load_agg rfl _ rfl ty_sec Z 0 rfl (u8s s) (by simpa using Cells.of_block HZ3.out) (by rw [u8s_length, HX.out]) ?_
    go_wp2_with fail
    refine Calls.mono (st_writeE HB4.out HU.out x0 x1 HX.out HW1.out) ?_
    rintro e w5 ⟨rfl, hb5, hr5⟩
    have HB5 := Lib.hid hb5
    replace HS := Lib.hid (show SameR R W w5 from HS.out.trans fun k hk => hr5 k (.inl (.inl (.inl (.inl hk)))))
    replace HZ3 := Lib.hid ((hr5 Z (.inl (.inr rfl))).trans HZ3.out)
    replace HY2 := Lib.hid ((hr5 Yb (.inl (.inl (.inr rfl)))).trans HY2.out)
    replace HP4 := Lib.hid ((hr5 P (.inr rfl)).trans HP4.out)
    have q0 : w5.cell? ⟨Yb, 0, none⟩ = some (.int .i64 y0) := cell_of_row _ _ 0 _ _ _ HY2.out
    have q1 : w5.cell? ⟨Yb, 1, none⟩ = some (.int .i64 y1) := cell_of_row _ _ 1 _ _ _ HY2.out
    clear hb5 hr5 HB4 r0 r1
    by_cases hc : c = 0
    · have hcb : (c == 0) = true := by simp [hc]
      go_wp2_with (refine stop_at (o := ⟨none, .store _ _ _, _, _, _, _⟩) ?_)
      refine Stop.mk ?_
      refine wpList_store_agg rfl _ _ rfl ty_plc P 0 rfl [.int .i64 y0, .int .i64 y1] rfl rfl (by intro u hu; simp at hu; rcases hu with rfl | rfl <;> rfl) _ _ HP4.out (by simp) ?_
      intro w6 hw6
      replace hw6 := hw6.all rfl
      have HB6 := Lib.hid (HB5.out.wrote hw6 (.inr rfl) HP0.out)
      have HS6 := Lib.hid (show SameR R W w6 from HS.out.trans (BK.wrote_same hw6 (fun k hk e => HRP.out k hk e)))
      have HZ6 := Lib.hid ((hw6.oth Z HPZ.out.1.symm).trans HZ3.out)
      have HP6 := Lib.hid hw6.blk
      clear hw6
      go_wp2
      go_step3
      exact ⟨rfl, 0, P, _, _, _, _, _, _, _, _, _, _, _, _, _, _, _, _, _, rfl, HB6, HS6, HP6, HZ6, .inl ⟨hc, rfl⟩⟩
    · have hcb : (c == 0) = false := by simpa using hc
      go_wp2_with fail
      refine Calls.mono (mirror_lost c _) ?_
      rintro e w' ⟨rfl, rfl⟩
      have hlc : lostB c = false ∨ lostB c = true := by cases lostB c <;> simp
      rcases hlc with hlc | hlc
      · have hres := HRES.out
        rw [if_pos ⟨hc, hlc⟩] at hres
        obtain ⟨rfl, rfl⟩ : T1 = Tr ∧ c = cr := by cases hres; exact ⟨rfl, rfl⟩
        clear hres HRES
        go_wp2
        simp only [Exit.jump]
        go_ret
        exact ⟨rfl, HB5.out.less (fun k hk => .inl (.inl (.inl (.inl hk)))), HS.out⟩
      · have HLC := Lib.hid hlc
        go_wp2_with (refine stop_at (o := ⟨none, .store _ _ _, _, _, _, _⟩) ?_)
        refine Stop.mk ?_
        refine wpList_store_agg rfl _ _ rfl ty_plc P 0 rfl [.int .i64 y0, .int .i64 y1] rfl rfl (by intro u hu; simp at hu; rcases hu with rfl | rfl <;> rfl) _ _ HP4.out (by simp) ?_
        intro w6 hw6
        replace hw6 := hw6.all rfl
        have HB6 := Lib.hid (HB5.out.wrote hw6 (.inr rfl) HP0.out)
        have HS6 := Lib.hid (show SameR R W w6 from HS.out.trans (BK.wrote_same hw6 (fun k hk e => HRP.out k hk e)))
        have HZ6 := Lib.hid ((hw6.oth Z HPZ.out.1.symm).trans HZ3.out)
        have HP6 := Lib.hid hw6.blk
        clear hw6
        go_wp2
        go_step3
        exact ⟨rfl, 5, P, _, _, _, _, _, _, _, _, _, _, _, _, _, _, _, _, _, rfl, HB6, HS6, HP6, HZ6, .inr ⟨HLC.out, hc, rfl⟩⟩
  · rintro a' w5 ⟨ans, P, v12, v13, v14, v15, v16, v17, v18, v19, v20, v21, v22, v23, v24, v25, v26, v27, v28, rfl, HB5, HS, HP5, HZ5, hans⟩
    have r0 : w5.cell? ⟨P, 0, none⟩ = some (.int .i64 y0) := cell_of_row _ _ 0 _ _ _ HP5.out
    have r1 : w5.cell? ⟨P, 1, none⟩ = some (.int .i64 y1) := cell_of_row _ _ 1 _ _ _ HP5.out
    have HAN := Lib.hid hans
    clear hans p0 p1
    go_wp2_with (refine stop_at (o := ⟨some 16, _, _, _, _, _⟩) ?_)
    refine Stop.mk ?_
    refine wpList_load_agg rfl _ rfl ty_sec Z 0 rfl (u8s s) (by simpa using Cells.of_block HZ5.out) (by rw [u8s_length, HX.out]) ?_
    go_wp2_with fail
    refine Calls.mono (st_writeE HB5.out HU1.out y0 y1 HX.out HW2.out) ?_
    rintro e w6 ⟨rfl, hb6, hr6⟩
    have HB6 := Lib.hid hb6
    replace HS := Lib.hid (show SameR R W w6 from HS.out.trans fun k hk => hr6 k (.inl (.inl (.inl (.inl hk)))))
    clear hb6 hr6 HB5 r0 r1
    have hcl : ¬ (c ≠ 0 ∧ lostB c = false) := by
      rcases HAN.out with ⟨h1, _⟩ | ⟨h1, _, _⟩
      · exact fun h => h.1 h1
      · intro h; rw [h1] at h; cases h.2
    by_cases hd : d = 0
    · have hdb : (d == 0) = true := by simp [hd]
      have hres := HRES.out
      rw [if_neg hcl, if_neg (fun h => h.1 hd), if_pos (.inr hd)] at hres
      obtain ⟨rfl, rfl⟩ : T2 = Tr ∧ cr = 0 := by cases hres; exact ⟨rfl, rfl⟩
      clear hres HRES hcl
      go_wp2
      simp only [Exit.jump]
      go_ret
      exact ⟨rfl, HB6.out.less (fun k hk => .inl (.inl (.inl (.inl hk)))), HS.out⟩
    · have hdb : (d == 0) = false := by simpa using hd
      go_wp2_with fail
      refine Calls.mono (mirror_lost d _) ?_
      rintro e w' ⟨rfl, rfl⟩
      have hld : lostB d = false ∨ lostB d = true := by cases lostB d <;> simp
      rcases hld with hld | hld
      · have hres := HRES.out
        rw [if_neg hcl, if_pos ⟨hd, hld⟩] at hres
        obtain ⟨rfl, rfl⟩ : T2 = Tr ∧ d = cr := by cases hres; exact ⟨rfl, rfl⟩
        clear hres HRES hcl
        go_wp2
        simp only [Exit.jump]
        go_ret
        exact ⟨rfl, HB6.out.less (fun k hk => .inl (.inl (.inl (.inl hk)))), HS.out⟩
      · have hres := HRES.out
        rw [if_neg hcl, if_neg (fun h => by rw [hld] at h; cases h.2)] at hres
        have hcr : T2 = Tr ∧ cr = ans := by
          rcases HAN.out with ⟨h1, h2⟩ | ⟨h1, h2, h3⟩
          · rw [if_pos (.inl h1)] at hres; cases hres; exact ⟨rfl, h2.symm⟩
          · rw [if_neg (fun h => h.elim h2 hd)] at hres; cases hres; exact ⟨rfl, h3.symm⟩
        obtain ⟨rfl, rfl⟩ := hcr
        clear hres HRES hcl HAN
        go_wp2
        simp only [Exit.jump]
        go_ret
        exact ⟨rfl, HB6.out.less (fun k hk => .inl (.inl (.inl (.inl hk)))), HS.out⟩
end
end Go.Proofs.Ytglplhmclfekfaa
/- mirror: Alike on a law's bank. -/
namespace Go.Proofs.Ytglplhmclfekfaa
open Go.RowKit
set_option linter.unusedVariables false
set_option linter.unusedSimpArgs false

section
variable {w0 W : World} {R : Nat → Prop} {q : Nat} {T : BankT}
set_option maxHeartbeats 2000000
set_option maxRecDepth 100000
theorem m_Alike (h : BK w0 R W q T) (u : T.Use) (x0 x1 y0 y1 : Int) :
    Calls Try.prog 103 #[.pointer (some ⟨q, 0, none⟩), .agg #[.int .i64 x0, .int .i64 x1], .agg #[.int .i64 y0, .int .i64 y1]] W fun e w' => e = .returned (.tuple #[.bool (T.mAlike x0 x1 y0 y1).2.1, .int .i64 (T.mAlike x0 x1 y0 y1).2.2]) ∧ BK w0 R w' q (T.mAlike x0 x1 y0 y1).1 ∧ SameR R W w' := by
  obtain ⟨xs, c, hr⟩ : ∃ xs c, T.read x0 x1 = (xs, c) := ⟨_, _, rfl⟩
  have hx64 : xs.length = 64 := by have := (BankT.read_sec u.inv x0 x1).1; rw [hr] at this; exact this
  obtain ⟨ys, d, hq⟩ : ∃ ys d, T.read y0 y1 = (ys, d) := ⟨_, _, rfl⟩
  have hy64 : ys.length = 64 := by have := (BankT.read_sec u.inv y0 y1).1; rw [hq] at this; exact this
  unfold BankT.mAlike
  rw [hr, hq]
  obtain ⟨T', g, hw⟩ : ∃ T' g, T.write y0 y1 xs = (T', g) := ⟨_, _, rfl⟩
  simp only []
  rw [hw]
  simp only []
  obtain ⟨Tr, br, cr, hres⟩ : ∃ Tr br cr, (if c ≠ 0 ∧ lostB c = false then (T, false, c) else if d ≠ 0 ∧ lostB d = false then (T, false, d) else if c ≠ 0 ∧ d ≠ 0 then (T, false, (5 : Int)) else if c ≠ 0 ∨ d ≠ 0 ∨ xs = ys then (T, false, (0 : Int)) else if lostB g then (T', false, (0 : Int)) else (T', g == 0, g)) = (Tr, br, cr) := ⟨_, _, _, rfl⟩
  rw [hres]
  have HR := Lib.hid hr; have HQ := Lib.hid hq; have HW := Lib.hid hw; have HX := Lib.hid hx64; have HY := Lib.hid hy64; have HU := Lib.hid u; have HB := Lib.hid h; have HRES := Lib.hid hres
  clear hr hq hw hx64 hy64 u h hres
  go_enter Try.func103, Try.ntmps103
  go_wp2_with (refine stop_at (o := ⟨some 4, _, _, _, _, _⟩) ?_)
  refine Stop.mk ?_
  refine wpList_box_row rfl _ _ rfl [.int .i64 x0, .int .i64 x1] rfl ?_
  intro w1 hz1 hs1 hk1
  have p0 : w1.cell? ⟨W.heap.size, 0, none⟩ = some (.int .i64 x0) := cell_of_row _ _ 0 _ _ _ hz1.out
  have p1 : w1.cell? ⟨W.heap.size, 1, none⟩ = some (.int .i64 x1) := cell_of_row _ _ 1 _ _ _ hz1.out
  have HB1 := Lib.hid (HB.out.box hk1 hs1)
  have HS := Lib.hid (show SameR R W w1 from (HB.out.kept hk1).2)
  generalize W.heap.size = X at *
  clear hz1 hs1 hk1
  go_wp2_with (refine stop_at (o := ⟨some 5, _, _, _, _, _⟩) ?_)
  refine Stop.mk ?_
  refine wpList_box_row rfl _ _ rfl [.int .i64 y0, .int .i64 y1] rfl ?_
  intro w2 hz2 hs2 hk2
  have q0 : w2.cell? ⟨w1.heap.size, 0, none⟩ = some (.int .i64 y0) := cell_of_row _ _ 0 _ _ _ hz2.out
  have q1 : w2.cell? ⟨w1.heap.size, 1, none⟩ = some (.int .i64 y1) := cell_of_row _ _ 1 _ _ _ hz2.out
  replace p0 := hk2.cell' p0
  replace p1 := hk2.cell' p1
  have HB2 := Lib.hid (HB1.out.box hk2 hs2)
  replace HS := Lib.hid (show SameR R W w2 from HS.out.trans fun k hk => (HB1.out.kept hk2).2 k (.inl hk))
  generalize w1.heap.size = Yb at *
  clear hz2 hs2 hk2 HB1 HB
  go_wp2_with fail
  refine Calls.mono (st_read HB2.out HU.out x0 x1 HR.out) ?_
  rintro e w3 ⟨rfl, hb3, hk3⟩
  have HB3 := Lib.hid hb3
  replace q0 := hk3.cell' q0
  replace q1 := hk3.cell' q1
  replace HS := Lib.hid (show SameR R W w3 from HS.out.trans fun k hk => (HB2.out.kept hk3).2 k (.inl (.inl hk)))
  clear hb3 hk3 HB2 p0 p1
  go_wp2_with (refine stop_at (o := ⟨some 8, _, _, _, _, _⟩) ?_)
  refine Stop.mk ?_
  refine wpList_new_row rfl rfl _ _ rfl rfl ty_sec (u8s zeroB) zero_sec (by rw [u8s_length, zeroB_length]) (u8s xs) rfl (by rw [u8s_length, HX.out]) (u8s_one _) rfl ?_
  intro w4 hz4 hs4 hk4
  have HB4 := Lib.hid (HB3.out.kept hk4).1
  have HX4 := hz4
  replace q0 := hk4.cell' q0
  replace q1 := hk4.cell' q1
  replace HS := Lib.hid (show SameR R W w4 from HS.out.trans fun k hk => (HB3.out.kept hk4).2 k (.inl (.inl hk)))
  generalize w3.heap.size = SX at *
  clear hz4 hs4 hk4 HB3
  have hlc : lostB c = false ∨ lostB c = true := by cases lostB c <;> simp
  have hcc : c = 0 ∨ (c ≠ 0 ∧ lostB c = false) ∨ (c ≠ 0 ∧ lostB c = true) := by
    by_cases h : c = 0
    · exact .inl h
    · rcases hlc with e | e
      · exact .inr (.inl ⟨h, e⟩)
      · exact .inr (.inr ⟨h, e⟩)
  clear hlc
  rcases hcc with hc | ⟨hc, hlc⟩ | ⟨hc, hlc⟩
  · have hcb : (c == 0) = true := by simp [hc]
    go_wp2_with fail
    refine Calls.mono (st_read HB4.out HU.out y0 y1 HQ.out) ?_
    rintro e w5 ⟨rfl, hb5, hk5⟩
    have HB5 := Lib.hid hb5
    replace q0 := hk5.cell' q0
    replace q1 := hk5.cell' q1
    have HX5 := Lib.hid (hk5.block HX4.out)
    replace HS := Lib.hid (show SameR R W w5 from HS.out.trans fun k hk => (HB4.out.kept hk5).2 k (.inl (.inl hk)))
    clear hb5 hk5 HB4 HX4
    go_wp2_with (refine stop_at (o := ⟨some 10, _, _, _, _, _⟩) ?_)
    refine Stop.mk ?_
    refine wpList_new_row rfl rfl _ _ rfl rfl ty_sec (u8s zeroB) zero_sec (by rw [u8s_length, zeroB_length]) (u8s ys) rfl (by rw [u8s_length, HY.out]) (u8s_one _) rfl ?_
    intro w6 hz6 hs6 hk6
    have HB6 := Lib.hid (HB5.out.kept hk6).1
    have HY6 := hz6
    have HX6 := Lib.hid (hk6.block HX5.out)
    replace q0 := hk6.cell' q0
    replace q1 := hk6.cell' q1
    replace HS := Lib.hid (show SameR R W w6 from HS.out.trans fun k hk => (HB5.out.kept hk6).2 k (.inl (.inl hk)))
    generalize w5.heap.size = SY at *
    clear hz6 hs6 hk6 HB5 HX5
    by_cases hd : d = 0
    · have hdb : (d == 0) = true := by simp [hd]
      by_cases hxy : xs = ys
      · subst hxy
        go_wp2_with (refine stop_at (o := ⟨some 56, _, _, _, _, _⟩) ?_)
        refine Stop.mk ?_
        refine wpList_load_aggW _ rfl ty_sec SX 0 rfl (u8s xs) (by simpa using Cells.of_block HX6.out) (by rw [u8s_length, HX.out]) rfl ?_
        go_wp2_with (refine stop_at (o := ⟨some 57, _, _, _, _, _⟩) ?_)
        refine Stop.mk ?_
        refine wpList_load_aggW _ rfl ty_sec SY 0 rfl (u8s xs) (by simpa using Cells.of_block HY6.out) (by rw [u8s_length, HX.out]) rfl ?_
        go_wp2_with (refine stop_at (o := ⟨some 58, _, _, _, _, _⟩) ?_)
        refine Stop.mk ?_
        refine wpList_eq_sec rfl _ _ rfl xs xs rfl rfl HX.out HX.out ?_
        rw [show (xs == xs) = true by simp]
        have hres := HRES.out
        rw [if_neg (fun h => h.1 hc), if_neg (fun h => h.1 hd), if_neg (fun h => h.1 hc), if_pos (by simp)] at hres
        obtain ⟨rfl, rfl, rfl⟩ : T = Tr ∧ false = br ∧ 0 = cr := by cases hres; exact ⟨rfl, rfl, rfl⟩
        clear hres HRES
        go_wp2
        go_ret2
        exact ⟨rfl, HB6.out.less (fun k hk => .inl (.inl hk)), HS.out⟩
      · have hxb : (xs == ys) = false := by simpa using hxy
        go_wp2_with (refine stop_at (o := ⟨some 56, _, _, _, _, _⟩) ?_)
        refine Stop.mk ?_
        refine wpList_load_aggW _ rfl ty_sec SX 0 rfl (u8s xs) (by simpa using Cells.of_block HX6.out) (by rw [u8s_length, HX.out]) rfl ?_
        go_wp2_with (refine stop_at (o := ⟨some 57, _, _, _, _, _⟩) ?_)
        refine Stop.mk ?_
        refine wpList_load_aggW _ rfl ty_sec SY 0 rfl (u8s ys) (by simpa using Cells.of_block HY6.out) (by rw [u8s_length, HY.out]) rfl ?_
        go_wp2_with (refine stop_at (o := ⟨some 58, _, _, _, _, _⟩) ?_)
        refine Stop.mk ?_
        refine wpList_eq_sec rfl _ _ rfl xs ys rfl rfl HX.out HY.out ?_
        rw [hxb]
        go_wp2_with (refine stop_at (o := ⟨some 62, _, _, _, _, _⟩) ?_)
        refine Stop.mk ?_
        refine wpList_load_agg rfl _ rfl ty_sec SX 0 rfl (u8s xs) (by simpa using Cells.of_block HX6.out) (by rw [u8s_length, HX.out]) ?_
        go_wp2_with fail
        refine Calls.mono (st_writeE HB6.out HU.out y0 y1 HX.out HW.out) ?_
        rintro e w7 ⟨rfl, hb7, hr7⟩
        have HB7 := Lib.hid hb7
        replace HS := Lib.hid (show SameR R W w7 from HS.out.trans fun k hk => hr7 k (.inl (.inl hk)))
        clear hb7 hr7 HB6 q0 q1
        have hno : ¬ (c ≠ 0 ∨ d ≠ 0 ∨ xs = ys) := fun h => by rcases h with h | h | h; exact h hc; exact h hd; exact hxy h
        have HNO := Lib.hid hno
        clear hno hxy hxb
        go_wp2_with fail
        refine Calls.mono (mirror_lost g _) ?_
        rintro e w' ⟨rfl, rfl⟩
        have hlg : lostB g = false ∨ lostB g = true := by cases lostB g <;> simp
        rcases hlg with hlg | hlg
        · have hres := HRES.out
          rw [if_neg (fun h => h.1 hc), if_neg (fun h => h.1 hd), if_neg (fun h => h.1 hc), if_neg HNO.out, hlg, if_neg (by decide)] at hres
          obtain ⟨rfl, rfl, rfl⟩ : T' = Tr ∧ (g == 0) = br ∧ g = cr := by cases hres; exact ⟨rfl, rfl, rfl⟩
          clear hres HRES
          go_wp2
          go_ret2
          exact ⟨rfl, HB7.out.less (fun k hk => .inl (.inl hk)), HS.out⟩
        · have hres := HRES.out
          rw [if_neg (fun h => h.1 hc), if_neg (fun h => h.1 hd), if_neg (fun h => h.1 hc), if_neg HNO.out, hlg, if_pos rfl] at hres
          obtain ⟨rfl, rfl, rfl⟩ : T' = Tr ∧ false = br ∧ 0 = cr := by cases hres; exact ⟨rfl, rfl, rfl⟩
          clear hres HRES
          go_wp2
          go_ret2
          exact ⟨rfl, HB7.out.less (fun k hk => .inl (.inl hk)), HS.out⟩
    · have hdb : (d == 0) = false := by simpa using hd
      go_wp2_with fail
      refine Calls.mono (mirror_lost d _) ?_
      rintro e w' ⟨rfl, rfl⟩
      have hld : lostB d = false ∨ lostB d = true := by cases lostB d <;> simp
      rcases hld with hld | hld
      · have hres := HRES.out
        rw [if_neg (fun h => h.1 hc), if_pos ⟨hd, hld⟩] at hres
        obtain ⟨rfl, rfl, rfl⟩ : T = Tr ∧ false = br ∧ d = cr := by cases hres; exact ⟨rfl, rfl, rfl⟩
        clear hres HRES
        go_wp2
        go_ret2
        exact ⟨rfl, HB6.out.less (fun k hk => .inl (.inl hk)), HS.out⟩
      · have hres := HRES.out
        rw [if_neg (fun h => h.1 hc), if_neg (fun h => by rw [hld] at h; cases h.2), if_neg (fun h => h.1 hc), if_pos (.inr (.inl hd))] at hres
        obtain ⟨rfl, rfl, rfl⟩ : T = Tr ∧ false = br ∧ 0 = cr := by cases hres; exact ⟨rfl, rfl, rfl⟩
        clear hres HRES
        go_wp2
        go_ret2
        exact ⟨rfl, HB6.out.less (fun k hk => .inl (.inl hk)), HS.out⟩
  · have hcb : (c == 0) = false := by simpa using hc
    go_wp2_with fail
    refine Calls.mono (mirror_lost c _) ?_
    rintro e w' ⟨rfl, rfl⟩
    have hres := HRES.out
    rw [if_pos ⟨hc, hlc⟩] at hres
    obtain ⟨rfl, rfl, rfl⟩ : T = Tr ∧ false = br ∧ c = cr := by cases hres; exact ⟨rfl, rfl, rfl⟩
    clear hres HRES
    go_wp2
    go_ret2
    exact ⟨rfl, HB4.out.less (fun k hk => .inl (.inl hk)), HS.out⟩
  · have hcb : (c == 0) = false := by simpa using hc
    go_wp2_with fail
    refine Calls.mono (mirror_lost c _) ?_
    rintro e w' ⟨rfl, rfl⟩
    go_wp2_with fail
    refine Calls.mono (st_read HB4.out HU.out y0 y1 HQ.out) ?_
    rintro e w5 ⟨rfl, hb5, hk5⟩
    have HB5 := Lib.hid hb5
    replace q0 := hk5.cell' q0
    replace q1 := hk5.cell' q1
    have HX5 := Lib.hid (hk5.block HX4.out)
    replace HS := Lib.hid (show SameR R W w5 from HS.out.trans fun k hk => (HB4.out.kept hk5).2 k (.inl (.inl hk)))
    clear hb5 hk5 HB4 HX4
    go_wp2_with (refine stop_at (o := ⟨some 10, _, _, _, _, _⟩) ?_)
    refine Stop.mk ?_
    refine wpList_new_row rfl rfl _ _ rfl rfl ty_sec (u8s zeroB) zero_sec (by rw [u8s_length, zeroB_length]) (u8s ys) rfl (by rw [u8s_length, HY.out]) (u8s_one _) rfl ?_
    intro w6 hz6 hs6 hk6
    have HB6 := Lib.hid (HB5.out.kept hk6).1
    have HY6 := hz6
    have HX6 := Lib.hid (hk6.block HX5.out)
    replace q0 := hk6.cell' q0
    replace q1 := hk6.cell' q1
    replace HS := Lib.hid (show SameR R W w6 from HS.out.trans fun k hk => (HB5.out.kept hk6).2 k (.inl (.inl hk)))
    generalize w5.heap.size = SY at *
    clear hz6 hs6 hk6 HB5 HX5
    by_cases hd : d = 0
    · have hdb : (d == 0) = true := by simp [hd]
      have hres := HRES.out
      rw [if_neg (fun h => by rw [hlc] at h; cases h.2), if_neg (fun h => h.1 hd), if_neg (fun h => h.2 hd), if_pos (.inl hc)] at hres
      obtain ⟨rfl, rfl, rfl⟩ : T = Tr ∧ false = br ∧ 0 = cr := by cases hres; exact ⟨rfl, rfl, rfl⟩
      clear hres HRES
      go_wp2
      go_ret2
      exact ⟨rfl, HB6.out.less (fun k hk => .inl (.inl hk)), HS.out⟩
    · have hdb : (d == 0) = false := by simpa using hd
      go_wp2_with fail
      refine Calls.mono (mirror_lost d _) ?_
      rintro e w' ⟨rfl, rfl⟩
      have hld : lostB d = false ∨ lostB d = true := by cases lostB d <;> simp
      rcases hld with hld | hld
      · have hres := HRES.out
        rw [if_neg (fun h => by rw [hlc] at h; cases h.2), if_pos ⟨hd, hld⟩] at hres
        obtain ⟨rfl, rfl, rfl⟩ : T = Tr ∧ false = br ∧ d = cr := by cases hres; exact ⟨rfl, rfl, rfl⟩
        clear hres HRES
        go_wp2
        go_ret2
        exact ⟨rfl, HB6.out.less (fun k hk => .inl (.inl hk)), HS.out⟩
      · have hres := HRES.out
        rw [if_neg (fun h => by rw [hlc] at h; cases h.2), if_neg (fun h => by rw [hld] at h; cases h.2), if_pos ⟨hc, hd⟩] at hres
        obtain ⟨rfl, rfl, rfl⟩ : T = Tr ∧ false = br ∧ 5 = cr := by cases hres; exact ⟨rfl, rfl, rfl⟩
        clear hres HRES
        have hcn : (c != 0) = true := by simp [hc]
        have hdn : (d != 0) = true := by simp [hd]
        go_wp2
        go_ret2
        exact ⟨rfl, HB6.out.less (fun k hk => .inl (.inl hk)), HS.out⟩
end
end Go.Proofs.Ytglplhmclfekfaa
/- law12: sector, laid. -/
namespace Go.Proofs.Ytglplhmclfekfaa
open Go.RowKit
set_option linter.unusedVariables false
set_option linter.unusedSimpArgs false

section
variable {w : World}
set_option maxHeartbeats 1000000
set_option maxRecDepth 100000
theorem m_sector (n : Int) (w : World) : Calls Try.prog 98 #[.int .i64 n] w fun e w' => e = .returned (.agg (u8s (secN n)).toArray) ∧ Kept w w' := by
  go_enter Try.func98, Try.ntmps98
  go_wp2_with (refine stop_at (o := ⟨some 2, _, _, _, _, _⟩) ?_)
  refine Stop.mk ?_
  refine wpList_alloc_abs rfl 34 rfl (u8s zeroB) zero_sec ?_
  intro w1 hz hs hn hk1
  go_wp2_with (refine stop_at (o := ⟨none, .store _ _ _, _, _, _, _⟩) ?_)
  refine Stop.mk ?_
  refine wpList_store_agg rfl _ _ rfl ty_sec w.heap.size 0 rfl (u8s (secN n)) rfl (by rw [u8s_length, secN_len]) (u8s_one _) (u8s zeroB) 34 hz.out (by simp [u8s_length, zeroB_length]) ?_
  intro w3 hw3
  replace hw3 := hw3.all (by rw [u8s_length, u8s_length, secN_len]; rfl)
  have hkw := Lib.hid (hw3.kept hk1 (Nat.le_refl _))
  have hw3' := Lib.hid hw3; clear hw3
  go_wp2
  refine bodyPost_ret (results_sec1 rfl _ _ w.heap.size (secN n) rfl hw3'.out.cells (secN_len n)) rfl ⟨rfl, hkw.out⟩
theorem m_laid (n : Nat) (hn : n ≤ 31) (w0 W : World) (R : Nat → Prop) (hk : Kept w0 W) (hR : ∀ k, R k → k < W.heap.size) : Calls Try.prog 36 #[.int .i64 (n : Int)] W fun e w' => ∃ q, e = .returned (.pointer (some ⟨q, 0, none⟩)) ∧ BK w0 R w' q (addZ 12 n) ∧ SameR R W w' := by
  have HN := Lib.hid (bk_New w0 W R hk hR)
  have HR := Lib.hid hR
  clear hk hR
  go_enter Try.func36, Try.ntmps36
  go_wp2_with fail
  refine Calls.mono HN.out ?_
  rintro e w1 ⟨q, rfl, hb, hk1⟩
  have HB := Lib.hid hb
  have HS : Hid (SameR R W w1) := Lib.hid (fun k hk => hk1.block_eq (HR.out k hk))
  clear hb hk1
  go_wp2
  go_loopw [4] (fun i wr => ∃ k : Nat, k ≤ n ∧ i = .int .i64 k ∧ Hid (BK w0 R wr q (addZ 12 k)) ∧ Hid (SameR R W wr)) (fun i _ => n - (intOf i).toNat)
  case atStart => exact ⟨0, by omega, rfl, HB, HS⟩
  case round =>
    obtain ⟨k, hk, rfl, HB, HS⟩ := hrel
    by_cases hlt : k < n
    · have HA := bk_Add HB.out (by rw [addZ_len]; omega) 12 (by decide) (by decide)
      rw [addZ_len] at HA
      have HAD := Lib.hid HA; clear HA
      go_wp2_with fail
      refine Calls.mono HAD.out ?_
      rintro e w2 ⟨rfl, h1, h2⟩
      have HB2 : Hid (BK w0 R w2 q (addZ 12 (k + 1))) := Lib.hid h1
      have HS2 := Lib.hid (HS.out.trans h2); clear h1 h2
      go_wp2
      go_roundw
      case rel => exact ⟨k + 1, hlt, by go_num, HB2, HS2⟩
      case measure => simp [intOf]; omega
    · have hk3 : k = n := by omega
      subst hk3
      go_wp2
      go_ret
      exact ⟨q, rfl, HB.out, HS.out⟩
end
end Go.Proofs.Ytglplhmclfekfaa
/- mirror.Home, and the document's. -/
namespace Go.Proofs.Ytglplhmclfekfaa
open Go.RowKit
set_option linter.unusedVariables false
set_option linter.unusedSimpArgs false

theorem results_plc {fn : Func} {p q : Tmp} (h : fn.results = #[.cell p 32, .tmp q]) (tmps : Array Value) (w : World) (b : Nat) (x y : Int)
    (hp : tmps.getD p undef = .pointer (some ⟨b, 0, none⟩)) (hc : Cells w b 0 [.int .i64 x, .int .i64 y]) :
    (results fn tmps).run Try.prog w = .ok (.tuple #[.agg #[.int .i64 x, .int .i64 y], tmps.getD q undef]) w := by
  obtain ⟨⟨d, hd1, hd2⟩, hs⟩ := ty_plc
  have hp' : tmps[p]?.getD undef = .pointer (some ⟨b, 0, none⟩) := by simpa using hp
  have hr := run_loadVar_mid (P := Try.prog) w b 0 32 [.int .i64 x, .int .i64 y] d (rangeAt_of_cells hc) hd1 hd2 (by rw [hs]; rfl)
  simp [results, h, hp', asAddr, hr]
def homeX (d s : Int) : Int := if s < 0 ∨ 8 ≤ s then 0 else d
def homeY (a s : Int) : Int := if s < 0 ∨ 8 ≤ s then 0 else a + s
def homeB (s : Int) : Bool := if s < 0 ∨ 8 ≤ s then false else true
section
variable {w : World}
set_option maxHeartbeats 1000000
set_option maxRecDepth 100000
theorem m_Home (d a s : Int) (h0 : 0 ≤ a) (h1 : a ≤ 1048575) (w : World) : Calls Try.prog 100 #[.agg #[.int .i64 d, .int .i64 a], .int .i64 s] w fun e w' => e = .returned (.tuple #[.agg #[.int .i64 (homeX d s), .int .i64 (homeY a s)], .bool (homeB s)]) ∧ Kept w w' := by
  go_enter Try.func100, Try.ntmps100
  go_wp2_with (refine stop_at (o := ⟨some 2, _, _, _, _, _⟩) ?_)
  refine Stop.mk ?_
  refine wpList_box_row rfl _ _ rfl [.int .i64 d, .int .i64 a] rfl ?_
  intro w1 hz1 hs1 hk1
  have p0 : w1.cell? ⟨w.heap.size, 0, none⟩ = some (.int .i64 d) := cell_of_row _ _ 0 _ _ _ hz1.out
  have p1 : w1.cell? ⟨w.heap.size, 1, none⟩ = some (.int .i64 a) := cell_of_row _ _ 1 _ _ _ hz1.out
  clear hz1
  go_wp2_with (refine stop_at (o := ⟨some 4, _, _, _, _, _⟩) ?_)
  refine Stop.mk ?_
  refine wpList_alloc_abs rfl 32 rfl [.int .i64 0, .int .i64 0] zero_plc ?_
  intro w2 hz2 hs2 hn2 hk2
  have HZ := hz2
  have HK := Lib.hid (hk1.trans hk2)
  have hle : w.heap.size ≤ w1.heap.size := hk1.size
  replace p0 := hk2.cell' p0
  replace p1 := hk2.cell' p1
  generalize w1.heap.size = Z at *
  generalize hX : w.heap.size = X at *
  clear hz2 hs2 hn2 hk1 hk2 hs1
  by_cases hs : s < 0 ∨ 8 ≤ s
  · have e1 : homeX d s = 0 := by unfold homeX; rw [if_pos hs]
    have e2 : homeY a s = 0 := by unfold homeY; rw [if_pos hs]
    have e3 : homeB s = false := by unfold homeB; rw [if_pos hs]
    have E1 := Lib.hid e1; have E2 := Lib.hid e2; have E3 := Lib.hid e3; clear e1 e2 e3
    rcases hs with hs | hs
    all_goals
      go_wp2_with (refine stop_at (o := ⟨none, .store _ _ _, _, _, _, _⟩) ?_)
      refine Stop.mk ?_
      refine wpList_store_agg rfl _ _ rfl ty_plc Z 0 rfl [.int .i64 0, .int .i64 0] rfl rfl (one_plc 0 0) _ _ HZ.out (by simp) ?_
      intro w3 hw3
      replace hw3 := hw3.all rfl
      have hkw := Lib.hid (hw3.kept HK.out (by omega))
      have hw3' := Lib.hid hw3; clear hw3
      go_wp2
      refine bodyPost_ret (results_plc rfl _ _ Z 0 0 rfl hw3'.out.cells) rfl ⟨by rw [E1.out, E2.out, E3.out]; rfl, hkw.out⟩
  · have e1 : homeX d s = d := by unfold homeX; rw [if_neg hs]
    have e2 : homeY a s = a + s := by unfold homeY; rw [if_neg hs]
    have e3 : homeB s = true := by unfold homeB; rw [if_neg hs]
    have E1 := Lib.hid e1; have E2 := Lib.hid e2; have E3 := Lib.hid e3; clear e1 e2 e3
    have hs1 : 0 ≤ s := by omega
    have hs2 : s < 8 := by omega
    clear hs
    go_wp2_with (refine stop_at (o := ⟨none, .store _ _ _, _, _, _, _⟩) ?_)
    refine Stop.mk ?_
    refine wpList_store_agg rfl _ _ rfl ty_plc Z 0 rfl [.int .i64 d, .int .i64 (a + s)] rfl rfl (one_plc _ _) _ _ HZ.out (by simp) ?_
    intro w3 hw3
    replace hw3 := hw3.all rfl
    have hkw := Lib.hid (hw3.kept HK.out (by omega))
    have hw3' := Lib.hid hw3; clear hw3
    go_wp2
    refine bodyPost_ret (results_plc rfl _ _ Z d (a + s) rfl hw3'.out.cells) rfl ⟨by rw [E1.out, E2.out, E3.out]; rfl, hkw.out⟩
--
--
--
--
--
--
--
--
--
--
--
--
--
--
--
--
--
--
--
--
--
--
--
--
--
--
--
--
--
--
--
--
--
--
--
--
--
--
--
--
--
--
--
--
--
--
--
--
--
--
--
--
--
--
--
--
--
--
--
--
--
--
--
--
--
--
--
--
--
--
--
--
--
--
--
end
end Go.Proofs.Ytglplhmclfekfaa
/- law12's shown (gen_mshown.py). -/
namespace Go.Proofs.Ytglplhmclfekfaa
open Go.RowKit
set_option linter.unusedVariables false
set_option linter.unusedSimpArgs false

theorem BankT.Inv.mWrite {T : BankT} (h : T.Inv) (x0 x1 y0 y1 : Int) {s : List Int} (hs : s.length = 64 ∧ ∀ x ∈ s, IsByte x) : (T.mWrite x0 x1 y0 y1 s).1.Inv := by
  have h1 := h.write x0 x1 hs
  have h2 := h1.write y0 y1 hs
  unfold BankT.mWrite
  split
  · exact h1
  · split
    · exact h2
    · exact h2
def mh0 : BankT := addZ 12 2
def mh1 : BankT := (mh0.mWrite 0 3 1 5 (secN 1)).1
def mh2 : BankT := (mh1.failC 0).1
def mh3 : BankT := (mh2.mWrite 0 3 1 5 (secN 2)).1
def mh4 : BankT := (mh3.failC 1).1
theorem secN_ok (n : Int) : (secN n).length = 64 ∧ ∀ x ∈ secN n, IsByte x := ⟨secN_len n, secN_byte n⟩
theorem mh0_u : mh0.Use := BankT.Use.of (addZ_inv (by decide) 2 (by decide)) (by kernel_rfl)
theorem mh0_u1 : (mh0.write 0 3 (secN 1)).1.Use := BankT.Use.of (mh0_u.inv.write 0 3 (secN_ok 1)) (by kernel_rfl)
theorem mh1_u : mh1.Use := BankT.Use.of (mh0_u.inv.mWrite 0 3 1 5 (secN_ok 1)) (by kernel_rfl)
theorem mh2_u : mh2.Use := BankT.Use.of (mh1_u.inv.failC 0) (by kernel_rfl)
theorem mh2_u1 : (mh2.write 0 3 (secN 2)).1.Use := BankT.Use.of (mh2_u.inv.write 0 3 (secN_ok 2)) (by kernel_rfl)
theorem mh3_u : mh3.Use := BankT.Use.of (mh2_u.inv.mWrite 0 3 1 5 (secN_ok 2)) (by kernel_rfl)
theorem mh4_u : mh4.Use := BankT.Use.of (mh3_u.inv.failC 1) (by kernel_rfl)
theorem mh_e : ((mh0.mWrite 0 3 1 5 (secN 1)).2, (mh2.mWrite 0 3 1 5 (secN 2)).2) = (0, 0) := by kernel_rfl
theorem mh_r : (mh2.mRead 0 3 1 5, mh3.mRead 0 3 1 5, mh4.mRead 0 3 1 5) = ((secN 1, 0), (secN 2, 0), (zeroB, 5)) := by kernel_rfl
section
variable {w0 W : World} {R : Nat → Prop} {q : Nat} {T : BankT}
theorem m_WriteE (h : BK w0 R W q T) (u : T.Use) (x0 x1 y0 y1 : Int) {s : List Int} (hs : s.length = 64) (u1 : (T.write x0 x1 s).1.Use) {T' : BankT} {c : Int} (he : T.mWrite x0 x1 y0 y1 s = (T', c)) :
    Calls Try.prog 97 #[.pointer (some ⟨q, 0, none⟩), .agg #[.int .i64 x0, .int .i64 x1], .agg #[.int .i64 y0, .int .i64 y1], .agg (u8s s).toArray] W fun e w' => e = .returned (.int .i64 c) ∧ BK w0 R w' q T' ∧ SameR R W w' :=
  (m_Write h u x0 x1 y0 y1 hs u1).mono fun e w' ⟨h1, h2, h3⟩ => ⟨by rw [h1, he], by rw [he] at h2; exact h2, h3⟩
theorem m_ReadE (h : BK w0 R W q T) (u : T.Use) (x0 x1 y0 y1 : Int) {xs : List Int} {c : Int} (he : T.mRead x0 x1 y0 y1 = (xs, c)) :
    Calls Try.prog 99 #[.pointer (some ⟨q, 0, none⟩), .agg #[.int .i64 x0, .int .i64 x1], .agg #[.int .i64 y0, .int .i64 y1]] W fun e w' => e = .returned (.tuple #[.agg (u8s xs).toArray, .int .i64 c]) ∧ Kept W w' :=
  (m_Read h u x0 x1 y0 y1).mono fun e w' ⟨h1, h2, h3, h4⟩ => ⟨by rw [h1, he], h4⟩
theorem m_AlikeE (h : BK w0 R W q T) (u : T.Use) (x0 x1 y0 y1 : Int) {T' : BankT} {b : Bool} {c : Int} (he : T.mAlike x0 x1 y0 y1 = (T', b, c)) :
    Calls Try.prog 103 #[.pointer (some ⟨q, 0, none⟩), .agg #[.int .i64 x0, .int .i64 x1], .agg #[.int .i64 y0, .int .i64 y1]] W fun e w' => e = .returned (.tuple #[.bool b, .int .i64 c]) ∧ BK w0 R w' q T' ∧ SameR R W w' :=
  (m_Alike h u x0 x1 y0 y1).mono fun e w' ⟨h1, h2, h3⟩ => ⟨by rw [h1, he], by rw [he] at h2; exact h2, h3⟩
theorem m_CopyE (h : BK w0 R W q T) (u : T.Use) (x0 x1 y0 y1 : Int) {T' : BankT} {c : Int} (he : T.mCopy x0 x1 y0 y1 = (T', c)) :
    Calls Try.prog 105 #[.pointer (some ⟨q, 0, none⟩), .agg #[.int .i64 x0, .int .i64 x1], .agg #[.int .i64 y0, .int .i64 y1]] W fun e w' => e = .returned (.int .i64 c) ∧ BK w0 R w' q T' ∧ SameR R W w' :=
  (m_Copy h u x0 x1 y0 y1).mono fun e w' ⟨h1, h2, h3⟩ => ⟨by rw [h1, he], by rw [he] at h2; exact h2, h3⟩
set_option maxHeartbeats 4000000
set_option maxRecDepth 100000
theorem m_shown (w : World) : Calls Try.prog 35 #[] w fun e w' => e = .returned (.bool true) ∧ Kept w w' := by
  have E1 : Hid (mh0.mWrite 0 3 1 5 (secN 1) = (mh1, 0)) := Lib.hid (Prod.ext rfl (show (mh0.mWrite 0 3 1 5 (secN 1)).2 = 0 from congrArg Prod.fst mh_e))
  have E2 : Hid (mh2.mWrite 0 3 1 5 (secN 2) = (mh3, 0)) := Lib.hid (Prod.ext rfl (show (mh2.mWrite 0 3 1 5 (secN 2)).2 = 0 from congrArg Prod.snd mh_e))
  obtain ⟨r1, r2, r3⟩ : mh2.mRead 0 3 1 5 = (secN 1, 0) ∧ mh3.mRead 0 3 1 5 = (secN 2, 0) ∧ mh4.mRead 0 3 1 5 = (zeroB, 5) := by simpa only [Prod.mk.injEq] using mh_r
  have R1 := Lib.hid r1; have R2 := Lib.hid r2; have R3 := Lib.hid r3
  clear r1 r2 r3
  have H1 : ∀ W, Calls Try.prog 100 #[.agg #[.int .i64 4, .int .i64 114], .int .i64 7] W fun e w' => e = .returned (.tuple #[.agg #[.int .i64 4, .int .i64 121], .bool true]) ∧ Kept W w' := fun W => m_Home 4 114 7 (by decide) (by decide) W
  have H2 : ∀ W, Calls Try.prog 100 #[.agg #[.int .i64 0, .int .i64 0], .int .i64 8] W fun e w' => e = .returned (.tuple #[.agg #[.int .i64 0, .int .i64 0], .bool false]) ∧ Kept W w' := fun W => m_Home 0 0 8 (by decide) (by decide) W
  have HH1 := Lib.hid H1; have HH2 := Lib.hid H2
  clear H1 H2
  go_enter Try.func35, Try.ntmps35
  go_wp2_with fail
  refine Calls.mono (m_laid 2 (by decide) w w (fun _ => False) (Kept.refl _) (fun _ h => h.elim)) ?_
  rintro e w1 ⟨qb, rfl, hb, hr⟩
  have HB1 : Hid (BK w (fun _ => False) w1 qb mh0) := Lib.hid hb
  clear hb hr
  go_wp2_with (refine stop_at (o := ⟨some 2, _, _, _, _, _⟩) ?_)
  refine Stop.mk ?_
  refine wpList_new_row rfl rfl _ _ rfl rfl ty_plc _ zero_plc rfl [.int .i64 0, .int .i64 3] rfl rfl (one_plc _ _) rfl ?_
  intro w2 hz hs hk
  have HB2 := Lib.hid (HB1.out.box hk hs)
  have X2 := Lib.hid (Pl.of hz.out)
  generalize w1.heap.size = Bx at *
  clear hz hs hk HB1
  go_wp2_with (refine stop_at (o := ⟨some 3, _, _, _, _, _⟩) ?_)
  refine Stop.mk ?_
  refine wpList_new_row rfl rfl _ _ rfl rfl ty_plc _ zero_plc rfl [.int .i64 1, .int .i64 5] rfl rfl (one_plc _ _) rfl ?_
  intro w3 hz hs hk
  have HB3 := Lib.hid (HB2.out.box hk hs)
  have X3 := Lib.hid (X2.out.kept hk)
  have Z3 := Lib.hid (Pl.of hz.out)
  generalize w2.heap.size = Bz at *
  clear hz hs hk HB2 X2
  go_upto_region 6 with fail
  have hS : Pl w3.drew Bx 0 3 ∧ Pl w3.drew Bz 1 5 := ⟨X3.out, Z3.out⟩
  refine wp_region_calm ?_
  refine wp_region_E (fun W => Pl W Bx 0 3 ∧ Pl W Bz 1 5) 100 (by kernel_rfl) ?_
  refine wpAnyE_take (i := 0) (v := ?_) (listed' := #[true, false, false, false, false, false, false]) (by rfl) (by kernel_rfl) (by kernel_rfl) calm_put hS (by rfl) ?_ ?_
  rotate_left
  · intro W hW; clear hW; go_simp; try (with_reducible rfl)
  simp only [Act.put, List.getElem_toArray, List.getElem_cons_succ, List.getElem_cons_zero, List.setIfInBounds_toArray, List.set_cons_zero, List.set_cons_succ]
  refine wpAnyE_take (i := 1) (v := ?_) (listed' := #[true, true, false, false, false, false, false]) (by rfl) (by kernel_rfl) (by kernel_rfl) calm_put hS (by rfl) ?_ ?_
  rotate_left
  · intro W hW; obtain ⟨⟨p0, p1⟩, q0, q1⟩ := hW; go_simp; try (with_reducible rfl)
  simp only [Act.put, List.getElem_toArray, List.getElem_cons_succ, List.getElem_cons_zero, List.setIfInBounds_toArray, List.set_cons_zero, List.set_cons_succ]
  refine wpAnyE_take (i := 2) (v := ?_) (listed' := #[true, true, true, false, false, false, false]) (by rfl) (by kernel_rfl) (by kernel_rfl) calm_put hS (by rfl) ?_ ?_
  rotate_left
  · intro W hW; obtain ⟨⟨p0, p1⟩, q0, q1⟩ := hW; go_simp; try (with_reducible rfl)
  simp only [Act.put, List.getElem_toArray, List.getElem_cons_succ, List.getElem_cons_zero, List.setIfInBounds_toArray, List.set_cons_zero, List.set_cons_succ]
  refine wpAnyE_one (i := 3) (listed' := #[true, true, true, true, false, false, false]) (by rfl) (by kernel_rfl) (by kernel_rfl) (by rfl) (fun K hK => ?_)
  simp only [Act.put, List.getElem_toArray, List.getElem_cons_succ, List.getElem_cons_zero, List.setIfInBounds_toArray, List.set_cons_zero, List.set_cons_succ]
  go_wp2_with fail
  refine Calls.mono (m_sector 1 _) ?_
  rintro e wsec ⟨rfl, hks⟩
  have hS := (⟨hS.1.kept hks, hS.2.kept hks⟩ : _ ∧ _)
  refine hK _ _ (fun _ => hS) ?_; clear hK K
  refine wpAnyE_one (i := 4) (listed' := #[true, true, true, true, true, false, false]) (by rfl) (by kernel_rfl) (by kernel_rfl) (by rfl) (fun K hK => ?_)
  simp only [Act.put, List.getElem_toArray, List.getElem_cons_succ, List.getElem_cons_zero, List.setIfInBounds_toArray, List.set_cons_zero, List.set_cons_succ]
  go_wp2_with fail
  refine Calls.mono (m_WriteE (HB3.out.kept ((Kept.refl _).drew.trans hks)).1 mh0_u 0 3 1 5 (s := secN 1) (secN_len 1) mh0_u1 E1.out) ?_
  rintro e w5 ⟨rfl, hb, hr⟩
  have HB5 := Lib.hid hb
  have hS := (⟨hS.1.same (hr Bx (.inl (.inr rfl))), hS.2.same (hr Bz (.inr rfl))⟩ : _ ∧ _)
  clear hb hr hks
  refine hK _ _ (fun _ => hS) ?_; clear hK K
  refine wpAnyE_take (i := 5) (v := ?_) (listed' := #[true, true, true, true, true, true, false]) (by rfl) (by kernel_rfl) (by kernel_rfl) calm_put hS (by rfl) ?_ ?_
  rotate_left
  · intro W hW; clear hW; go_simp; try (with_reducible rfl)
  simp only [Act.put, List.getElem_toArray, List.getElem_cons_succ, List.getElem_cons_zero, List.setIfInBounds_toArray, List.set_cons_zero, List.set_cons_succ]
  refine wpAnyE_one (i := 6) (listed' := #[true, true, true, true, true, true, true]) (by rfl) (by kernel_rfl) (by kernel_rfl) (by rfl) (fun K hK => ?_)
  simp only [Act.put, List.getElem_toArray, List.getElem_cons_succ, List.getElem_cons_zero, List.setIfInBounds_toArray, List.set_cons_zero, List.set_cons_succ]
  go_wp2
  refine hK _ _ (fun _ => hS) ?_; clear hK K
  refine wpAnyE_done (by kernel_rfl) ?_ _
  refine calm_normal ?_

  obtain ⟨⟨p0, p1⟩, q0, q1⟩ := hS
  have X5 : Hid (Pl w5 Bx 0 3) := Lib.hid ⟨p0, p1⟩
  have Z5 : Hid (Pl w5 Bz 1 5) := Lib.hid ⟨q0, q1⟩
  clear p0 p1 q0 q1 X3 Z3 HB3
  go_wp2_with fail
  refine Calls.mono (st_fail HB5.out mh1_u 0 (T' := mh2) rfl rfl) ?_
  rintro e w6 ⟨rfl, hb, hr⟩
  have HB6 := Lib.hid hb
  have X6 := Lib.hid (X5.out.same (hr Bx (.inl (.inr rfl))))
  have Z6 := Lib.hid (Z5.out.same (hr Bz (.inr rfl)))
  obtain ⟨p0, p1⟩ := X6.out
  obtain ⟨q0, q1⟩ := Z6.out
  clear hb hr HB5 X5 Z5
  go_wp2_with fail
  refine Calls.mono (m_ReadE HB6.out mh2_u 0 3 1 5 R1.out) ?_
  rintro e w7 ⟨rfl, hk⟩
  have HB7 := Lib.hid (HB6.out.kept hk).1
  have X7 := Lib.hid (X6.out.kept hk)
  have Z7 := Lib.hid (Z6.out.kept hk)
  clear hk HB6 X6 Z6 p0 p1 q0 q1
  go_wp2_with (refine stop_at (o := ⟨some 5, _, _, _, _, _⟩) ?_)
  refine Stop.mk ?_
  refine wpList_new_row rfl rfl _ _ rfl rfl ty_sec (u8s zeroB) zero_sec (by rw [u8s_length, zeroB_length]) (u8s (secN 1)) rfl (by rw [u8s_length, secN_len]) (u8s_one _) rfl ?_
  intro w8 hz hs hk
  have HB8 := Lib.hid (HB7.out.box hk hs)
  have X8 := Lib.hid (X7.out.kept hk)
  have Z8 := Lib.hid (Z7.out.kept hk)
  have S8 := hz
  generalize w7.heap.size = Bs at *
  clear hz hs hk HB7 X7 Z7
  go_upto_region 9 with fail
  have hS : Pl w8.drew Bx 0 3 ∧ Pl w8.drew Bz 1 5 := ⟨X8.out, Z8.out⟩
  refine wp_region_calm ?_
  refine wp_region_E (fun W => Pl W Bx 0 3 ∧ Pl W Bz 1 5) 100 (by kernel_rfl) ?_
  refine wpAnyE_take (i := 0) (v := ?_) (listed' := #[true, false, false, false, false, false, false]) (by rfl) (by kernel_rfl) (by kernel_rfl) calm_put hS (by rfl) ?_ ?_
  rotate_left
  · intro W hW; clear hW; go_simp; try (with_reducible rfl)
  simp only [Act.put, List.getElem_toArray, List.getElem_cons_succ, List.getElem_cons_zero, List.setIfInBounds_toArray, List.set_cons_zero, List.set_cons_succ]
  refine wpAnyE_take (i := 1) (v := ?_) (listed' := #[true, true, false, false, false, false, false]) (by rfl) (by kernel_rfl) (by kernel_rfl) calm_put hS (by rfl) ?_ ?_
  rotate_left
  · intro W hW; obtain ⟨⟨p0, p1⟩, q0, q1⟩ := hW; go_simp; try (with_reducible rfl)
  simp only [Act.put, List.getElem_toArray, List.getElem_cons_succ, List.getElem_cons_zero, List.setIfInBounds_toArray, List.set_cons_zero, List.set_cons_succ]
  refine wpAnyE_take (i := 2) (v := ?_) (listed' := #[true, true, true, false, false, false, false]) (by rfl) (by kernel_rfl) (by kernel_rfl) calm_put hS (by rfl) ?_ ?_
  rotate_left
  · intro W hW; obtain ⟨⟨p0, p1⟩, q0, q1⟩ := hW; go_simp; try (with_reducible rfl)
  simp only [Act.put, List.getElem_toArray, List.getElem_cons_succ, List.getElem_cons_zero, List.setIfInBounds_toArray, List.set_cons_zero, List.set_cons_succ]
  refine wpAnyE_one (i := 3) (listed' := #[true, true, true, true, false, false, false]) (by rfl) (by kernel_rfl) (by kernel_rfl) (by rfl) (fun K hK => ?_)
  simp only [Act.put, List.getElem_toArray, List.getElem_cons_succ, List.getElem_cons_zero, List.setIfInBounds_toArray, List.set_cons_zero, List.set_cons_succ]
  go_wp2_with fail
  refine Calls.mono (m_sector 2 _) ?_
  rintro e wsec ⟨rfl, hks⟩
  have hS := (⟨hS.1.kept hks, hS.2.kept hks⟩ : _ ∧ _)
  refine hK _ _ (fun _ => hS) ?_; clear hK K
  refine wpAnyE_one (i := 4) (listed' := #[true, true, true, true, true, false, false]) (by rfl) (by kernel_rfl) (by kernel_rfl) (by rfl) (fun K hK => ?_)
  simp only [Act.put, List.getElem_toArray, List.getElem_cons_succ, List.getElem_cons_zero, List.setIfInBounds_toArray, List.set_cons_zero, List.set_cons_succ]
  go_wp2_with fail
  refine Calls.mono (m_WriteE (HB8.out.kept ((Kept.refl _).drew.trans hks)).1 mh2_u 0 3 1 5 (s := secN 2) (secN_len 2) mh2_u1 E2.out) ?_
  rintro e w10 ⟨rfl, hb, hr⟩
  have HB10 := Lib.hid hb
  have S10 := Lib.hid ((hr Bs (.inr rfl)).trans (((Kept.refl _).drew.trans hks).block S8.out))
  have hS := (⟨hS.1.same (hr Bx (.inl (.inl (.inr rfl)))), hS.2.same (hr Bz (.inl (.inr rfl)))⟩ : _ ∧ _)
  clear hb hr hks
  refine hK _ _ (fun _ => hS) ?_; clear hK K
  refine wpAnyE_take (i := 5) (v := ?_) (listed' := #[true, true, true, true, true, true, false]) (by rfl) (by kernel_rfl) (by kernel_rfl) calm_put hS (by rfl) ?_ ?_
  rotate_left
  · intro W hW; clear hW; go_simp; try (with_reducible rfl)
  simp only [Act.put, List.getElem_toArray, List.getElem_cons_succ, List.getElem_cons_zero, List.setIfInBounds_toArray, List.set_cons_zero, List.set_cons_succ]
  refine wpAnyE_one (i := 6) (listed' := #[true, true, true, true, true, true, true]) (by rfl) (by kernel_rfl) (by kernel_rfl) (by rfl) (fun K hK => ?_)
  simp only [Act.put, List.getElem_toArray, List.getElem_cons_succ, List.getElem_cons_zero, List.setIfInBounds_toArray, List.set_cons_zero, List.set_cons_succ]
  go_wp2
  refine hK _ _ (fun _ => hS) ?_; clear hK K
  refine wpAnyE_done (by kernel_rfl) ?_ _
  refine calm_normal ?_

  obtain ⟨⟨p0, p1⟩, q0, q1⟩ := hS
  have X10 : Hid (Pl w10 Bx 0 3) := Lib.hid ⟨p0, p1⟩
  have Z10 : Hid (Pl w10 Bz 1 5) := Lib.hid ⟨q0, q1⟩
  clear X8 Z8 HB8 S8
  go_wp2_with fail
  refine Calls.mono (m_ReadE HB10.out mh3_u 0 3 1 5 R2.out) ?_
  rintro e w11 ⟨rfl, hk⟩
  have HB11 := Lib.hid (HB10.out.kept hk).1
  have X11 := Lib.hid (X10.out.kept hk)
  have Z11 := Lib.hid (Z10.out.kept hk)
  have S11 := Lib.hid (hk.block S10.out)
  clear hk HB10 X10 Z10 p0 p1 q0 q1 S10
  go_wp2_with (refine stop_at (o := ⟨some 8, _, _, _, _, _⟩) ?_)
  refine Stop.mk ?_
  refine wpList_new_row rfl rfl _ _ rfl rfl ty_sec (u8s zeroB) zero_sec (by rw [u8s_length, zeroB_length]) (u8s (secN 2)) rfl (by rw [u8s_length, secN_len]) (u8s_one _) rfl ?_
  intro w12 hz hs hk
  have HB12 := Lib.hid (HB11.out.box hk hs)
  have X12 := Lib.hid (X11.out.kept hk)
  have Z12 := Lib.hid (Z11.out.kept hk)
  have S12 := Lib.hid (hk.block S11.out)
  have Y12 := hz
  generalize w11.heap.size = By at *
  clear hz hs hk HB11 X11 Z11 S11
  go_wp2_with fail
  refine Calls.mono (st_fail HB12.out mh3_u 1 (T' := mh4) rfl rfl) ?_
  rintro e w13 ⟨rfl, hb, hr⟩
  have HB13 := Lib.hid hb
  have X13 := Lib.hid (X12.out.same (hr Bx (.inl (.inl (.inl (.inr rfl))))))
  have Z13 := Lib.hid (Z12.out.same (hr Bz (.inl (.inl (.inr rfl)))))
  have S13 := Lib.hid ((hr Bs (.inl (.inr rfl))).trans S12.out)
  have Y13 := Lib.hid ((hr By (.inr rfl)).trans Y12.out)
  obtain ⟨p0, p1⟩ := X13.out
  obtain ⟨q0, q1⟩ := Z13.out
  clear hb hr HB12 X12 Z12 S12 Y12
  go_wp2_with fail
  refine Calls.mono (m_ReadE HB13.out mh4_u 0 3 1 5 R3.out) ?_
  rintro e w14 ⟨rfl, hk⟩
  have HK14 := Lib.hid (HB13.out.keeps.trans hk)
  have S14 := Lib.hid (hk.block S13.out)
  have Y14 := Lib.hid (hk.block Y13.out)
  clear hk HB13 X13 Z13 S13 Y13 p0 p1 q0 q1
  go_wp2_with (refine stop_at (o := ⟨some 10, _, _, _, _, _⟩) ?_)
  refine Stop.mk ?_
  refine wpList_new_row rfl rfl _ _ rfl rfl ty_sec (u8s zeroB) zero_sec (by rw [u8s_length, zeroB_length]) (u8s zeroB) rfl (by rw [u8s_length, zeroB_length]) (u8s_one _) rfl ?_
  intro w15 hz hs hk
  have HK15 := Lib.hid (HK14.out.trans hk)
  have S15 := Lib.hid (hk.block S14.out)
  have Y15 := Lib.hid (hk.block Y14.out)
  generalize w14.heap.size = B10 at *
  clear hz hs hk HK14 S14 Y14
  go_wp2_with fail
  refine Calls.mono (HH1.out _) ?_
  rintro e w16 ⟨rfl, hk⟩
  have HK16 := Lib.hid (HK15.out.trans hk)
  have S16 := Lib.hid (hk.block S15.out)
  have Y16 := Lib.hid (hk.block Y15.out)
  clear hk HK15 S15 Y15
  go_wp2_with (refine stop_at (o := ⟨some 12, _, _, _, _, _⟩) ?_)
  refine Stop.mk ?_
  refine wpList_new_row rfl rfl _ _ rfl rfl ty_plc _ zero_plc rfl [.int .i64 4, .int .i64 121] rfl rfl (one_plc _ _) rfl ?_
  intro w17 hz hs hk
  have HK17 := Lib.hid (HK16.out.trans hk)
  have S17 := Lib.hid (hk.block S16.out)
  have Y17 := Lib.hid (hk.block Y16.out)
  have P17 := hz
  generalize w16.heap.size = Bp at *
  clear hz hs hk HK16 S16 Y16
  go_wp2_with fail
  refine Calls.mono (HH2.out _) ?_
  rintro e w18 ⟨rfl, hk⟩
  have HK18 := Lib.hid (HK17.out.trans hk)
  have S18 := Lib.hid (hk.block S17.out)
  have Y18 := Lib.hid (hk.block Y17.out)
  have P18 := Lib.hid (hk.block P17.out)
  clear hk HK17 S17 Y17 P17
  go_wp2_with (refine stop_at (o := ⟨some 14, _, _, _, _, _⟩) ?_)
  refine Stop.mk ?_
  refine wpList_new_row rfl rfl _ _ rfl rfl ty_plc _ zero_plc rfl [.int .i64 0, .int .i64 0] rfl rfl (one_plc _ _) rfl ?_
  intro w19 hz hs hk
  have HK19 := Lib.hid (HK18.out.trans hk)
  have S19 := Lib.hid (hk.block S18.out)
  have Y19 := Lib.hid (hk.block Y18.out)
  have P19 := Lib.hid (hk.block P18.out)
  generalize w18.heap.size = B14 at *
  clear hz hs hk HK18 S18 Y18 P18
  go_upto_region 15 with fail
  have hS : Kept w w19.drew ∧ Cells w19.drew Bs 0 (u8s (secN 1)) ∧ Cells w19.drew By 0 (u8s (secN 2)) ∧ Cells w19.drew Bp 0 [.int .i64 4, .int .i64 121] := ⟨HK19.out.drew, Cells.of_block S19.out, Cells.of_block Y19.out, Cells.of_block P19.out⟩
  clear HK19 S19 Y19 P19
  refine wp_region_calm ?_
  refine wp_region_E (fun W => Kept w W ∧ Cells W Bs 0 (u8s (secN 1)) ∧ Cells W By 0 (u8s (secN 2)) ∧ Cells W Bp 0 [.int .i64 4, .int .i64 121]) 100 (by kernel_rfl) ?_
  refine wpAnyE_take (i := 0) (v := ?_) (listed' := #[true, false, false, false, false, false, false, false, false, false, false, false, false, false, false, false, false, false, false, false, false, false, false, false, false, false, false, false, false, false, false, false, false, false, false, false, false, false, false]) (by rfl) (by kernel_rfl) (by kernel_rfl) calm_put hS (by rfl) ?_ ?_
  rotate_left
  · intro W hW; clear hW; go_simp; try (with_reducible rfl)
  simp only [Act.put, List.getElem_toArray, List.getElem_cons_succ, List.getElem_cons_zero, List.setIfInBounds_toArray, List.set_cons_zero, List.set_cons_succ]
  refine wpAnyE_take (i := 1) (v := ?_) (listed' := #[true, true, false, false, false, false, false, false, false, false, false, false, false, false, false, false, false, false, false, false, false, false, false, false, false, false, false, false, false, false, false, false, false, false, false, false, false, false, false]) (by rfl) (by kernel_rfl) (by kernel_rfl) calm_put hS (by rfl) ?_ ?_
  rotate_left
  · intro W hW; clear hW; go_simp; try (with_reducible rfl)
  simp only [Act.put, List.getElem_toArray, List.getElem_cons_succ, List.getElem_cons_zero, List.setIfInBounds_toArray, List.set_cons_zero, List.set_cons_succ]
  refine wpAnyE_take (i := 2) (v := .agg (u8s (secN 1)).toArray) (listed' := #[true, true, true, false, false, false, false, false, false, false, false, false, false, false, false, false, false, false, false, false, false, false, false, false, false, false, false, false, false, false, false, false, false, false, false, false, false, false, false]) (by rfl) (by kernel_rfl) (by kernel_rfl) calm_put hS (by rfl) ?_ ?_
  · intro W hW; skip; exact exec_load_sec _ rfl Bs rfl (secN 1) (secN_len 1) hW.2.1
  simp only [Act.put, List.getElem_toArray, List.getElem_cons_succ, List.getElem_cons_zero, List.setIfInBounds_toArray, List.set_cons_zero, List.set_cons_succ]
  refine wpAnyE_one (i := 3) (listed' := #[true, true, true, true, false, false, false, false, false, false, false, false, false, false, false, false, false, false, false, false, false, false, false, false, false, false, false, false, false, false, false, false, false, false, false, false, false, false, false]) (by rfl) (by kernel_rfl) (by kernel_rfl) (by rfl) (fun K hK => ?_)
  simp only [Act.put, List.getElem_toArray, List.getElem_cons_succ, List.getElem_cons_zero, List.setIfInBounds_toArray, List.set_cons_zero, List.set_cons_succ]
  go_wp2_with fail
  refine Calls.mono (m_sector 1 _) ?_
  rintro e wsec1 ⟨rfl, hks⟩
  have hS := (⟨hS.1.trans hks, hS.2.1.kept hks, hS.2.2.1.kept hks, hS.2.2.2.kept hks⟩ : _ ∧ _ ∧ _ ∧ _)
  clear hks
  refine hK _ _ (fun _ => hS) ?_; clear hK K
  refine wpAnyE_take (i := 4) (v := .bool true) (listed' := #[true, true, true, true, true, false, false, false, false, false, false, false, false, false, false, false, false, false, false, false, false, false, false, false, false, false, false, false, false, false, false, false, false, false, false, false, false, false, false]) (by rfl) (by kernel_rfl) (by kernel_rfl) calm_put hS (by rfl) ?_ ?_
  · intro W hW; clear hW; exact exec_cmp_secE _ _ rfl (secN 1) (secN_len 1) rfl rfl
  simp only [Act.put, List.getElem_toArray, List.getElem_cons_succ, List.getElem_cons_zero, List.setIfInBounds_toArray, List.set_cons_zero, List.set_cons_succ]
  refine wpAnyE_take (i := 5) (v := ?_) (listed' := #[true, true, true, true, true, true, false, false, false, false, false, false, false, false, false, false, false, false, false, false, false, false, false, false, false, false, false, false, false, false, false, false, false, false, false, false, false, false, false]) (by rfl) (by kernel_rfl) (by kernel_rfl) calm_put hS (by rfl) ?_ ?_
  rotate_left
  · intro W hW; clear hW; go_simp; try (with_reducible rfl)
  simp only [Act.put, List.getElem_toArray, List.getElem_cons_succ, List.getElem_cons_zero, List.setIfInBounds_toArray, List.set_cons_zero, List.set_cons_succ]
  refine wpAnyE_take (i := 6) (v := ?_) (listed' := #[true, true, true, true, true, true, true, false, false, false, false, false, false, false, false, false, false, false, false, false, false, false, false, false, false, false, false, false, false, false, false, false, false, false, false, false, false, false, false]) (by rfl) (by kernel_rfl) (by kernel_rfl) calm_put hS (by rfl) ?_ ?_
  rotate_left
  · intro W hW; clear hW; go_simp; try (with_reducible rfl)
  simp only [Act.put, List.getElem_toArray, List.getElem_cons_succ, List.getElem_cons_zero, List.setIfInBounds_toArray, List.set_cons_zero, List.set_cons_succ]
  refine wpAnyE_take (i := 7) (v := ?_) (listed' := #[true, true, true, true, true, true, true, true, false, false, false, false, false, false, false, false, false, false, false, false, false, false, false, false, false, false, false, false, false, false, false, false, false, false, false, false, false, false, false]) (by rfl) (by kernel_rfl) (by kernel_rfl) calm_put hS (by rfl) ?_ ?_
  rotate_left
  · intro W hW; clear hW; go_simp; try (with_reducible rfl)
  simp only [Act.put, List.getElem_toArray, List.getElem_cons_succ, List.getElem_cons_zero, List.setIfInBounds_toArray, List.set_cons_zero, List.set_cons_succ]
  refine wpAnyE_take (i := 8) (v := ?_) (listed' := #[true, true, true, true, true, true, true, true, true, false, false, false, false, false, false, false, false, false, false, false, false, false, false, false, false, false, false, false, false, false, false, false, false, false, false, false, false, false, false]) (by rfl) (by kernel_rfl) (by kernel_rfl) calm_put hS (by rfl) ?_ ?_
  rotate_left
  · intro W hW; clear hW; go_simp; try (with_reducible rfl)
  simp only [Act.put, List.getElem_toArray, List.getElem_cons_succ, List.getElem_cons_zero, List.setIfInBounds_toArray, List.set_cons_zero, List.set_cons_succ]
  refine wpAnyE_take (i := 9) (v := ?_) (listed' := #[true, true, true, true, true, true, true, true, true, true, false, false, false, false, false, false, false, false, false, false, false, false, false, false, false, false, false, false, false, false, false, false, false, false, false, false, false, false, false]) (by rfl) (by kernel_rfl) (by kernel_rfl) calm_put hS (by rfl) ?_ ?_
  rotate_left
  · intro W hW; clear hW; go_simp; try (with_reducible rfl)
  simp only [Act.put, List.getElem_toArray, List.getElem_cons_succ, List.getElem_cons_zero, List.setIfInBounds_toArray, List.set_cons_zero, List.set_cons_succ]
  refine wpAnyE_take (i := 10) (v := ?_) (listed' := #[true, true, true, true, true, true, true, true, true, true, true, false, false, false, false, false, false, false, false, false, false, false, false, false, false, false, false, false, false, false, false, false, false, false, false, false, false, false, false]) (by rfl) (by kernel_rfl) (by kernel_rfl) calm_put hS (by rfl) ?_ ?_
  rotate_left
  · intro W hW; clear hW; go_simp; try (with_reducible rfl)
  simp only [Act.put, List.getElem_toArray, List.getElem_cons_succ, List.getElem_cons_zero, List.setIfInBounds_toArray, List.set_cons_zero, List.set_cons_succ]
  refine wpAnyE_take (i := 11) (v := ?_) (listed' := #[true, true, true, true, true, true, true, true, true, true, true, true, false, false, false, false, false, false, false, false, false, false, false, false, false, false, false, false, false, false, false, false, false, false, false, false, false, false, false]) (by rfl) (by kernel_rfl) (by kernel_rfl) calm_put hS (by rfl) ?_ ?_
  rotate_left
  · intro W hW; clear hW; go_simp; try (with_reducible rfl)
  simp only [Act.put, List.getElem_toArray, List.getElem_cons_succ, List.getElem_cons_zero, List.setIfInBounds_toArray, List.set_cons_zero, List.set_cons_succ]
  refine wpAnyE_take (i := 12) (v := ?_) (listed' := #[true, true, true, true, true, true, true, true, true, true, true, true, true, false, false, false, false, false, false, false, false, false, false, false, false, false, false, false, false, false, false, false, false, false, false, false, false, false, false]) (by rfl) (by kernel_rfl) (by kernel_rfl) calm_put hS (by rfl) ?_ ?_
  rotate_left
  · intro W hW; clear hW; go_simp; try (with_reducible rfl)
  simp only [Act.put, List.getElem_toArray, List.getElem_cons_succ, List.getElem_cons_zero, List.setIfInBounds_toArray, List.set_cons_zero, List.set_cons_succ]
  refine wpAnyE_take (i := 13) (v := ?_) (listed' := #[true, true, true, true, true, true, true, true, true, true, true, true, true, true, false, false, false, false, false, false, false, false, false, false, false, false, false, false, false, false, false, false, false, false, false, false, false, false, false]) (by rfl) (by kernel_rfl) (by kernel_rfl) calm_put hS (by rfl) ?_ ?_
  rotate_left
  · intro W hW; clear hW; go_simp; try (with_reducible rfl)
  simp only [Act.put, List.getElem_toArray, List.getElem_cons_succ, List.getElem_cons_zero, List.setIfInBounds_toArray, List.set_cons_zero, List.set_cons_succ]
  refine wpAnyE_take (i := 14) (v := .agg (u8s (secN 2)).toArray) (listed' := #[true, true, true, true, true, true, true, true, true, true, true, true, true, true, true, false, false, false, false, false, false, false, false, false, false, false, false, false, false, false, false, false, false, false, false, false, false, false, false]) (by rfl) (by kernel_rfl) (by kernel_rfl) calm_put hS (by rfl) ?_ ?_
  · intro W hW; skip; exact exec_load_sec _ rfl By rfl (secN 2) (secN_len 2) hW.2.2.1
  simp only [Act.put, List.getElem_toArray, List.getElem_cons_succ, List.getElem_cons_zero, List.setIfInBounds_toArray, List.set_cons_zero, List.set_cons_succ]
  refine wpAnyE_one (i := 15) (listed' := #[true, true, true, true, true, true, true, true, true, true, true, true, true, true, true, true, false, false, false, false, false, false, false, false, false, false, false, false, false, false, false, false, false, false, false, false, false, false, false]) (by rfl) (by kernel_rfl) (by kernel_rfl) (by rfl) (fun K hK => ?_)
  simp only [Act.put, List.getElem_toArray, List.getElem_cons_succ, List.getElem_cons_zero, List.setIfInBounds_toArray, List.set_cons_zero, List.set_cons_succ]
  go_wp2_with fail
  refine Calls.mono (m_sector 2 _) ?_
  rintro e wsec2 ⟨rfl, hks⟩
  have hS := (⟨hS.1.trans hks, hS.2.1.kept hks, hS.2.2.1.kept hks, hS.2.2.2.kept hks⟩ : _ ∧ _ ∧ _ ∧ _)
  clear hks
  refine hK _ _ (fun _ => hS) ?_; clear hK K
  refine wpAnyE_take (i := 16) (v := .bool true) (listed' := #[true, true, true, true, true, true, true, true, true, true, true, true, true, true, true, true, true, false, false, false, false, false, false, false, false, false, false, false, false, false, false, false, false, false, false, false, false, false, false]) (by rfl) (by kernel_rfl) (by kernel_rfl) calm_put hS (by rfl) ?_ ?_
  · intro W hW; clear hW; exact exec_cmp_secE _ _ rfl (secN 2) (secN_len 2) rfl rfl
  simp only [Act.put, List.getElem_toArray, List.getElem_cons_succ, List.getElem_cons_zero, List.setIfInBounds_toArray, List.set_cons_zero, List.set_cons_succ]
  refine wpAnyE_take (i := 17) (v := ?_) (listed' := #[true, true, true, true, true, true, true, true, true, true, true, true, true, true, true, true, true, true, false, false, false, false, false, false, false, false, false, false, false, false, false, false, false, false, false, false, false, false, false]) (by rfl) (by kernel_rfl) (by kernel_rfl) calm_put hS (by rfl) ?_ ?_
  rotate_left
  · intro W hW; clear hW; go_simp; try (with_reducible rfl)
  simp only [Act.put, List.getElem_toArray, List.getElem_cons_succ, List.getElem_cons_zero, List.setIfInBounds_toArray, List.set_cons_zero, List.set_cons_succ]
  refine wpAnyE_take (i := 18) (v := ?_) (listed' := #[true, true, true, true, true, true, true, true, true, true, true, true, true, true, true, true, true, true, true, false, false, false, false, false, false, false, false, false, false, false, false, false, false, false, false, false, false, false, false]) (by rfl) (by kernel_rfl) (by kernel_rfl) calm_put hS (by rfl) ?_ ?_
  rotate_left
  · intro W hW; clear hW; go_simp; try (with_reducible rfl)
  simp only [Act.put, List.getElem_toArray, List.getElem_cons_succ, List.getElem_cons_zero, List.setIfInBounds_toArray, List.set_cons_zero, List.set_cons_succ]
  refine wpAnyE_take (i := 19) (v := ?_) (listed' := #[true, true, true, true, true, true, true, true, true, true, true, true, true, true, true, true, true, true, true, true, false, false, false, false, false, false, false, false, false, false, false, false, false, false, false, false, false, false, false]) (by rfl) (by kernel_rfl) (by kernel_rfl) calm_put hS (by rfl) ?_ ?_
  rotate_left
  · intro W hW; clear hW; go_simp; try (with_reducible rfl)
  simp only [Act.put, List.getElem_toArray, List.getElem_cons_succ, List.getElem_cons_zero, List.setIfInBounds_toArray, List.set_cons_zero, List.set_cons_succ]
  refine wpAnyE_take (i := 20) (v := ?_) (listed' := #[true, true, true, true, true, true, true, true, true, true, true, true, true, true, true, true, true, true, true, true, true, false, false, false, false, false, false, false, false, false, false, false, false, false, false, false, false, false, false]) (by rfl) (by kernel_rfl) (by kernel_rfl) calm_put hS (by rfl) ?_ ?_
  rotate_left
  · intro W hW; clear hW; go_simp; try (with_reducible rfl)
  simp only [Act.put, List.getElem_toArray, List.getElem_cons_succ, List.getElem_cons_zero, List.setIfInBounds_toArray, List.set_cons_zero, List.set_cons_succ]
  refine wpAnyE_take (i := 21) (v := ?_) (listed' := #[true, true, true, true, true, true, true, true, true, true, true, true, true, true, true, true, true, true, true, true, true, true, false, false, false, false, false, false, false, false, false, false, false, false, false, false, false, false, false]) (by rfl) (by kernel_rfl) (by kernel_rfl) calm_put hS (by rfl) ?_ ?_
  rotate_left
  · intro W hW; clear hW; go_simp; try (with_reducible rfl)
  simp only [Act.put, List.getElem_toArray, List.getElem_cons_succ, List.getElem_cons_zero, List.setIfInBounds_toArray, List.set_cons_zero, List.set_cons_succ]
  refine wpAnyE_take (i := 22) (v := ?_) (listed' := #[true, true, true, true, true, true, true, true, true, true, true, true, true, true, true, true, true, true, true, true, true, true, true, false, false, false, false, false, false, false, false, false, false, false, false, false, false, false, false]) (by rfl) (by kernel_rfl) (by kernel_rfl) calm_put hS (by rfl) ?_ ?_
  rotate_left
  · intro W hW; clear hW; go_simp; try (with_reducible rfl)
  simp only [Act.put, List.getElem_toArray, List.getElem_cons_succ, List.getElem_cons_zero, List.setIfInBounds_toArray, List.set_cons_zero, List.set_cons_succ]
  refine wpAnyE_take (i := 23) (v := ?_) (listed' := #[true, true, true, true, true, true, true, true, true, true, true, true, true, true, true, true, true, true, true, true, true, true, true, true, false, false, false, false, false, false, false, false, false, false, false, false, false, false, false]) (by rfl) (by kernel_rfl) (by kernel_rfl) calm_put hS (by rfl) ?_ ?_
  rotate_left
  · intro W hW; clear hW; go_simp; try (with_reducible rfl)
  simp only [Act.put, List.getElem_toArray, List.getElem_cons_succ, List.getElem_cons_zero, List.setIfInBounds_toArray, List.set_cons_zero, List.set_cons_succ]
  refine wpAnyE_take (i := 24) (v := ?_) (listed' := #[true, true, true, true, true, true, true, true, true, true, true, true, true, true, true, true, true, true, true, true, true, true, true, true, true, false, false, false, false, false, false, false, false, false, false, false, false, false, false]) (by rfl) (by kernel_rfl) (by kernel_rfl) calm_put hS (by rfl) ?_ ?_
  rotate_left
  · intro W hW; clear hW; go_simp; try (with_reducible rfl)
  simp only [Act.put, List.getElem_toArray, List.getElem_cons_succ, List.getElem_cons_zero, List.setIfInBounds_toArray, List.set_cons_zero, List.set_cons_succ]
  refine wpAnyE_take (i := 25) (v := ?_) (listed' := #[true, true, true, true, true, true, true, true, true, true, true, true, true, true, true, true, true, true, true, true, true, true, true, true, true, true, false, false, false, false, false, false, false, false, false, false, false, false, false]) (by rfl) (by kernel_rfl) (by kernel_rfl) calm_put hS (by rfl) ?_ ?_
  rotate_left
  · intro W hW; clear hW; go_simp; try (with_reducible rfl)
  simp only [Act.put, List.getElem_toArray, List.getElem_cons_succ, List.getElem_cons_zero, List.setIfInBounds_toArray, List.set_cons_zero, List.set_cons_succ]
  refine wpAnyE_take (i := 26) (v := ?_) (listed' := #[true, true, true, true, true, true, true, true, true, true, true, true, true, true, true, true, true, true, true, true, true, true, true, true, true, true, true, false, false, false, false, false, false, false, false, false, false, false, false]) (by rfl) (by kernel_rfl) (by kernel_rfl) calm_put hS (by rfl) ?_ ?_
  rotate_left
  · intro W hW; clear hW; go_simp; try (with_reducible rfl)
  simp only [Act.put, List.getElem_toArray, List.getElem_cons_succ, List.getElem_cons_zero, List.setIfInBounds_toArray, List.set_cons_zero, List.set_cons_succ]
  refine wpAnyE_take (i := 27) (v := .agg #[.int .i64 4, .int .i64 121]) (listed' := #[true, true, true, true, true, true, true, true, true, true, true, true, true, true, true, true, true, true, true, true, true, true, true, true, true, true, true, true, false, false, false, false, false, false, false, false, false, false, false]) (by rfl) (by kernel_rfl) (by kernel_rfl) calm_put hS (by rfl) ?_ ?_
  · intro W hW; skip; exact exec_load_plc _ rfl Bp rfl [.int .i64 4, .int .i64 121] rfl hW.2.2.2
  simp only [Act.put, List.getElem_toArray, List.getElem_cons_succ, List.getElem_cons_zero, List.setIfInBounds_toArray, List.set_cons_zero, List.set_cons_succ]
  refine wpAnyE_take (i := 28) (v := ?_) (listed' := #[true, true, true, true, true, true, true, true, true, true, true, true, true, true, true, true, true, true, true, true, true, true, true, true, true, true, true, true, true, false, false, false, false, false, false, false, false, false, false]) (by rfl) (by kernel_rfl) (by kernel_rfl) calm_put hS (by rfl) ?_ ?_
  rotate_left
  · intro W hW; clear hW; go_simp; try (with_reducible rfl)
  simp only [Act.put, List.getElem_toArray, List.getElem_cons_succ, List.getElem_cons_zero, List.setIfInBounds_toArray, List.set_cons_zero, List.set_cons_succ]
  refine wpAnyE_take (i := 29) (v := .bool true) (listed' := #[true, true, true, true, true, true, true, true, true, true, true, true, true, true, true, true, true, true, true, true, true, true, true, true, true, true, true, true, true, true, false, false, false, false, false, false, false, false, false]) (by rfl) (by kernel_rfl) (by kernel_rfl) calm_put hS (by rfl) ?_ ?_
  · intro W hW; clear hW; exact exec_eq_plc _ _ rfl 4 121 4 121 rfl rfl
  simp only [Act.put, List.getElem_toArray, List.getElem_cons_succ, List.getElem_cons_zero, List.setIfInBounds_toArray, List.set_cons_zero, List.set_cons_succ]
  refine wpAnyE_take (i := 30) (v := ?_) (listed' := #[true, true, true, true, true, true, true, true, true, true, true, true, true, true, true, true, true, true, true, true, true, true, true, true, true, true, true, true, true, true, true, false, false, false, false, false, false, false, false]) (by rfl) (by kernel_rfl) (by kernel_rfl) calm_put hS (by rfl) ?_ ?_
  rotate_left
  · intro W hW; clear hW; go_simp; try (with_reducible rfl)
  simp only [Act.put, List.getElem_toArray, List.getElem_cons_succ, List.getElem_cons_zero, List.setIfInBounds_toArray, List.set_cons_zero, List.set_cons_succ]
  refine wpAnyE_take (i := 31) (v := ?_) (listed' := #[true, true, true, true, true, true, true, true, true, true, true, true, true, true, true, true, true, true, true, true, true, true, true, true, true, true, true, true, true, true, true, true, false, false, false, false, false, false, false]) (by rfl) (by kernel_rfl) (by kernel_rfl) calm_put hS (by rfl) ?_ ?_
  rotate_left
  · intro W hW; clear hW; go_simp; try (with_reducible rfl)
  simp only [Act.put, List.getElem_toArray, List.getElem_cons_succ, List.getElem_cons_zero, List.setIfInBounds_toArray, List.set_cons_zero, List.set_cons_succ]
  refine wpAnyE_take (i := 32) (v := ?_) (listed' := #[true, true, true, true, true, true, true, true, true, true, true, true, true, true, true, true, true, true, true, true, true, true, true, true, true, true, true, true, true, true, true, true, true, false, false, false, false, false, false]) (by rfl) (by kernel_rfl) (by kernel_rfl) calm_put hS (by rfl) ?_ ?_
  rotate_left
  · intro W hW; clear hW; go_simp; try (with_reducible rfl)
  simp only [Act.put, List.getElem_toArray, List.getElem_cons_succ, List.getElem_cons_zero, List.setIfInBounds_toArray, List.set_cons_zero, List.set_cons_succ]
  refine wpAnyE_take (i := 33) (v := ?_) (listed' := #[true, true, true, true, true, true, true, true, true, true, true, true, true, true, true, true, true, true, true, true, true, true, true, true, true, true, true, true, true, true, true, true, true, true, false, false, false, false, false]) (by rfl) (by kernel_rfl) (by kernel_rfl) calm_put hS (by rfl) ?_ ?_
  rotate_left
  · intro W hW; clear hW; go_simp; try (with_reducible rfl)
  simp only [Act.put, List.getElem_toArray, List.getElem_cons_succ, List.getElem_cons_zero, List.setIfInBounds_toArray, List.set_cons_zero, List.set_cons_succ]
  refine wpAnyE_take (i := 34) (v := ?_) (listed' := #[true, true, true, true, true, true, true, true, true, true, true, true, true, true, true, true, true, true, true, true, true, true, true, true, true, true, true, true, true, true, true, true, true, true, true, false, false, false, false]) (by rfl) (by kernel_rfl) (by kernel_rfl) calm_put hS (by rfl) ?_ ?_
  rotate_left
  · intro W hW; clear hW; go_simp; try (with_reducible rfl)
  simp only [Act.put, List.getElem_toArray, List.getElem_cons_succ, List.getElem_cons_zero, List.setIfInBounds_toArray, List.set_cons_zero, List.set_cons_succ]
  refine wpAnyE_take (i := 35) (v := ?_) (listed' := #[true, true, true, true, true, true, true, true, true, true, true, true, true, true, true, true, true, true, true, true, true, true, true, true, true, true, true, true, true, true, true, true, true, true, true, true, false, false, false]) (by rfl) (by kernel_rfl) (by kernel_rfl) calm_put hS (by rfl) ?_ ?_
  rotate_left
  · intro W hW; clear hW; go_simp; try (with_reducible rfl)
  simp only [Act.put, List.getElem_toArray, List.getElem_cons_succ, List.getElem_cons_zero, List.setIfInBounds_toArray, List.set_cons_zero, List.set_cons_succ]
  refine wpAnyE_take (i := 36) (v := ?_) (listed' := #[true, true, true, true, true, true, true, true, true, true, true, true, true, true, true, true, true, true, true, true, true, true, true, true, true, true, true, true, true, true, true, true, true, true, true, true, true, false, false]) (by rfl) (by kernel_rfl) (by kernel_rfl) calm_put hS (by rfl) ?_ ?_
  rotate_left
  · intro W hW; clear hW; go_simp; try (with_reducible rfl)
  simp only [Act.put, List.getElem_toArray, List.getElem_cons_succ, List.getElem_cons_zero, List.setIfInBounds_toArray, List.set_cons_zero, List.set_cons_succ]
  refine wpAnyE_take (i := 37) (v := ?_) (listed' := #[true, true, true, true, true, true, true, true, true, true, true, true, true, true, true, true, true, true, true, true, true, true, true, true, true, true, true, true, true, true, true, true, true, true, true, true, true, true, false]) (by rfl) (by kernel_rfl) (by kernel_rfl) calm_put hS (by rfl) ?_ ?_
  rotate_left
  · intro W hW; clear hW; go_simp; try (with_reducible rfl)
  simp only [Act.put, List.getElem_toArray, List.getElem_cons_succ, List.getElem_cons_zero, List.setIfInBounds_toArray, List.set_cons_zero, List.set_cons_succ]
  refine wpAnyE_one (i := 38) (listed' := #[true, true, true, true, true, true, true, true, true, true, true, true, true, true, true, true, true, true, true, true, true, true, true, true, true, true, true, true, true, true, true, true, true, true, true, true, true, true, true]) (by rfl) (by kernel_rfl) (by kernel_rfl) (by rfl) (fun K hK => ?_)
  simp only [Act.put, List.getElem_toArray, List.getElem_cons_succ, List.getElem_cons_zero, List.setIfInBounds_toArray, List.set_cons_zero, List.set_cons_succ]
  go_wp2
  refine hK _ _ (fun _ => hS) ?_; clear hK K
  refine wpAnyE_done (by kernel_rfl) ?_ _
  refine calm_normal ?_

  go_wp2
  go_ret
  exact ⟨rfl, hS.1⟩
end
end Go.Proofs.Ytglplhmclfekfaa
