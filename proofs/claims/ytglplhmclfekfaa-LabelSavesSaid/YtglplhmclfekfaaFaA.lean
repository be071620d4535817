/- FaA: several texts in one: Mia Mja Mid Mie Mij Mif. -/
import Derived.Test.YtglplhmclfekfaaLiv
import Derived.Test.YtglplhmclfekfaaMic
import Derived.Test.YtglplhmclfekfaaDlh
import Derived.Test.YtglplhmclfekfaaDlw
import Derived.Test.YtglplhmclfekfaaDlv
import Derived.ScopeJumps
import Derived.WalkMore
/- What the mirror makes of a bank, in plain Lean. -/
namespace Go.Proofs.Ytglplhmclfekfaa
open Go.RowKit
set_option linter.unusedVariables false
set_option linter.unusedSimpArgs false


/-- what mirror.Write does -/
def BankT.mWrite (T : BankT) (x0 x1 y0 y1 : Int) (s : List Int) : BankT × Int :=
  if (T.write x0 x1 s).2 ≠ 0 ∧ lostB (T.write x0 x1 s).2 = false then T.write x0 x1 s
  else if ((T.write x0 x1 s).1.write y0 y1 s).2 ≠ 0 ∧ lostB ((T.write x0 x1 s).1.write y0 y1 s).2 = false then (T.write x0 x1 s).1.write y0 y1 s
  else (((T.write x0 x1 s).1.write y0 y1 s).1, if (T.write x0 x1 s).2 = 0 ∨ ((T.write x0 x1 s).1.write y0 y1 s).2 = 0 then 0 else 5)
/-- what mirror.Read tells -/
def BankT.mRead (T : BankT) (x0 x1 y0 y1 : Int) : List Int × Int :=
  if lostB (T.read x0 x1).2 then (if lostB (T.read y0 y1).2 then ((T.read y0 y1).1, 5) else T.read y0 y1) else T.read x0 x1
/-- what mirror.Alike does -/
def BankT.mAlike (T : BankT) (x0 x1 y0 y1 : Int) : BankT × Bool × Int :=
  if (T.read x0 x1).2 ≠ 0 ∧ lostB (T.read x0 x1).2 = false then (T, false, (T.read x0 x1).2)
  else if (T.read y0 y1).2 ≠ 0 ∧ lostB (T.read y0 y1).2 = false then (T, false, (T.read y0 y1).2)
  else if (T.read x0 x1).2 ≠ 0 ∧ (T.read y0 y1).2 ≠ 0 then (T, false, 5)
  else if (T.read x0 x1).2 ≠ 0 ∨ (T.read y0 y1).2 ≠ 0 ∨ (T.read x0 x1).1 = (T.read y0 y1).1 then (T, false, 0)
  else if lostB (T.write y0 y1 (T.read x0 x1).1).2 then ((T.write y0 y1 (T.read x0 x1).1).1, false, 0)
  else ((T.write y0 y1 (T.read x0 x1).1).1, (T.write y0 y1 (T.read x0 x1).1).2 == 0, (T.write y0 y1 (T.read x0 x1).1).2)
/-- what mirror.Copy does -/
def BankT.mCopy (T : BankT) (x0 x1 y0 y1 : Int) : BankT × Int :=
  if (T.read x0 x1).2 ≠ 0 then (T, (T.read x0 x1).2) else T.write y0 y1 (T.read x0 x1).1
end Go.Proofs.Ytglplhmclfekfaa
/- A place in memory: rules. -/
namespace Go.Proofs.Ytglplhmclfekfaa
open Go.RowKit
set_option linter.unusedVariables false
set_option linter.unusedSimpArgs false

theorem one_plc (x y : Int) : ∀ u ∈ [Value.int .i64 x, .int .i64 y], u.oneCell' = true := by intro u hu; simp at hu; rcases hu with rfl | rfl <;> rfl
/-- a place lies in block b -/
def Pl (W : World) (b : Nat) (x y : Int) : Prop := W.cell? ⟨b, 0, none⟩ = some (.int .i64 x) ∧ W.cell? ⟨b, 1, none⟩ = some (.int .i64 y)
theorem Pl.kept {W W' : World} {b : Nat} {x y : Int} (h : Pl W b x y) (hk : Kept W W') : Pl W' b x y := ⟨hk.cell' h.1, hk.cell' h.2⟩
theorem Pl.same {W W' : World} {b : Nat} {x y : Int} (h : Pl W b x y) (hs : W'.heap[b]? = W.heap[b]?) : Pl W' b x y :=
  ⟨(World.cell?_of_block (a := ⟨b, 0, none⟩) hs).trans h.1, (World.cell?_of_block (a := ⟨b, 1, none⟩) hs).trans h.2⟩
theorem Pl.of {W : World} {b : Nat} {x y : Int} (h : W.heap[b]? = some (.cells [Value.int .i64 x, .int .i64 y].toArray 32 (0, 0))) : Pl W b x y := ⟨cell_of_row _ _ 0 _ _ _ h, cell_of_row _ _ 1 _ _ _ h⟩
theorem exec_load_plc {W : World} {a : Act} {o : Oper} (x : Operand) (ho : o.op = .load 32 x) (b : Nat) (hx : a.eval x = .pointer (some ⟨b, 0, none⟩)) (xs : List Value) (hl : xs.length = 2) (hc : Cells W b 0 xs) :
    (execOp a.eval o).run Try.prog W = .ok (.value (.agg xs.toArray)) W := by
  obtain ⟨⟨d, hd1, hd2⟩, hs⟩ := ty_plc
  unfold execOp
  simp only [ho, hx, Instr.loadAt, Instr.sureAddr, Sem.run_bind, Sem.run_pure, Result.andThen_ok, run_loadVar_mid W b 0 32 xs d (rangeAt_of_cells hc) hd1 hd2 (by rw [hs, hl])]
theorem exec_eq_plc {W : World} {a : Act} {o : Oper} (x y : Operand) {t' : TypeId} (ho : o.op = .binOp .eql 32 x y t') (p q r s : Int) (hx : a.eval x = .agg #[.int .i64 p, .int .i64 q]) (hy : a.eval y = .agg #[.int .i64 r, .int .i64 s]) :
    (execOp a.eval o).run Try.prog W = .ok (.value (.bool (p == r && q == s))) W := by
  have heq := run_equal_plc W p q r s
  unfold execOp
  simp only [ho, hx, hy, Sem.run_bind]
  rw [run_eqGuard_agg _ _ _ _ _ _ _ eqg_plc]
  simp only [Result.andThen_ok]
  rw [run_eql_struct]
  simp only [Op.equal, Op.maxDepth, heq, Result.andThen_ok, Sem.run_pure, Sem.run_bind]
section
variable {P : Program} {ops : Array Oper} {rest : List Oper} {o : Oper} {a : Act} {w : World} {Q : Exit → Act → World → Prop}
/-- a parameter of many cells that lies in a block of its own; the world a letter -/
theorem wpList_box_row (hgd : Region.wanted o (yielded ops a.tmps) = true) (T : TypeId) (x : Operand) (ho : o.op = .box T x) (zs : List Value) (hx : a.eval x = .agg zs.toArray)
    (h : ∀ w1, Hid (w1.heap[w.heap.size]? = some (.cells zs.toArray T (0, 0))) → w.heap.size < w1.heap.size → Kept w w1 → wpList P ops Q rest (a.put o.dst (.pointer (some ⟨w.heap.size, 0, none⟩))) w1) : wpList P ops Q (o :: rest) a w := by
  refine BigFrame.wpList_want hgd fun K hK => ?_
  unfold Oper.wp execOp
  simp only [ho, hx, Instr.box, newVar, newRow, Sem.run_bind, Result.andThen_ok, Sem.run_pure, run_newObj_alloc, Value.cells]
  exact hK _ _ (h _ (Lib.hid (heap_alloc_new w _)) (by simp) ((Kept.refl _).alloc _))
end
theorem BankT.inE_zero {T : BankT} {d a : Int} (h : T.inE d a = 0) : ∃ k b : Nat, d = (k : Int) ∧ a = (b : Int) ∧ k < T.l.length ∧ b < (T.d k).sin.length := by
  unfold BankT.inE at h
  by_cases hr : T.readyE d ≠ 0
  · rw [if_pos hr] at h; exact absurd h hr
  · rw [if_neg hr] at h
    obtain ⟨k, rfl, hk⟩ := BankT.readyE_in (by simpa using hr)
    rw [Int.toNat_natCast] at h
    by_cases hb : a < 0 ∨ ((T.d k).sin.length : Int) ≤ a
    · rw [if_pos hb] at h; cases h
    · exact ⟨k, a.toNat, rfl, by omega, hk, by omega⟩
theorem zeroB_byte : zeroB.length = 64 ∧ ∀ x ∈ zeroB, IsByte x := by
  refine ⟨zeroB_length, fun x hx => ?_⟩
  have : x = 0 := List.eq_of_mem_replicate (n := 64) (by rw [show List.replicate 64 (0 : Int) = zeroB by decide]; exact hx)
  rw [this]; unfold IsByte; decide
theorem BankT.read_sec {T : BankT} (h : T.Inv) (d a : Int) : (T.read d a).1.length = 64 ∧ ∀ x ∈ (T.read d a).1, IsByte x := by
  unfold BankT.read
  by_cases hi : T.inE d a = 0
  · obtain ⟨k, b, rfl, rfl, hk, hb⟩ := BankT.inE_zero hi
    rw [if_pos hi, Int.toNat_natCast, Int.toNat_natCast]
    exact (h.ok.d hk).new.at hb
  · rw [if_neg hi]; exact zeroB_byte
section
variable {w0 W : World} {R : Nat → Prop} {q : Nat} {T : BankT}
theorem BK.box {w1 : World} (h : BK w0 R W q T) (hk : Kept W w1) (hs : W.heap.size < w1.heap.size) : BK w0 (fun k => R k ∨ k = W.heap.size) w1 q T := h.more hk _ (Nat.le_refl _) hs
end
end Go.Proofs.Ytglplhmclfekfaa
/- mirror: Copy and Read on a law's bank. -/
namespace Go.Proofs.Ytglplhmclfekfaa
open Go.RowKit
set_option linter.unusedVariables false
set_option linter.unusedSimpArgs false

section
variable {w0 W : World} {R : Nat → Prop} {q : Nat} {T : BankT}
set_option maxHeartbeats 2000000
set_option maxRecDepth 100000
theorem m_Copy (h : BK w0 R W q T) (u : T.Use) (x0 x1 y0 y1 : Int) :
    Calls Try.prog 105 #[.pointer (some ⟨q, 0, none⟩), .agg #[.int .i64 x0, .int .i64 x1], .agg #[.int .i64 y0, .int .i64 y1]] W fun e w' => e = .returned (.int .i64 (T.mCopy x0 x1 y0 y1).2) ∧ BK w0 R w' q (T.mCopy x0 x1 y0 y1).1 ∧ SameR R W w' := by
  obtain ⟨xs, c, hr⟩ : ∃ xs c, T.read x0 x1 = (xs, c) := ⟨_, _, rfl⟩
  have hx64 : xs.length = 64 := by have := (BankT.read_sec u.inv x0 x1).1; rw [hr] at this; exact this
  unfold BankT.mCopy
  rw [hr]
  obtain ⟨T', c', hw⟩ : ∃ T' c', T.write y0 y1 xs = (T', c') := ⟨_, _, rfl⟩
  simp only []
  rw [hw]
  obtain ⟨Tr, cr, hres⟩ : ∃ Tr cr, (if c ≠ 0 then (T, c) else (T', c')) = (Tr, cr) := ⟨_, _, rfl⟩
  rw [hres]
  have HR := Lib.hid hr; have HW := Lib.hid hw; have HX := Lib.hid hx64; have HU := Lib.hid u; have HB := Lib.hid h; have HRES := Lib.hid hres
  clear hr hw hx64 u h hres
  go_enter Try.func105, Try.ntmps105
  go_wp2_with (refine stop_at (o := ⟨some 4, _, _, _, _, _⟩) ?_)
  refine Stop.mk ?_
  refine wpList_box_row rfl _ _ rfl [.int .i64 x0, .int .i64 x1] rfl ?_
  intro w1 hz1 hs1 hk1
  have p0 : w1.cell? ⟨W.heap.size, 0, none⟩ = some (.int .i64 x0) := cell_of_row _ _ 0 _ _ _ hz1.out
  have p1 : w1.cell? ⟨W.heap.size, 1, none⟩ = some (.int .i64 x1) := cell_of_row _ _ 1 _ _ _ hz1.out
  have HB1 := Lib.hid (HB.out.box hk1 hs1)
  have HS := Lib.hid (show SameR R W w1 from (HB.out.kept hk1).2)
  generalize W.heap.size = X at *
  clear hz1 hs1 hk1
  go_wp2_with (refine stop_at (o := ⟨some 5, _, _, _, _, _⟩) ?_)
  refine Stop.mk ?_
  refine wpList_box_row rfl _ _ rfl [.int .i64 y0, .int .i64 y1] rfl ?_
  intro w2 hz2 hs2 hk2
  have q0 : w2.cell? ⟨w1.heap.size, 0, none⟩ = some (.int .i64 y0) := cell_of_row _ _ 0 _ _ _ hz2.out
  have q1 : w2.cell? ⟨w1.heap.size, 1, none⟩ = some (.int .i64 y1) := cell_of_row _ _ 1 _ _ _ hz2.out
  replace p0 := hk2.cell' p0
  replace p1 := hk2.cell' p1
  have HB2 := Lib.hid (HB1.out.box hk2 hs2)
  replace HS := Lib.hid (show SameR R W w2 from HS.out.trans fun k hk => (HB1.out.kept hk2).2 k (.inl hk))
  generalize w1.heap.size = Yb at *
  clear hz2 hs2 hk2 HB1 HB
  go_wp2_with fail
  refine Calls.mono (st_read HB2.out HU.out x0 x1 HR.out) ?_
  rintro e w3 ⟨rfl, hb3, hk3⟩
  have HB3 := Lib.hid hb3
  replace q0 := hk3.cell' q0
  replace q1 := hk3.cell' q1
  replace HS := Lib.hid (show SameR R W w3 from HS.out.trans fun k hk => (HB2.out.kept hk3).2 k (.inl (.inl hk)))
  clear hb3 hk3 HB2 p0 p1
  go_wp2_with (refine stop_at (o := ⟨some 7, _, _, _, _, _⟩) ?_)
  refine Stop.mk ?_
  refine wpList_new_row rfl rfl _ _ rfl rfl ty_sec (u8s zeroB) zero_sec (by rw [u8s_length, zeroB_length]) (u8s xs) rfl (by rw [u8s_length, HX.out]) (u8s_one _) rfl ?_
  intro w4 hz4 hs4 hk4
  have HB4 := Lib.hid (HB3.out.kept hk4).1
  have HX4 := hz4
  replace q0 := hk4.cell' q0
  replace q1 := hk4.cell' q1
  replace HS := Lib.hid (show SameR R W w4 from HS.out.trans fun k hk => (HB3.out.kept hk4).2 k (.inl (.inl hk)))
  clear hz4 hs4 hk4 HB3
  by_cases hc : c = 0
  · subst hc
    have hres := HRES.out
    rw [if_neg (by decide)] at hres
    obtain ⟨rfl, rfl⟩ : T' = Tr ∧ c' = cr := by cases hres; exact ⟨rfl, rfl⟩
    clear hres HRES
    go_wp2_with (refine stop_at (o := ⟨some 20, _, _, _, _, _⟩) ?_)
    refine Stop.mk ?_
    refine wpList_load_agg rfl _ rfl ty_sec w3.heap.size 0 rfl (u8s xs) (by simpa using Cells.of_block HX4.out) (by rw [u8s_length, HX.out]) ?_
    go_wp2_with fail
    refine Calls.mono (st_writeE HB4.out HU.out y0 y1 HX.out HW.out) ?_
    rintro e w5 ⟨rfl, hb5, hs5⟩
    go_wp2
    go_ret
    exact ⟨rfl, hb5.less (fun k hk => .inl (.inl hk)), HS.out.trans fun k hk => hs5 k (.inl (.inl hk))⟩
  · have hres := HRES.out
    rw [if_pos hc] at hres
    obtain ⟨rfl, rfl⟩ : T = Tr ∧ c = cr := by cases hres; exact ⟨rfl, rfl⟩
    clear hres HRES
    have hcb : (c == 0) = false := by simpa using hc
    go_wp2
    go_ret
    exact ⟨rfl, HB4.out.less (fun k hk => .inl (.inl hk)), HS.out⟩
theorem m_Read (h : BK w0 R W q T) (u : T.Use) (x0 x1 y0 y1 : Int) :
    Calls Try.prog 99 #[.pointer (some ⟨q, 0, none⟩), .agg #[.int .i64 x0, .int .i64 x1], .agg #[.int .i64 y0, .int .i64 y1]] W fun e w' => e = .returned (.tuple #[.agg (u8s (T.mRead x0 x1 y0 y1).1).toArray, .int .i64 (T.mRead x0 x1 y0 y1).2]) ∧ BK w0 R w' q T ∧ SameR R W w' ∧ Kept W w' := by
  obtain ⟨xs, c, hr⟩ : ∃ xs c, T.read x0 x1 = (xs, c) := ⟨_, _, rfl⟩
  have hx64 : xs.length = 64 := by have := (BankT.read_sec u.inv x0 x1).1; rw [hr] at this; exact this
  obtain ⟨ys, d, hq⟩ : ∃ ys d, T.read y0 y1 = (ys, d) := ⟨_, _, rfl⟩
  have hy64 : ys.length = 64 := by have := (BankT.read_sec u.inv y0 y1).1; rw [hq] at this; exact this
  unfold BankT.mRead
  rw [hr, hq]
  simp only []
  suffices hh : Calls Try.prog 99 #[.pointer (some ⟨q, 0, none⟩), .agg #[.int .i64 x0, .int .i64 x1], .agg #[.int .i64 y0, .int .i64 y1]] W fun e w' => e = .returned (.tuple #[.agg (u8s (if lostB c then (if lostB d then (ys, (5 : Int)) else (ys, d)) else (xs, c)).1).toArray, .int .i64 (if lostB c then (if lostB d then (ys, (5 : Int)) else (ys, d)) else (xs, c)).2]) ∧ Kept W w' from
    hh.mono fun e w' ⟨he, hk⟩ => ⟨he, (h.kept hk).1, (h.kept hk).2, hk⟩
  obtain ⟨zs, cr, hres⟩ : ∃ zs cr, (if lostB c then (if lostB d then (ys, (5 : Int)) else (ys, d)) else (xs, c)) = (zs, cr) := ⟨_, _, rfl⟩
  rw [hres]
  have HRES := Lib.hid hres; clear hres
  have HR := Lib.hid hr; have HQ := Lib.hid hq; have HX := Lib.hid hx64; have HY := Lib.hid hy64; have HU := Lib.hid u; have HB := Lib.hid h
  clear hr hq hx64 hy64 u h
  go_enter Try.func99, Try.ntmps99
  go_wp2_with (refine stop_at (o := ⟨some 4, _, _, _, _, _⟩) ?_)
  refine Stop.mk ?_
  refine wpList_box_row rfl _ _ rfl [.int .i64 x0, .int .i64 x1] rfl ?_
  intro w1 hz1 hs1 hk1
  have p0 : w1.cell? ⟨W.heap.size, 0, none⟩ = some (.int .i64 x0) := cell_of_row _ _ 0 _ _ _ hz1.out
  have p1 : w1.cell? ⟨W.heap.size, 1, none⟩ = some (.int .i64 x1) := cell_of_row _ _ 1 _ _ _ hz1.out
  have HK := Lib.hid hk1
  have HW1 : W.heap.size ≤ w1.heap.size := by omega
  generalize hXe : W.heap.size = X at *
  clear hz1 hs1 hk1
  go_wp2_with (refine stop_at (o := ⟨some 5, _, _, _, _, _⟩) ?_)
  refine Stop.mk ?_
  refine wpList_box_row rfl _ _ rfl [.int .i64 y0, .int .i64 y1] rfl ?_
  intro w2 hz2 hs2 hk2
  have q0 : w2.cell? ⟨w1.heap.size, 0, none⟩ = some (.int .i64 y0) := cell_of_row _ _ 0 _ _ _ hz2.out
  have q1 : w2.cell? ⟨w1.heap.size, 1, none⟩ = some (.int .i64 y1) := cell_of_row _ _ 1 _ _ _ hz2.out
  replace p0 := hk2.cell' p0
  replace p1 := hk2.cell' p1
  replace HK := Lib.hid (HK.out.trans hk2)
  generalize w1.heap.size = Yb at *
  clear hz2 hk2
  go_wp2_with (refine stop_at (o := ⟨some 6, _, _, _, _, _⟩) ?_)
  refine Stop.mk ?_
  refine wpList_alloc_abs rfl 34 rfl (u8s zeroB) zero_sec ?_
  intro w3 hz3 hs3 hn3 hk3
  have HZ3 := hz3
  have hXs : X ≤ w2.heap.size := by omega
  replace p0 := hk3.cell' p0
  replace p1 := hk3.cell' p1
  replace q0 := hk3.cell' q0
  replace q1 := hk3.cell' q1
  replace HK := Lib.hid (HK.out.trans hk3)
  generalize w2.heap.size = Z at *
  clear hz3 hs3 hn3 hk3 hs2
  go_wp2_with fail
  refine Calls.mono (st_read (HB.out.kept HK.out).1 HU.out x0 x1 HR.out) ?_
  rintro e w4 ⟨rfl, hb4, hk4⟩
  replace q0 := hk4.cell' q0
  replace q1 := hk4.cell' q1
  replace HK := Lib.hid (HK.out.trans hk4)
  replace HZ3 := Lib.hid (hk4.block HZ3.out)
  clear hb4 hk4 p0 p1
  go_wp2_with (refine stop_at (o := ⟨some 8, _, _, _, _, _⟩) ?_)
  refine Stop.mk ?_
  refine wpList_new_row rfl rfl _ _ rfl rfl ty_sec (u8s zeroB) zero_sec (by rw [u8s_length, zeroB_length]) (u8s xs) rfl (by rw [u8s_length, HX.out]) (u8s_one _) rfl ?_
  intro w5 hz5 hs5 hk5
  have hS0 : Z < w4.heap.size := (Array.getElem?_eq_some_iff.1 HZ3.out).1
  have HS5 := hz5
  replace q0 := hk5.cell' q0
  replace q1 := hk5.cell' q1
  replace HK := Lib.hid (HK.out.trans hk5)
  replace HZ3 := Lib.hid (hk5.block HZ3.out)
  generalize w4.heap.size = S at *
  clear hz5 hs5 hk5
  go_wp2_with fail
  refine Calls.mono (mirror_lost c _) ?_
  rintro e w' ⟨rfl, rfl⟩
  have hne : S ≠ Z := by omega
  have hlc : lostB c = false ∨ lostB c = true := by cases lostB c <;> simp
  rcases hlc with hlc | hlc
  · have hres := HRES.out
    rw [hlc, if_neg (by decide)] at hres
    obtain ⟨rfl, rfl⟩ : xs = zs ∧ c = cr := by cases hres; exact ⟨rfl, rfl⟩
    clear hres HRES
    go_wp2_with fail
    refine Calls.mono (mirror_lost c _) ?_
    rintro e w' ⟨rfl, rfl⟩
    go_wp2_with (refine stop_at (o := ⟨some 26, _, _, _, _, _⟩) ?_)
    refine Stop.mk ?_
    refine wpList_load_agg rfl _ rfl ty_sec S 0 rfl (u8s xs) (by simpa using Cells.of_block HS5.out) (by rw [u8s_length, HX.out]) ?_
    go_wp2_with (refine stop_at (o := ⟨none, .store _ _ _, _, _, _, _⟩) ?_)
    refine Stop.mk ?_
    refine wpList_store_agg rfl _ _ rfl ty_sec Z 0 rfl (u8s xs) rfl (by rw [u8s_length, HX.out]) (u8s_one _) (u8s zeroB) 34 HZ3.out (by simp [u8s_length, zeroB_length]) ?_
    intro w6 hw6
    replace hw6 := hw6.all (by rw [u8s_length, u8s_length, HX.out, zeroB_length])
    have hk6 := Lib.hid (hw6.kept HK.out (by omega))
    have HW6 := Lib.hid hw6
    clear hw6
    go_wp2
    refine bodyPost_ret (results_sec rfl _ _ Z xs rfl HW6.out.cells HX.out) rfl ⟨rfl, hk6.out⟩
  · go_wp2_with fail
    refine Calls.mono (st_read (HB.out.kept HK.out).1 HU.out y0 y1 HQ.out) ?_
    rintro e w6 ⟨rfl, hb6, hk6⟩
    replace HK := Lib.hid (HK.out.trans hk6)
    replace HZ3 := Lib.hid (hk6.block HZ3.out)
    replace HS5 := Lib.hid (hk6.block HS5.out)
    clear hb6 hk6 q0 q1
    go_wp2_with (refine stop_at (o := ⟨none, .store _ _ _, _, _, _, _⟩) ?_)
    refine Stop.mk ?_
    refine wpList_store_agg rfl _ _ rfl ty_sec S 0 rfl (u8s ys) rfl (by rw [u8s_length, HY.out]) (u8s_one _) (u8s xs) 34 HS5.out (by rw [u8s_length, HX.out]; decide) ?_
    intro w7 hw7
    replace hw7 := hw7.all (by rw [u8s_length, u8s_length, HX.out, HY.out])
    replace HK := Lib.hid (hw7.kept HK.out (by omega))
    replace HS5 := Lib.hid hw7.blk
    replace HZ3 := Lib.hid ((hw7.oth _ hne.symm).trans HZ3.out)
    clear hw7
    go_wp2_with fail
    refine Calls.mono (mirror_lost d _) ?_
    rintro e w' ⟨rfl, rfl⟩
    have hld : lostB d = false ∨ lostB d = true := by cases lostB d <;> simp
    rcases hld with hld | hld
    all_goals
      have hres := HRES.out
      rw [hlc, hld] at hres
      obtain ⟨rfl, hcr⟩ : ys = zs ∧ cr = (if lostB d then 5 else d) := by rw [hld]; cases hres; exact ⟨rfl, rfl⟩
      rw [hld] at hcr
      simp only [Bool.false_eq_true, if_false, if_true] at hcr
      subst hcr
      clear hres HRES
      go_wp2_with (refine stop_at (o := ⟨some 26, _, _, _, _, _⟩) ?_)
      refine Stop.mk ?_
      refine wpList_load_agg rfl _ rfl ty_sec S 0 rfl (u8s ys) (by simpa using Cells.of_block HS5.out) (by rw [u8s_length, HY.out]) ?_
      go_wp2_with (refine stop_at (o := ⟨none, .store _ _ _, _, _, _, _⟩) ?_)
      refine Stop.mk ?_
      refine wpList_store_agg rfl _ _ rfl ty_sec Z 0 rfl (u8s ys) rfl (by rw [u8s_length, HY.out]) (u8s_one _) (u8s zeroB) 34 HZ3.out (by simp [u8s_length, zeroB_length]) ?_
      intro w8 hw8
      replace hw8 := hw8.all (by rw [u8s_length, u8s_length, HY.out, zeroB_length])
      have hk8 := Lib.hid (hw8.kept HK.out (by omega))
      have HW8 := Lib.hid hw8
      clear hw8
      go_wp2
      refine bodyPost_ret (results_sec rfl _ _ Z ys rfl HW8.out.cells HY.out) rfl ⟨rfl, hk8.out⟩
end
end Go.Proofs.Ytglplhmclfekfaa
/- mirror: Write on a law's bank. -/
namespace Go.Proofs.Ytglplhmclfekfaa
open Go.RowKit
set_option linter.unusedVariables false
set_option linter.unusedSimpArgs false

section
variable {w0 W : World} {R : Nat → Prop} {q : Nat} {T : BankT}
set_option maxHeartbeats 2000000
set_option maxRecDepth 100000
theorem m_Write (h : BK w0 R W q T) (u : T.Use) (x0 x1 y0 y1 : Int) {s : List Int} (hs : s.length = 64) (u1 : (T.write x0 x1 s).1.Use) :
    Calls Try.prog 97 #[.pointer (some ⟨q, 0, none⟩), .agg #[.int .i64 x0, .int .i64 x1], .agg #[.int .i64 y0, .int .i64 y1], .agg (u8s s).toArray] W fun e w' => e = .returned (.int .i64 (T.mWrite x0 x1 y0 y1 s).2) ∧ BK w0 R w' q (T.mWrite x0 x1 y0 y1 s).1 ∧ SameR R W w' := by
  obtain ⟨T1, c, hw⟩ : ∃ T1 c, T.write x0 x1 s = (T1, c) := ⟨_, _, rfl⟩
  unfold BankT.mWrite
  rw [hw] at u1 ⊢
  simp only [] at u1 ⊢
  obtain ⟨T2, d, hw2⟩ : ∃ T2 d, T1.write y0 y1 s = (T2, d) := ⟨_, _, rfl⟩
  rw [hw2]
  simp only []
  obtain ⟨Tr, cr, hres⟩ : ∃ Tr cr, (if c ≠ 0 ∧ lostB c = false then (T1, c) else if d ≠ 0 ∧ lostB d = false then (T2, d) else (T2, if c = 0 ∨ d = 0 then (0 : Int) else 5)) = (Tr, cr) := ⟨_, _, rfl⟩
  rw [hres]
  have HW1 := Lib.hid hw; have HW2 := Lib.hid hw2; have HX := Lib.hid hs; have HU := Lib.hid u; have HU1 := Lib.hid u1; have HB := Lib.hid h; have HRES := Lib.hid hres
  clear hw hw2 hs u u1 h hres
  go_enter Try.func97, Try.ntmps97
  go_wp2_with (refine stop_at (o := ⟨some 5, _, _, _, _, _⟩) ?_)
  refine Stop.mk ?_
  refine wpList_box_row rfl _ _ rfl [.int .i64 x0, .int .i64 x1] rfl ?_
  intro w1 hz1 hs1 hk1
  have p0 : w1.cell? ⟨W.heap.size, 0, none⟩ = some (.int .i64 x0) := cell_of_row _ _ 0 _ _ _ hz1.out
  have p1 : w1.cell? ⟨W.heap.size, 1, none⟩ = some (.int .i64 x1) := cell_of_row _ _ 1 _ _ _ hz1.out
  have HB1 := Lib.hid (HB.out.box hk1 hs1)
  have HS := Lib.hid (show SameR R W w1 from (HB.out.kept hk1).2)
  generalize W.heap.size = X at *
  clear hz1 hs1 hk1
  go_wp2_with (refine stop_at (o := ⟨some 6, _, _, _, _, _⟩) ?_)
  refine Stop.mk ?_
  refine wpList_box_row rfl _ _ rfl [.int .i64 y0, .int .i64 y1] rfl ?_
  intro w2 hz2 hs2 hk2
  have HY2 := hz2
  replace p0 := hk2.cell' p0
  replace p1 := hk2.cell' p1
  have HB2 := Lib.hid (HB1.out.box hk2 hs2)
  replace HS := Lib.hid (show SameR R W w2 from HS.out.trans fun k hk => (HB1.out.kept hk2).2 k (.inl hk))
  generalize w1.heap.size = Yb at *
  clear hz2 hs2 hk2 HB1 HB
  go_wp2_with (refine stop_at (o := ⟨some 7, _, _, _, _, _⟩) ?_)
  refine Stop.mk ?_
  refine wpList_box_row rfl _ _ rfl (u8s s) rfl ?_
  intro w3 hz3 hs3 hk3
  have HZ3 := hz3
  replace HY2 := Lib.hid (hk3.block HY2.out)
  replace p0 := hk3.cell' p0
  replace p1 := hk3.cell' p1
  have HB3 := Lib.hid (HB2.out.box hk3 hs3)
  replace HS := Lib.hid (show SameR R W w3 from HS.out.trans fun k hk => (HB2.out.kept hk3).2 k (.inl (.inl hk)))
  generalize w2.heap.size = Z at *
  clear hz3 hs3 hk3 HB2
  go_wp2_with fail
  refine wp_scope_jumps 0 (fun a' w' => ∃ (ans : Int) (P : Nat) (v12 v13 v14 v15 v16 v17 v18 v19 v20 v21 v22 v23 v24 v25 v26 v27 v28 : Value), a' = { tmps := #[.pointer (some ⟨q, 0, none⟩), .agg #[.int .i64 x0, .int .i64 x1], .agg #[.int .i64 y0, .int .i64 y1], .agg (u8s s).toArray, undef, .pointer (some ⟨X, 0, none⟩), .pointer (some ⟨Yb, 0, none⟩), .pointer (some ⟨Z, 0, none⟩), .int .i64 0, .int .i64 ans, .pointer (some ⟨P, 0, none⟩), .bool true, v12, v13, v14, v15, v16, v17, v18, v19, v20, v21, v22, v23, v24, v25, v26, v27, v28, undef], defers := [] } ∧
    Hid (BK w0 (fun k => (((R k ∨ k = X) ∨ k = Yb) ∨ k = Z) ∨ k = P) w' q T1) ∧ Hid (SameR R W w') ∧ Hid (w'.heap[P]? = some (.cells [.int .i64 y0, .int .i64 y1].toArray 32 (0, 0))) ∧ Hid (w'.heap[Z]? = some (.cells (u8s s).toArray 34 (0, 0))) ∧ (c = 0 ∧ ans = 0 ∨ lostB c = true ∧ c ≠ 0 ∧ ans = 5))
    (fun a' _ => match a'.tmps.getD 11 undef with | .bool true => 0 | _ => 1) rfl ?_ ?_
  · go_wp2_with (refine stop_at (o := ⟨some 10, _, _, _, _, _⟩) ?_)
    refine Stop.mk ?_
    refine wpList_new_row rfl rfl _ _ rfl rfl ty_plc _ zero_plc rfl [.int .i64 x0, .int .i64 x1] rfl rfl (by intro u hu; simp at hu; rcases hu with rfl | rfl <;> rfl) rfl ?_
    intro w4 hz4 hs4 hk4
    have HP4 := hz4
    have r0 : w4.cell? ⟨w3.heap.size, 0, none⟩ = some (.int .i64 x0) := cell_of_row _ _ 0 _ _ _ hz4.out
    have r1 : w4.cell? ⟨w3.heap.size, 1, none⟩ = some (.int .i64 x1) := cell_of_row _ _ 1 _ _ _ hz4.out
    replace HY2 := Lib.hid (hk4.block HY2.out)
    replace HZ3 := Lib.hid (hk4.block HZ3.out)
    have HB4 := Lib.hid (HB3.out.box hk4 hs4)
    replace HS := Lib.hid (show SameR R W w4 from HS.out.trans fun k hk => (HB3.out.kept hk4).2 k (.inl (.inl (.inl hk))))
    have HPZ : Hid (w3.heap.size ≠ Z ∧ w3.heap.size ≠ Yb) := Lib.hid ⟨fun e => by have := (HB3.out.kept (Kept.refl _)).1; obtain ⟨_, _, hb⟩ := this; have := (hb.off Z (.inr rfl)).1; omega, fun e => by have := (HB3.out.kept (Kept.refl _)).1; obtain ⟨_, _, hb⟩ := this; have := (hb.off Yb (.inl (.inr rfl))).1; omega⟩
    have HP0 : Hid (w0.heap.size ≤ w3.heap.size) := Lib.hid HB3.out.keeps.size
    have HRP : Hid (∀ k, R k → k ≠ w3.heap.size) := Lib.hid fun k hk e => by have := (HB3.out.kept (Kept.refl _)).1; obtain ⟨_, _, hb⟩ := this; have := (hb.off k (.inl (.inl (.inl hk)))).1; omega
    generalize w3.heap.size = P at *
    clear hz4 hs4 hk4 HB3 p0 p1
    go_wp2_with fail
    go_step3
    go_wp2_with (refine stop_at (o := ⟨some 16, _, _, _, _, _⟩) ?_)
    refine Stop.mk ?_
    refine wpList_load_agg rfl _ rfl ty_sec Z 0 rfl (u8s s) (by simpa using Cells.of_block HZ3.out) (by rw [u8s_length, HX.out]) ?_
    go_wp2_with fail
    refine Calls.mono (st_writeE HB4.out HU.out x0 x1 HX.out HW1.out) ?_
    rintro e w5 ⟨rfl, hb5, hr5⟩
    have HB5 := Lib.hid hb5
    replace HS := Lib.hid (show SameR R W w5 from HS.out.trans fun k hk => hr5 k (.inl (.inl (.inl (.inl hk)))))
    replace HZ3 := Lib.hid ((hr5 Z (.inl (.inr rfl))).trans HZ3.out)
    replace HY2 := Lib.hid ((hr5 Yb (.inl (.inl (.inr rfl)))).trans HY2.out)
    replace HP4 := Lib.hid ((hr5 P (.inr rfl)).trans HP4.out)
    have q0 : w5.cell? ⟨Yb, 0, none⟩ = some (.int .i64 y0) := cell_of_row _ _ 0 _ _ _ HY2.out
    have q1 : w5.cell? ⟨Yb, 1, none⟩ = some (.int .i64 y1) := cell_of_row _ _ 1 _ _ _ HY2.out
    clear hb5 hr5 HB4 r0 r1
    by_cases hc : c = 0
    · have hcb : (c == 0) = true := by simp [hc]
      go_wp2_with (refine stop_at (o := ⟨none, .store _ _ _, _, _, _, _⟩) ?_)
      refine Stop.mk ?_
      refine wpList_store_agg rfl _ _ rfl ty_plc P 0 rfl [.int .i64 y0, .int .i64 y1] rfl rfl (by intro u hu; simp at hu; rcases hu with rfl | rfl <;> rfl) _ _ HP4.out (by simp) ?_
      intro w6 hw6
      replace hw6 := hw6.all rfl
      have HB6 := Lib.hid (HB5.out.wrote hw6 (.inr rfl) HP0.out)
      have HS6 := Lib.hid (show SameR R W w6 from HS.out.trans (BK.wrote_same hw6 (fun k hk e => HRP.out k hk e)))
      have HZ6 := Lib.hid ((hw6.oth Z HPZ.out.1.symm).trans HZ3.out)
      have HP6 := Lib.hid hw6.blk
      clear hw6
      go_wp2
      go_step3
      exact ⟨rfl, 0, P, _, _, _, _, _, _, _, _, _, _, _, _, _, _, _, _, _, rfl, HB6, HS6, HP6, HZ6, .inl ⟨hc, rfl⟩⟩
    · have hcb : (c == 0) = false := by simpa using hc
      go_wp2_with fail
      refine Calls.mono (mirror_lost c _) ?_
      rintro e w' ⟨rfl, rfl⟩
      have hlc : lostB c = false ∨ lostB c = true := by cases lostB c <;> simp
      rcases hlc with hlc | hlc
      · have hres := HRES.out
        rw [if_pos ⟨hc, hlc⟩] at hres
        obtain ⟨rfl, rfl⟩ : T1 = Tr ∧ c = cr := by cases hres; exact ⟨rfl, rfl⟩
        clear hres HRES
        go_wp2
        simp only [Exit.jump]
        go_ret
        exact ⟨rfl, HB5.out.less (fun k hk => .inl (.inl (.inl (.inl hk)))), HS.out⟩
      · have HLC := Lib.hid hlc
        go_wp2_with (refine stop_at (o := ⟨none, .store _ _ _, _, _, _, _⟩) ?_)
        refine Stop.mk ?_
        refine wpList_store_agg rfl _ _ rfl ty_plc P 0 rfl [.int .i64 y0, .int .i64 y1] rfl rfl (by intro u hu; simp at hu; rcases hu with rfl | rfl <;> rfl) _ _ HP4.out (by simp) ?_
        intro w6 hw6
        replace hw6 := hw6.all rfl
        have HB6 := Lib.hid (HB5.out.wrote hw6 (.inr rfl) HP0.out)
        have HS6 := Lib.hid (show SameR R W w6 from HS.out.trans (BK.wrote_same hw6 (fun k hk e => HRP.out k hk e)))
        have HZ6 := Lib.hid ((hw6.oth Z HPZ.out.1.symm).trans HZ3.out)
        have HP6 := Lib.hid hw6.blk
        clear hw6
        go_wp2
        go_step3
        exact ⟨rfl, 5, P, _, _, _, _, _, _, _, _, _, _, _, _, _, _, _, _, _, rfl, HB6, HS6, HP6, HZ6, .inr ⟨HLC.out, hc, rfl⟩⟩
  · rintro a' w5 ⟨ans, P, v12, v13, v14, v15, v16, v17, v18, v19, v20, v21, v22, v23, v24, v25, v26, v27, v28, rfl, HB5, HS, HP5, HZ5, hans⟩
    have r0 : w5.cell? ⟨P, 0, none⟩ = some (.int .i64 y0) := cell_of_row _ _ 0 _ _ _ HP5.out
    have r1 : w5.cell? ⟨P, 1, none⟩ = some (.int .i64 y1) := cell_of_row _ _ 1 _ _ _ HP5.out
    have HAN := Lib.hid hans
    clear hans p0 p1
    go_wp2_with (refine stop_at (o := ⟨some 16, _, _, _, _, _⟩) ?_)
    refine Stop.mk ?_
    refine wpList_load_agg rfl _ rfl ty_sec Z 0 rfl (u8s s) (by simpa using Cells.of_block HZ5.out) (by rw [u8s_length, HX.out]) ?_
    go_wp2_with fail
    refine Calls.mono (st_writeE HB5.out HU1.out y0 y1 HX.out HW2.out) ?_
    rintro e w6 ⟨rfl, hb6, hr6⟩
    have HB6 := Lib.hid hb6
    replace HS := Lib.hid (show SameR R W w6 from HS.out.trans fun k hk => hr6 k (.inl (.inl (.inl (.inl hk)))))
    clear hb6 hr6 HB5 r0 r1
    have hcl : ¬ (c ≠ 0 ∧ lostB c = false) := by
      rcases HAN.out with ⟨h1, _⟩ | ⟨h1, _, _⟩
      · exact fun h => h.1 h1
      · intro h; rw [h1] at h; cases h.2
    by_cases hd : d = 0
    · have hdb : (d == 0) = true := by simp [hd]
      have hres := HRES.out
      rw [if_neg hcl, if_neg (fun h => h.1 hd), if_pos (.inr hd)] at hres
      obtain ⟨rfl, rfl⟩ : T2 = Tr ∧ cr = 0 := by cases hres; exact ⟨rfl, rfl⟩
      clear hres HRES hcl
      go_wp2
      simp only [Exit.jump]
      go_ret
      exact ⟨rfl, HB6.out.less (fun k hk => .inl (.inl (.inl (.inl hk)))), HS.out⟩
    · have hdb : (d == 0) = false := by simpa using hd
      go_wp2_with fail
      refine Calls.mono (mirror_lost d _) ?_
      rintro e w' ⟨rfl, rfl⟩
      have hld : lostB d = false ∨ lostB d = true := by cases lostB d <;> simp
      rcases hld with hld | hld
      · have hres := HRES.out
        rw [if_neg hcl, if_pos ⟨hd, hld⟩] at hres
        obtain ⟨rfl, rfl⟩ : T2 = Tr ∧ d = cr := by cases hres; exact ⟨rfl, rfl⟩
        clear hres HRES hcl
        go_wp2
        simp only [Exit.jump]
        go_ret
        exact ⟨rfl, HB6.out.less (fun k hk => .inl (.inl (.inl (.inl hk)))), HS.out⟩
      · have hres := HRES.out
        rw [if_neg hcl, if_neg (fun h => by rw [hld] at h; cases h.2)] at hres
        have hcr : T2 = Tr ∧ cr = ans := by
          rcases HAN.out with ⟨h1, h2⟩ | ⟨h1, h2, h3⟩
          · rw [if_pos (.inl h1)] at hres; cases hres; exact ⟨rfl, h2.symm⟩
          · rw [if_neg (fun h => h.elim h2 hd)] at hres; cases hres; exact ⟨rfl, h3.symm⟩
        obtain ⟨rfl, rfl⟩ := hcr
        clear hres HRES hcl HAN
        go_wp2
        simp only [Exit.jump]
        go_ret
        exact ⟨rfl, HB6.out.less (fun k hk => .inl (.inl (.inl (.inl hk)))), HS.out⟩
end
end Go.Proofs.Ytglplhmclfekfaa
/- mirror: Alike on a law's bank. -/
namespace Go.Proofs.Ytglplhmclfekfaa
open Go.RowKit
set_option linter.unusedVariables false
set_option linter.unusedSimpArgs false

section
variable {w0 W : World} {R : Nat → Prop} {q : Nat} {T : BankT}
set_option maxHeartbeats 2000000
set_option maxRecDepth 100000
theorem m_Alike (h : BK w0 R W q T) (u : T.Use) (x0 x1 y0 y1 : Int) :
    Calls Try.prog 103 #[.pointer (some ⟨q, 0, none⟩), .agg #[.int .i64 x0, .int .i64 x1], .agg #[.int .i64 y0, .int .i64 y1]] W fun e w' => e = .returned (.tuple #[.bool (T.mAlike x0 x1 y0 y1).2.1, .int .i64 (T.mAlike x0 x1 y0 y1).2.2]) ∧ BK w0 R w' q (T.mAlike x0 x1 y0 y1).1 ∧ SameR R W w' := by
  obtain ⟨xs, c, hr⟩ : ∃ xs c, T.read x0 x1 = (xs, c) := ⟨_, _, rfl⟩
  have hx64 : xs.length = 64 := by have := (BankT.read_sec u.inv x0 x1).1; rw [hr] at this; exact this
  obtain ⟨ys, d, hq⟩ : ∃ ys d, T.read y0 y1 = (ys, d) := ⟨_, _, rfl⟩
  have hy64 : ys.length = 64 := by have := (BankT.read_sec u.inv y0 y1).1; rw [hq] at this; exact this
  unfold BankT.mAlike
  rw [hr, hq]
  obtain ⟨T', g, hw⟩ : ∃ T' g, T.write y0 y1 xs = (T', g) := ⟨_, _, rfl⟩
  simp only []
  rw [hw]
  simp only []
  obtain ⟨Tr, br, cr, hres⟩ : ∃ Tr br cr, (if c ≠ 0 ∧ lostB c = false then (T, false, c) else if d ≠ 0 ∧ lostB d = false then (T, false, d) else if c ≠ 0 ∧ d ≠ 0 then (T, false, (5 : Int)) else if c ≠ 0 ∨ d ≠ 0 ∨ xs = ys then (T, false, (0 : Int)) else if lostB g then (T', false, (0 : Int)) else (T', g == 0, g)) = (Tr, br, cr) := ⟨_, _, _, rfl⟩
  rw [hres]
  have HR := Lib.hid hr; have HQ := Lib.hid hq; have HW := Lib.hid hw; have HX := Lib.hid hx64; have HY := Lib.hid hy64; have HU := Lib.hid u; have HB := Lib.hid h; have HRES := Lib.hid hres
  clear hr hq hw hx64 hy64 u h hres
  go_enter Try.func103, Try.ntmps103
  go_wp2_with (refine stop_at (o := ⟨some 4, _, _, _, _, _⟩) ?_)
  refine Stop.mk ?_
  refine wpList_box_row rfl _ _ rfl [.int .i64 x0, .int .i64 x1] rfl ?_
  intro w1 hz1 hs1 hk1
  have p0 : w1.cell? ⟨W.heap.size, 0, none⟩ = some (.int .i64 x0) := cell_of_row _ _ 0 _ _ _ hz1.out
  have p1 : w1.cell? ⟨W.heap.size, 1, none⟩ = some (.int .i64 x1) := cell_of_row _ _ 1 _ _ _ hz1.out
  have HB1 := Lib.hid (HB.out.box hk1 hs1)
  have HS := Lib.hid (show SameR R W w1 from (HB.out.kept hk1).2)
  generalize W.heap.size = X at *
  clear hz1 hs1 hk1
  go_wp2_with (refine stop_at (o := ⟨some 5, _, _, _, _, _⟩) ?_)
  refine Stop.mk ?_
  refine wpList_box_row rfl _ _ rfl [.int .i64 y0, .int .i64 y1] rfl ?_
  intro w2 hz2 hs2 hk2
  have q0 : w2.cell? ⟨w1.heap.size, 0, none⟩ = some (.int .i64 y0) := cell_of_row _ _ 0 _ _ _ hz2.out
  have q1 : w2.cell? ⟨w1.heap.size, 1, none⟩ = some (.int .i64 y1) := cell_of_row _ _ 1 _ _ _ hz2.out
  replace p0 := hk2.cell' p0
  replace p1 := hk2.cell' p1
  have HB2 := Lib.hid (HB1.out.box hk2 hs2)
  replace HS := Lib.hid (show SameR R W w2 from HS.out.trans fun k hk => (HB1.out.kept hk2).2 k (.inl hk))
  generalize w1.heap.size = Yb at *
  clear hz2 hs2 hk2 HB1 HB
  go_wp2_with fail
  refine Calls.mono (st_read HB2.out HU.out x0 x1 HR.out) ?_
  rintro e w3 ⟨rfl, hb3, hk3⟩
  have HB3 := Lib.hid hb3
  replace q0 := hk3.cell' q0
  replace q1 := hk3.cell' q1
  replace HS := Lib.hid (show SameR R W w3 from HS.out.trans fun k hk => (HB2.out.kept hk3).2 k (.inl (.inl hk)))
  clear hb3 hk3 HB2 p0 p1
  go_wp2_with (refine stop_at (o := ⟨some 8, _, _, _, _, _⟩) ?_)
  refine Stop.mk ?_
  refine wpList_new_row rfl rfl _ _ rfl rfl ty_sec (u8s zeroB) zero_sec (by rw [u8s_length, zeroB_length]) (u8s xs) rfl (by rw [u8s_length, HX.out]) (u8s_one _) rfl ?_
  intro w4 hz4 hs4 hk4
  have HB4 := Lib.hid (HB3.out.kept hk4).1
  have HX4 := hz4
  replace q0 := hk4.cell' q0
  replace q1 := hk4.cell' q1
  replace HS := Lib.hid (show SameR R W w4 from HS.out.trans fun k hk => (HB3.out.kept hk4).2 k (.inl (.inl hk)))
  generalize w3.heap.size = SX at *
  clear hz4 hs4 hk4 HB3
  have hlc : lostB c = false ∨ lostB c = true := by cases lostB c <;> simp
  have hcc : c = 0 ∨ (c ≠ 0 ∧ lostB c = false) ∨ (c ≠ 0 ∧ lostB c = true) := by
    by_cases h : c = 0
    · exact .inl h
    · rcases hlc with e | e
      · exact .inr (.inl ⟨h, e⟩)
      · exact .inr (.inr ⟨h, e⟩)
  clear hlc
  rcases hcc with hc | ⟨hc, hlc⟩ | ⟨hc, hlc⟩
  · have hcb : (c == 0) = true := by simp [hc]
    go_wp2_with fail
    refine Calls.mono (st_read HB4.out HU.out y0 y1 HQ.out) ?_
    rintro e w5 ⟨rfl, hb5, hk5⟩
    have HB5 := Lib.hid hb5
    replace q0 := hk5.cell' q0
    replace q1 := hk5.cell' q1
    have HX5 := Lib.hid (hk5.block HX4.out)
    replace HS := Lib.hid (show SameR R W w5 from HS.out.trans fun k hk => (HB4.out.kept hk5).2 k (.inl (.inl hk)))
    clear hb5 hk5 HB4 HX4
    go_wp2_with (refine stop_at (o := ⟨some 10, _, _, _, _, _⟩) ?_)
    refine Stop.mk ?_
    refine wpList_new_row rfl rfl _ _ rfl rfl ty_sec (u8s zeroB) zero_sec (by rw [u8s_length, zeroB_length]) (u8s ys) rfl (by rw [u8s_length, HY.out]) (u8s_one _) rfl ?_
    intro w6 hz6 hs6 hk6
    have HB6 := Lib.hid (HB5.out.kept hk6).1
    have HY6 := hz6
    have HX6 := Lib.hid (hk6.block HX5.out)
    replace q0 := hk6.cell' q0
    replace q1 := hk6.cell' q1
    replace HS := Lib.hid (show SameR R W w6 from HS.out.trans fun k hk => (HB5.out.kept hk6).2 k (.inl (.inl hk)))
    generalize w5.heap.size = SY at *
    clear hz6 hs6 hk6 HB5 HX5
    by_cases hd : d = 0
    · have hdb : (d == 0) = true := by simp [hd]
      by_cases hxy : xs = ys
      · subst hxy
        go_wp2_with (refine stop_at (o := ⟨some 56, _, _, _, _, _⟩) ?_)
        refine Stop.mk ?_
        refine wpList_load_aggW _ rfl ty_sec SX 0 rfl (u8s xs) (by simpa using Cells.of_block HX6.out) (by rw [u8s_length, HX.out]) rfl ?_
        go_wp2_with (refine stop_at (o := ⟨some 57, _, _, _, _, _⟩) ?_)
        refine Stop.mk ?_
        refine wpList_load_aggW _ rfl ty_sec SY 0 rfl (u8s xs) (by simpa using Cells.of_block HY6.out) (by rw [u8s_length, HX.out]) rfl ?_
        go_wp2_with (refine stop_at (o := ⟨some 58, _, _, _, _, _⟩) ?_)
        refine Stop.mk ?_
        refine wpList_eq_sec rfl _ _ rfl xs xs rfl rfl HX.out HX.out ?_
        rw [show (xs == xs) = true by simp]
        have hres := HRES.out
        rw [if_neg (fun h => h.1 hc), if_neg (fun h => h.1 hd), if_neg (fun h => h.1 hc), if_pos (by simp)] at hres
        obtain ⟨rfl, rfl, rfl⟩ : T = Tr ∧ false = br ∧ 0 = cr := by cases hres; exact ⟨rfl, rfl, rfl⟩
        clear hres HRES
        go_wp2
        go_ret2
        exact ⟨rfl, HB6.out.less (fun k hk => .inl (.inl hk)), HS.out⟩
      · have hxb : (xs == ys) = false := by simpa using hxy
        go_wp2_with (refine stop_at (o := ⟨some 56, _, _, _, _, _⟩) ?_)
        refine Stop.mk ?_
        refine wpList_load_aggW _ rfl ty_sec SX 0 rfl (u8s xs) (by simpa using Cells.of_block HX6.out) (by rw [u8s_length, HX.out]) rfl ?_
        go_wp2_with (refine stop_at (o := ⟨some 57, _, _, _, _, _⟩) ?_)
        refine Stop.mk ?_
        refine wpList_load_aggW _ rfl ty_sec SY 0 rfl (u8s ys) (by simpa using Cells.of_block HY6.out) (by rw [u8s_length, HY.out]) rfl ?_
        go_wp2_with (refine stop_at (o := ⟨some 58, _, _, _, _, _⟩) ?_)
        refine Stop.mk ?_
        refine wpList_eq_sec rfl _ _ rfl xs ys rfl rfl HX.out HY.out ?_
        rw [hxb]
        go_wp2_with (refine stop_at (o := ⟨some 62, _, _, _, _, _⟩) ?_)
        refine Stop.mk ?_
        refine wpList_load_agg rfl _ rfl ty_sec SX 0 rfl (u8s xs) (by simpa using Cells.of_block HX6.out) (by rw [u8s_length, HX.out]) ?_
        go_wp2_with fail
        refine Calls.mono (st_writeE HB6.out HU.out y0 y1 HX.out HW.out) ?_
        rintro e w7 ⟨rfl, hb7, hr7⟩
        have HB7 := Lib.hid hb7
        replace HS := Lib.hid (show SameR R W w7 from HS.out.trans fun k hk => hr7 k (.inl (.inl hk)))
        clear hb7 hr7 HB6 q0 q1
        have hno : ¬ (c ≠ 0 ∨ d ≠ 0 ∨ xs = ys) := fun h => by rcases h with h | h | h; exact h hc; exact h hd; exact hxy h
        have HNO := Lib.hid hno
        clear hno hxy hxb
        go_wp2_with fail
        refine Calls.mono (mirror_lost g _) ?_
        rintro e w' ⟨rfl, rfl⟩
        have hlg : lostB g = false ∨ lostB g = true := by cases lostB g <;> simp
        rcases hlg with hlg | hlg
        · have hres := HRES.out
          rw [if_neg (fun h => h.1 hc), if_neg (fun h => h.1 hd), if_neg (fun h => h.1 hc), if_neg HNO.out, hlg, if_neg (by decide)] at hres
          obtain ⟨rfl, rfl, rfl⟩ : T' = Tr ∧ (g == 0) = br ∧ g = cr := by cases hres; exact ⟨rfl, rfl, rfl⟩
          clear hres HRES
          go_wp2
          go_ret2
          exact ⟨rfl, HB7.out.less (fun k hk => .inl (.inl hk)), HS.out⟩
        · have hres := HRES.out
          rw [if_neg (fun h => h.1 hc), if_neg (fun h => h.1 hd), if_neg (fun h => h.1 hc), if_neg HNO.out, hlg, if_pos rfl] at hres
          obtain ⟨rfl, rfl, rfl⟩ : T' = Tr ∧ false = br ∧ 0 = cr := by cases hres; exact ⟨rfl, rfl, rfl⟩
          clear hres HRES
          go_wp2
          go_ret2
          exact ⟨rfl, HB7.out.less (fun k hk => .inl (.inl hk)), HS.out⟩
    · have hdb : (d == 0) = false := by simpa using hd
      go_wp2_with fail
      refine Calls.mono (mirror_lost d _) ?_
      rintro e w' ⟨rfl, rfl⟩
      have hld : lostB d = false ∨ lostB d = true := by cases lostB d <;> simp
      rcases hld with hld | hld
      · have hres := HRES.out
        rw [if_neg (fun h => h.1 hc), if_pos ⟨hd, hld⟩] at hres
        obtain ⟨rfl, rfl, rfl⟩ : T = Tr ∧ false = br ∧ d = cr := by cases hres; exact ⟨rfl, rfl, rfl⟩
        clear hres HRES
        go_wp2
        go_ret2
        exact ⟨rfl, HB6.out.less (fun k hk => .inl (.inl hk)), HS.out⟩
      · have hres := HRES.out
        rw [if_neg (fun h => h.1 hc), if_neg (fun h => by rw [hld] at h; cases h.2), if_neg (fun h => h.1 hc), if_pos (.inr (.inl hd))] at hres
        obtain ⟨rfl, rfl, rfl⟩ : T = Tr ∧ false = br ∧ 0 = cr := by cases hres; exact ⟨rfl, rfl, rfl⟩
        clear hres HRES
        go_wp2
        go_ret2
        exact ⟨rfl, HB6.out.less (fun k hk => .inl (.inl hk)), HS.out⟩
  · have hcb : (c == 0) = false := by simpa using hc
    go_wp2_with fail
    refine Calls.mono (mirror_lost c _) ?_
    rintro e w' ⟨rfl, rfl⟩
    have hres := HRES.out
    rw [if_pos ⟨hc, hlc⟩] at hres
    obtain ⟨rfl, rfl, rfl⟩ : T = Tr ∧ false = br ∧ c = cr := by cases hres; exact ⟨rfl, rfl, rfl⟩
    clear hres HRES
    go_wp2
    go_ret2
    exact ⟨rfl, HB4.out.less (fun k hk => .inl (.inl hk)), HS.out⟩
  · have hcb : (c == 0) = false := by simpa using hc
    go_wp2_with fail
    refine Calls.mono (mirror_lost c _) ?_
    rintro e w' ⟨rfl, rfl⟩
    go_wp2_with fail
    refine Calls.mono (st_read HB4.out HU.out y0 y1 HQ.out) ?_
    rintro e w5 ⟨rfl, hb5, hk5⟩
    have HB5 := Lib.hid hb5
    replace q0 := hk5.cell' q0
    replace q1 := hk5.cell' q1
    have HX5 := Lib.hid (hk5.block HX4.out)
    replace HS := Lib.hid (show SameR R W w5 from HS.out.trans fun k hk => (HB4.out.kept hk5).2 k (.inl (.inl hk)))
    clear hb5 hk5 HB4 HX4
    go_wp2_with (refine stop_at (o := ⟨some 10, _, _, _, _, _⟩) ?_)
    refine Stop.mk ?_
    refine wpList_new_row rfl rfl _ _ rfl rfl ty_sec (u8s zeroB) zero_sec (by rw [u8s_length, zeroB_length]) (u8s ys) rfl (by rw [u8s_length, HY.out]) (u8s_one _) rfl ?_
    intro w6 hz6 hs6 hk6
    have HB6 := Lib.hid (HB5.out.kept hk6).1
    have HY6 := hz6
    have HX6 := Lib.hid (hk6.block HX5.out)
    replace q0 := hk6.cell' q0
    replace q1 := hk6.cell' q1
    replace HS := Lib.hid (show SameR R W w6 from HS.out.trans fun k hk => (HB5.out.kept hk6).2 k (.inl (.inl hk)))
    generalize w5.heap.size = SY at *
    clear hz6 hs6 hk6 HB5 HX5
    by_cases hd : d = 0
    · have hdb : (d == 0) = true := by simp [hd]
      have hres := HRES.out
      rw [if_neg (fun h => by rw [hlc] at h; cases h.2), if_neg (fun h => h.1 hd), if_neg (fun h => h.2 hd), if_pos (.inl hc)] at hres
      obtain ⟨rfl, rfl, rfl⟩ : T = Tr ∧ false = br ∧ 0 = cr := by cases hres; exact ⟨rfl, rfl, rfl⟩
      clear hres HRES
      go_wp2
      go_ret2
      exact ⟨rfl, HB6.out.less (fun k hk => .inl (.inl hk)), HS.out⟩
    · have hdb : (d == 0) = false := by simpa using hd
      go_wp2_with fail
      refine Calls.mono (mirror_lost d _) ?_
      rintro e w' ⟨rfl, rfl⟩
      have hld : lostB d = false ∨ lostB d = true := by cases lostB d <;> simp
      rcases hld with hld | hld
      · have hres := HRES.out
        rw [if_neg (fun h => by rw [hlc] at h; cases h.2), if_pos ⟨hd, hld⟩] at hres
        obtain ⟨rfl, rfl, rfl⟩ : T = Tr ∧ false = br ∧ d = cr := by cases hres; exact ⟨rfl, rfl, rfl⟩
        clear hres HRES
        go_wp2
        go_ret2
        exact ⟨rfl, HB6.out.less (fun k hk => .inl (.inl hk)), HS.out⟩
      · have hres := HRES.out
        rw [if_neg (fun h => by rw [hlc] at h; cases h.2), if_neg (fun h => by rw [hld] at h; cases h.2), if_pos ⟨hc, hd⟩] at hres
        obtain ⟨rfl, rfl, rfl⟩ : T = Tr ∧ false = br ∧ 5 = cr := by cases hres; exact ⟨rfl, rfl, rfl⟩
        clear hres HRES
        have hcn : (c != 0) = true := by simp [hc]
        have hdn : (d != 0) = true := by simp [hd]
        go_wp2
        go_ret2
        exact ⟨rfl, HB6.out.less (fun k hk => .inl (.inl hk)), HS.out⟩
end
end Go.Proofs.Ytglplhmclfekfaa
/- law12: sector, laid. -/
namespace Go.Proofs.Ytglplhmclfekfaa
open Go.RowKit
set_option linter.unusedVariables false
set_option linter.unusedSimpArgs false

section
variable {w : World}
set_option maxHeartbeats 1000000
set_option maxRecDepth 100000
theorem m_sector (n : Int) (w : World) : Calls Try.prog 98 #[.int .i64 n] w fun e w' => e = .returned (.agg (u8s (secN n)).toArray) ∧ Kept w w' := by
  go_enter Try.func98, Try.ntmps98
  go_wp2_with (refine stop_at (o := ⟨some 2, _, _, _, _, _⟩) ?_)
  refine Stop.mk ?_
  refine wpList_alloc_abs rfl 34 rfl (u8s zeroB) zero_sec ?_
  intro w1 hz hs hn hk1
  go_wp2_with (refine stop_at (o := ⟨none, .store _ _ _, _, _, _, _⟩) ?_)
  refine Stop.mk ?_
  refine wpList_store_agg rfl _ _ rfl ty_sec w.heap.size 0 rfl (u8s (secN n)) rfl (by rw [u8s_length, secN_len]) (u8s_one _) (u8s zeroB) 34 hz.out (by simp [u8s_length, zeroB_length]) ?_
  intro w3 hw3
  replace hw3 := hw3.all (by rw [u8s_length, u8s_length, secN_len]; rfl)
  have hkw := Lib.hid (hw3.kept hk1 (Nat.le_refl _))
  have hw3' := Lib.hid hw3; clear hw3
  go_wp2
  refine bodyPost_ret (results_sec1 rfl _ _ w.heap.size (secN n) rfl hw3'.out.cells (secN_len n)) rfl ⟨rfl, hkw.out⟩
theorem m_laid (n : Nat) (hn : n ≤ 31) (w0 W : World) (R : Nat → Prop) (hk : Kept w0 W) (hR : ∀ k, R k → k < W.heap.size) : Calls Try.prog 36 #[.int .i64 (n : Int)] W fun e w' => ∃ q, e = .returned (.pointer (some ⟨q, 0, none⟩)) ∧ BK w0 R w' q (addZ 12 n) ∧ SameR R W w' := by
  have HN := Lib.hid (bk_New w0 W R hk hR)
  have HR := Lib.hid hR
  clear hk hR
  go_enter Try.func36, Try.ntmps36
  go_wp2_with fail
  refine Calls.mono HN.out ?_
  rintro e w1 ⟨q, rfl, hb, hk1⟩
  have HB := Lib.hid hb
  have HS : Hid (SameR R W w1) := Lib.hid (fun k hk => hk1.block_eq (HR.out k hk))
  clear hb hk1
  go_wp2
  go_loopw [4] (fun i wr => ∃ k : Nat, k ≤ n ∧ i = .int .i64 k ∧ Hid (BK w0 R wr q (addZ 12 k)) ∧ Hid (SameR R W wr)) (fun i _ => n - (intOf i).toNat)
  case atStart => exact ⟨0, by omega, rfl, HB, HS⟩
  case round =>
    obtain ⟨k, hk, rfl, HB, HS⟩ := hrel
    by_cases hlt : k < n
    · have HA := bk_Add HB.out (by rw [addZ_len]; omega) 12 (by decide) (by decide)
      rw [addZ_len] at HA
      have HAD := Lib.hid HA; clear HA
      go_wp2_with fail
      refine Calls.mono HAD.out ?_
      rintro e w2 ⟨rfl, h1, h2⟩
      have HB2 : Hid (BK w0 R w2 q (addZ 12 (k + 1))) := Lib.hid h1
      have HS2 := Lib.hid (HS.out.trans h2); clear h1 h2
      go_wp2
      go_roundw
      case rel => exact ⟨k + 1, hlt, by go_num, HB2, HS2⟩
      case measure => simp [intOf]; omega
    · have hk3 : k = n := by omega
      subst hk3
      go_wp2
      go_ret
      exact ⟨q, rfl, HB.out, HS.out⟩
end
end Go.Proofs.Ytglplhmclfekfaa
