/- Whole aggregates (sectors and the like): made, loaded, stored, compared, without going through their cells one by one. -/
import Derived.Test.YtglplhmclfekfaaApp
import Derived.Deep.MidRow
import Derived.Laws.StructEq
import Derived.Laws.CopyOwn
namespace Go.Proofs.Ytglplhmclfekfaa
open Go.RowKit
set_option linter.unusedVariables false

/-- An aggregate type of n cells. -/
structure AggT (P : Program) (t n : Nat) : Prop where
  d : ∃ d, P.underlying t = some d ∧ d.isRow = true
  sz : (P.info? t).map (·.size) = some n

/-- w1 is w but for block g, which holds these cells. -/
structure Wrote (w w1 : World) (g : Nat) (cs : List Value) (t : TypeId) : Prop where
  blk : w1.heap[g]? = some (.cells cs.toArray t (0, 0))
  oth : ∀ k, k ≠ g → w1.heap[k]? = w.heap[k]?
  size : w1.heap.size = w.heap.size
  os : w1.os = w.os
  tape : w1.tape = w.tape
  output : w1.output = w.output
theorem Wrote.kept {a w w1 : World} {g : Nat} {cs : List Value} {t : TypeId} (h : Wrote w w1 g cs t) (hk : Kept a w) (hg : a.heap.size ≤ g) : Kept a w1 :=
  Below.trans hk ⟨h.os, h.tape, h.output, by rw [h.size]; exact Nat.le_refl _, fun k hk => h.oth k (by omega)⟩
theorem Wrote.grown {w w1 : World} {g : Nat} {cs : List Value} {t : TypeId} (h : Wrote w w1 g cs t) : w.grownBy w1 (some g) :=
  ⟨h.os, h.tape, h.output, by rw [h.size]; exact Nat.le_refl _, fun k _ hk => h.oth k (by simpa using hk)⟩
theorem Wrote.cells {w w1 : World} {g : Nat} {cs : List Value} {t : TypeId} (h : Wrote w w1 g cs t) : Cells w1 g 0 cs := by
  simpa using Cells.of_block h.blk

theorem splice_all {α : Type} (L cs : List α) (h : cs.length = L.length) : splice L 0 cs = cs := by simp [splice, h]
theorem Wrote.all {w w1 : World} {g : Nat} {cur cs : List Value} {t : TypeId} (h : Wrote w w1 g (splice cur 0 cs) t) (hl : cs.length = cur.length) : Wrote w w1 g cs t := by rw [splice_all _ _ hl] at h; exact h

theorem rangeAt_of_cells {w : World} {b off : Nat} {xs : List Value} (h : Cells w b off xs) : w.rangeAt b off xs := by
  intro j v hv
  obtain ⟨hj, rfl⟩ := List.getElem?_eq_some_iff.1 hv
  exact h j hj

section
variable {P : Program} {ops : Array Oper} {rest : List Oper} {o : Oper} {a : Act} {w : World} {Q : Exit → Act → World → Prop}

/-- To stand still at a builtin's call, at a load, at a store. -/
theorem stop_bi (b : Builtin) (args : Array Operand) (ats : Array TypeId) (ho : o.op = .call { callee := .builtin b, args := args, argTypes := ats }) (h : wpList P ops Q (o :: rest) a w) : wpList P ops Q (o :: rest) a w := h
theorem stop_load (T : TypeId) (x : Operand) (ho : o.op = .load T x) (h : wpList P ops Q (o :: rest) a w) : wpList P ops Q (o :: rest) a w := h
theorem stop_store (T : TypeId) (x y : Operand) (ho : o.op = .store T x y) (h : wpList P ops Q (o :: rest) a w) : wpList P ops Q (o :: rest) a w := h

/-- A new variable of an aggregate type: zeros, the world a letter. -/
theorem wpList_alloc_abs (hgd : o.guard = none) (T : TypeId) (ho : o.op = .alloc T) (zs : List Value) (hz : ∀ w, (zeroValue T).run P w = .ok (.agg zs.toArray) w)
    (h : ∀ w1, Hid (w1.heap[w.heap.size]? = some (.cells zs.toArray T (0, 0))) → w.heap.size < w1.heap.size → Hid (w1.heap.size = w.heap.size + 1) → Kept w w1 → wpList P ops Q rest (a.put o.dst (.pointer (some ⟨w.heap.size, 0, none⟩))) w1) : wpList P ops Q (o :: rest) a w := by
  refine wpList_plain hgd fun K hK => ?_
  unfold Oper.wp execOp
  simp only [ho, Instr.alloc, newVar, newRow, Sem.run_bind, hz, Result.andThen_ok, Sem.run_pure, run_newObj_alloc, Value.cells]
  exact hK _ _ (h _ (Lib.hid (heap_alloc_new w _)) (by simp) (Lib.hid (World.size_alloc _ _)) ((Kept.refl _).alloc _))

theorem wpList_load_agg (hgd : o.guard = none) {T n : Nat} (x : Operand) (ho : o.op = .load T x) (hT : AggT P T n)
    (b off : Nat) (hx : a.eval x = .pointer (some ⟨b, off, none⟩)) (xs : List Value) (hc : Cells w b off xs) (hl : xs.length = n)
    (h : wpList P ops Q rest (a.put o.dst (.agg xs.toArray)) w) : wpList P ops Q (o :: rest) a w := by
  obtain ⟨⟨d, hd1, hd2⟩, hs⟩ := hT
  exact wpList_load_mid hgd T x ho b off hx xs d (rangeAt_of_cells hc) hd1 hd2 (by rw [hs, hl]) h

/-- The same where the operation has a guard that lets it run. -/
theorem wpList_load_aggW {T n : Nat} (x : Operand) (ho : o.op = .load T x) (hT : AggT P T n)
    (b off : Nat) (hx : a.eval x = .pointer (some ⟨b, off, none⟩)) (xs : List Value) (hc : Cells w b off xs) (hl : xs.length = n)
    (hw : Region.wanted o (yielded ops a.tmps) = true)
    (h : wpList P ops Q rest (a.put o.dst (.agg xs.toArray)) w) : wpList P ops Q (o :: rest) a w := by
  obtain ⟨⟨d, hd1, hd2⟩, hs⟩ := hT
  refine wpList_step fun K hK => ?_
  rw [if_pos hw]
  exact wp_load_mid T x ho b off hx xs d (rangeAt_of_cells hc) hd1 hd2 (by rw [hs, hl]) (hK _ _ h)

theorem wpList_store_agg (hgd : o.guard = none) {T n : Nat} (x y : Operand) (ho : o.op = .store T x y) (hT : AggT P T n)
    (b off : Nat) (hx : a.eval x = .pointer (some ⟨b, off, none⟩)) (xs : List Value) (hy : a.eval y = .agg xs.toArray) (hl : xs.length = n) (h1 : ∀ v ∈ xs, v.oneCell' = true)
    (cur : List Value) (t : TypeId) (hb : w.heap[b]? = some (.cells cur.toArray t (0, 0))) (hfit : off + n ≤ cur.length)
    (h : ∀ w1, Wrote w w1 b (splice cur off xs) t → wpList P ops Q rest (a.put o.dst undef) w1) : wpList P ops Q (o :: rest) a w := by
  refine wpList_plain hgd fun K hK => ?_
  have hst := run_storeCells_at P b off t xs 0 cur.toArray w hb (by simpa [hl] using hfit) h1
  obtain ⟨_, hs⟩ := hT
  cases hq : P.info? T with
  | none => simp [hq] at hs
  | some i =>
    have hi : i.size = n := by simpa [hq] using hs
    unfold Oper.wp execOp
    simp only [ho, hx, hy, Instr.storeAt, Instr.sureAddr, Sem.run_bind, Sem.run_pure, Result.andThen_ok, storeVar, sizeOf, typeInfo, run_program, hq, Value.cells, List.size_toArray, hi, hl, ne_eq, not_true_eq_false, if_false, hst]
    refine hK _ _ (h _ ⟨?_, ?_, ?_, rfl, rfl, rfl⟩)
    · rw [setRow_heap w b _ _ t _ hb]
      subst hl; simp [splice]
    · intro k hk; exact setRow_other w b k _ hk
    · simp

end

/-- 'a[lo:]' of an array behind a pointer, of elements of one cell. -/
theorem run_sliceAt_from {P : Program} (w : World) (t e n : Nat) (ht : P.underlying t = some (.array n e)) (hsz : (P.info? e).map (·.size) = some 1) (b off lo : Nat) (hlo : lo < n) :
    (Instr.sliceAt t (.pointer (some ⟨b, off, none⟩)) (some (.int .i64 (lo : Int))) none none).run P w = .ok (.slice (some ⟨b, off + lo, none⟩) (n - lo) (n - lo)) w := by
  cases hi : P.info? e with
  | none => simp [hi] at hsz
  | some i =>
    have h1 : i.size = 1 := by simpa [hi] using hsz
    have h2 : (0 : Int) ≤ (lo : Int) ∧ (lo : Int) ≤ (n : Int) := by omega
    have h3 : ¬ n = lo := by omega
    have h4 : (Instr.sliceBound (.int .i64 (lo : Int)) n .sliceB).run P w = .ok lo w := by
      simp only [Instr.sliceBound, asIntOf, Sem.run_bind, Sem.run_pure, Result.andThen_ok]
      rw [if_pos h2]; rfl
    simp [Instr.sliceAt, Instr.sureAddr, run_underlying ht, Instr.sliceBounds, h4, sizeOf, typeInfo, hi, h1, h3, Addr.add_lit]

theorem run_equalIn_ints {P : Program} (w : World) (d : Nat) (t e : TypeId) (n : Nat) (k : IntKind) (ht : P.underlying t = some (.array n e)) (he : P.underlying e = some (.int k)) (hsz : ∀ w, (sizeOf e).run P w = .ok 1 w)
    (xs ys : List Int) (hx : xs.length = n) (hy : ys.length = n) :
    (Op.equalIn (d + 2) t (.agg (xs.map (Value.int k)).toArray) (.agg (ys.map (Value.int k)).toArray)).run P w = .ok (xs == ys) w := by
  have hall : ((List.range' 0 n 1).all fun i => xs.getD i 0 == ys.getD i 0) = (xs == ys) := by
    rw [Bool.eq_iff_iff, List.all_eq_true, beq_iff_eq]
    constructor
    · intro h
      apply List.ext_getElem (by omega)
      intro i h1 h2
      have := h i (by rw [List.mem_range'_1]; omega)
      simpa [List.getD, h1, h2] using this
    · intro h i _; subst h; simp
  rw [← hall, Op.equalIn]
  simp only [Sem.run_bind, run_underlying ht, Result.andThen_ok, hsz, Std.Legacy.Range.forIn_eq_forIn_range', Std.Legacy.Range.size, Nat.sub_zero, Nat.add_sub_cancel, Nat.div_one]
  have hl : ∀ i ∈ List.range' 0 n 1, i < n := fun i hi => by simpa using (List.mem_range'_1.1 hi).2
  generalize List.range' 0 n 1 = l at hl ⊢
  clear hall
  induction l with
  | nil => simp
  | cons i l ih =>
    have hi : i < n := hl i (by simp)
    have px : (part e (xs.map (Value.int k)).toArray (i * 1)).run P w = .ok (.int k (xs.getD i 0)) w := by
      simp [part, isAgg, run_underlying he, List.getD, List.getElem?_eq_getElem (show i < xs.length by omega)]
    have py : (part e (ys.map (Value.int k)).toArray (i * 1)).run P w = .ok (.int k (ys.getD i 0)) w := by
      simp [part, isAgg, run_underlying he, List.getD, List.getElem?_eq_getElem (show i < ys.length by omega)]
    have pe : (Op.equalIn (d + 1) e (.int k (xs.getD i 0)) (.int k (ys.getD i 0))).run P w = .ok (xs.getD i 0 == ys.getD i 0) w :=
      run_equalIn_int w d e k k _ _ he
    simp only [List.forIn_cons, Sem.run_bind, px, py, pe, Result.andThen_ok, List.all_cons]
    cases hb : (xs.getD i 0 == ys.getD i 0)
    · simp
    · simp only [Bool.not_true, Bool.false_eq_true, if_false, Sem.run_pure, Result.andThen_ok, Bool.true_and]
      exact ih fun j hj => hl j (by simp [hj])

end Go.Proofs.Ytglplhmclfekfaa
