/- Rules at the operation: one cell that is set, a value that is read; reads ahead of one store. -/
import Derived.Test.YtglplhmclfekfaaFrame
import Derived.Test.YtglplhmclfekfaaAgg
import Derived.StillTailTactics
namespace Go.Proofs.Ytglplhmclfekfaa
open Go.RowKit Go.ChangeMaps Go.MapKept
set_option linter.unusedVariables false
set_option linter.unusedSimpArgs false

section
variable {P : Program} {ops : Array Oper} {rest : List Oper} {o : Oper} {a : Act} {Q : Exit → Act → World → Prop} {w : World}
/-- One cell is set; the world a letter. -/
theorem wpList_set_cell (hgd : Region.wanted o (yielded ops a.tmps) = true) {T : Nat} (x y : Operand) (ho : o.op = .store T x y) (hT : (P.info? T).map (·.size) = some 1)
    (b off : Nat) (hx : a.eval x = .pointer (some ⟨b, off, none⟩)) (v : Value) (hy : a.eval y = v) (hv : v.cells = #[v]) (h1 : v.oneCell' = true)
    (cur : List Value) (t : TypeId) (hb : w.heap[b]? = some (.cells cur.toArray t (0, 0))) (hfit : off < cur.length)
    (h : ∀ w1, Wrote w w1 b (cur.set off v) t → wpList P ops Q rest (a.put o.dst undef) w1) : wpList P ops Q (o :: rest) a w := by
  refine BigFrame.wpList_want hgd fun K hK => ?_
  have hst := run_storeCells_at P b off t [v] 0 cur.toArray w hb (by simp; omega) (by simpa using h1)
  cases hq : P.info? T with
  | none => simp [hq] at hT
  | some i =>
    have hi : i.size = 1 := by simpa [hq] using hT
    unfold Oper.wp execOp
    simp only [ho, hx, hy, Instr.storeAt, Instr.sureAddr, Sem.run_bind, Sem.run_pure, Result.andThen_ok, storeVar, sizeOf, typeInfo, run_program, hq, hv, hi, List.size_toArray, List.length_cons, List.length_nil, Nat.zero_add, ne_eq, not_true_eq_false, if_false, show (#[v] : Array Value).size = 1 from rfl, show (#[v] : Array Value) = [v].toArray from rfl, hst]
    refine hK _ _ (h _ ⟨?_, ?_, ?_, rfl, rfl, rfl⟩)
    · rw [setRow_heap w b _ _ t _ hb]
      simp [List.set_eq_take_append_cons_drop, hfit]
    · intro k hk; exact setRow_other w b k _ hk
    · simp
theorem wpStill_val {K : Act → Prop} {v : Value} (hw : Region.wanted o (yielded ops a.tmps) = true) (hr : (execOp a.eval o).run P w = .ok (.value v) w) (h : wpStill P ops w K rest (a.put o.dst v)) : wpStill P ops w K (o :: rest) a := by
  unfold wpStill
  rw [if_pos hw]
  unfold Oper.still
  rw [hr]
  exact ⟨rfl, h⟩
/-- Reads first, in whatever order; then the rest in its one order: the world a letter. -/
theorem wp_still_tail {id : Nat} {l : List Oper} (n : Nat) (hm : P.follows .mixedOrders = true) (hB : Region.lexTailB .any l.toArray n = true)
    (h : ∀ w1, Kept w w1 → w1.heap = w.heap → wpStill P l.toArray w1 (fun a' => wpList P l.toArray Q (l.drop n) a' w1) (l.take n) a) : (Code.region id l.toArray true).wp P Q a w :=
  wp_region_still_tail n hm hB (h w.drew (Kept.refl w).drew rfl)
theorem But.wrote {S : Nat → Prop} {w1 : World} {g : Nat} {cs : List Value} {t : TypeId} (h : Wrote w w1 g cs t) (hs : S g) : But S w w1 :=
  ⟨h.os, h.tape, h.output, by rw [h.size]; exact Nat.le_refl _, fun k hk hn => h.oth k (fun e => hn (e ▸ hs))⟩
end

theorem size_int : (Try.prog.info? 3).map (·.size) = some 1 := by kernel_rfl
end Go.Proofs.Ytglplhmclfekfaa
