/- What a call leaves as it was: all but the blocks that S names. Places where the walk stops. Rules for maps with int keys. -/
import Derived.Test.YtglplhmclfekfaaMap
import Derived.Test.YtglplhmclfekfaaApp
import Derived.Maps.OwnOps
namespace Go.Proofs.Ytglplhmclfekfaa
open Go.RowKit Go.ChangeMaps Go.MapKept
set_option linter.unusedVariables false
set_option linter.unusedSimpArgs false

structure Stop (p : Prop) : Prop where
  out : p
theorem stop_at {P : Program} {ops : Array Oper} {Q : Exit → Act → World → Prop} {rest : List Oper} {o : Oper} {a : Act} {w : World} (h : Stop (wpList P ops Q (o :: rest) a w)) : wpList P ops Q (o :: rest) a w := h.out

/-- Nothing but what S names, and what is new, has turned. -/
structure But (S : Nat → Prop) (w w' : World) : Prop where
  os : w'.os = w.os
  tape : w'.tape = w.tape
  output : w'.output = w.output
  size : w.heap.size ≤ w'.heap.size
  block : ∀ k, k < w.heap.size → ¬ S k → w'.heap[k]? = w.heap[k]?

theorem But.refl (S : Nat → Prop) (w : World) : But S w w := ⟨rfl, rfl, rfl, Nat.le_refl _, fun _ _ _ => rfl⟩
theorem But.trans' {S S' : Nat → Prop} {a b c : World} (h : But S a b) (k : But S' b c) (hs : ∀ i, S' i → S i ∨ a.heap.size ≤ i) : But S a c :=
  ⟨k.os.trans h.os, k.tape.trans h.tape, k.output.trans h.output, Nat.le_trans h.size k.size, fun i hi hn =>
    (k.block i (Nat.lt_of_lt_of_le hi h.size) (fun h' => by rcases hs i h' with h'' | h''; exact hn h''; omega)).trans (h.block i hi hn)⟩
theorem But.trans {S : Nat → Prop} {a b c : World} (h : But S a b) (k : But S b c) : But S a c := h.trans' k fun _ h => .inl h
theorem But.mono {S S' : Nat → Prop} {a b : World} (h : But S a b) (hs : ∀ i, S i → S' i) : But S' a b := ⟨h.os, h.tape, h.output, h.size, fun i hi hn => h.block i hi (fun h' => hn (hs i h'))⟩
theorem But.kept {S : Nat → Prop} {a b : World} (h : Kept a b) : But S a b := ⟨h.os, h.tape, h.output, h.size, fun i hi _ => Below.block h i hi⟩
theorem But.keep {S : Nat → Prop} {a b c : World} (h : But S a b) (k : Kept b c) : But S a c := h.trans (But.kept k)
theorem But.below {S : Nat → Prop} {base : Nat} {a b : World} (h : But S a b) (hs : ∀ i, S i → base ≤ i) (hb : base ≤ a.heap.size) : Below base a b :=
  ⟨h.os, h.tape, h.output, h.size, fun i hi => h.block i (by omega) (fun h' => by have := hs i h'; omega)⟩
theorem But.to_kept {S : Nat → Prop} {w a b : World} (hk : Kept w a) (h : But S a b) (hs : ∀ i, S i → w.heap.size ≤ i) : Kept w b := Below.trans hk (h.below hs hk.size)
theorem But.alloc {S : Nat → Prop} {a b : World} (h : But S a b) (o : Obj) : But S a (b.alloc o) := h.keep ((Kept.refl _).alloc o)
theorem But.drew {S : Nat → Prop} {a b : World} (h : But S a b) : But S a b.drew := h.keep (Kept.refl _).drew
theorem But.drewN {S : Nat → Prop} {a b : World} (h : But S a b) (n : Nat) : But S a (b.drewN n) := h.keep ((Kept.refl _).drewN n)
theorem setBlock_oth (w : World) (k i : Nat) (o : Obj) (h : i ≠ k) : (setBlock w k o).heap[i]? = w.heap[i]? := by
  simp [setBlock, Array.getElem?_setIfInBounds, Ne.symm h]
theorem But.setBlock {S : Nat → Prop} {a b : World} (h : But S a b) {k : Nat} (o : Obj) (hk : S k ∨ a.heap.size ≤ k) : But S a (setBlock b k o) := by
  refine ⟨h.os, h.tape, h.output, by simpa [ChangeMaps.setBlock] using h.size, fun i hi hn => ?_⟩
  have hne : i ≠ k := by
    intro e; subst e; rcases hk with hk | hk
    · exact hn hk
    · omega
  rw [setBlock_oth _ _ _ _ hne]
  exact h.block i hi hn
theorem But.setCell {S : Nat → Prop} {a b : World} (h : But S a b) {p : Addr} (u : Value) (hk : S p.block ∨ a.heap.size ≤ p.block) : But S a (b.setCell p u) := by
  refine ⟨h.os, h.tape, h.output, by simpa [World.setCell] using h.size, fun i hi hn => ?_⟩
  have hne : p.block ≠ i := by
    intro e; subst e; rcases hk with hk | hk
    · exact hn hk
    · omega
  rw [heap_setCell_other _ _ _ _ (Ne.symm hne)]
  exact h.block i hi hn
theorem But.grown {S : Nat → Prop} {a b c : World} {row : Option Nat} (h : But S a b) (hg : b.grownBy c row) (hr : ∀ k, row = some k → S k ∨ a.heap.size ≤ k) : But S a c :=
  h.trans' (S' := fun k => row = some k) ⟨hg.os, hg.tape, hg.output, hg.size, fun k hk hn => hg.block k hk (fun e => hn e.symm)⟩ fun i hi => hr i hi
theorem But.cell {S : Nat → Prop} {a b : World} (h : But S a b) {p : Addr} {v : Value} (hn : ¬ S p.block) (hc : a.cell? p = some v) : b.cell? p = some v :=
  (World.cell?_of_block (h.block _ (World.block_lt_of_cell? _ _ hc) hn)).trans hc
theorem But.blk {S : Nat → Prop} {a b : World} (h : But S a b) {k : Nat} {o : Obj} (hn : ¬ S k) (hc : a.heap[k]? = some o) : b.heap[k]? = some o :=
  (h.block k (Array.getElem?_eq_some_iff.1 hc).1 hn).trans hc
theorem But.imap {S : Nat → Prop} {a b : World} (h : But S a b) {k m : Nat} {f : Int → Option Value} (hn : ¬ S k) (hi : IMap a k m f) : IMap b k m f := hi.same (h.block k hi.lt hn)

section
variable {P : Program} {ops : Array Oper} {rest : List Oper} {o : Oper} {a : Act} {w : World} {Q : Exit → Act → World → Prop} {t k e : TypeId} {z : Value} {b c : Nat} {f : Int → Option Value}

theorem exec_lookup (m x : Operand) (ok : Bool) (ho : o.op = .lookup t m x ok) (ht : P.underlying t = some (.map k e)) (hk : P.underlying k = some (.int .i64)) (hz : ∀ w, (zeroValue e).run P w = .ok z w)
    (hm : a.eval m = .map (some b)) (n : Int) (hx : a.eval x = .int .i64 n) (h : IMap w b c f) :
    (execOp a.eval o).run P w = .ok (.value (if ok then .tuple #[(f n).getD z, .bool (f n).isSome] else (f n).getD z)) w := by
  have hr := h.lookup ht hk hz n ok
  unfold execOp
  simp only [ho, Sem.run_bind, hm, hx, hr, Result.andThen_ok, Sem.run_pure]
theorem wpList_lookup_im (hgd : Region.wanted o (yielded ops a.tmps) = true) (m x : Operand) (ok : Bool) (ho : o.op = .lookup t m x ok) (ht : P.underlying t = some (.map k e)) (hk : P.underlying k = some (.int .i64)) (hz : ∀ w, (zeroValue e).run P w = .ok z w)
    (hm : a.eval m = .map (some b)) (n : Int) (hx : a.eval x = .int .i64 n) (hi : IMap w b c f) (v : Value) (hv : (if ok then .tuple #[(f n).getD z, .bool (f n).isSome] else (f n).getD z) = v)
    (h : wpList P ops Q rest (a.put o.dst v) w) : wpList P ops Q (o :: rest) a w := by
  refine BigFrame.wpList_want hgd fun K hK => ?_
  have hr := exec_lookup m x ok ho ht hk hz hm n hx hi
  unfold Oper.wp
  rw [hr, hv]
  exact hK _ _ h
theorem wpList_update_im (hgd : Region.wanted o (yielded ops a.tmps) = true) (m x y : Operand) (ho : o.op = .mapUpdate t m x y) (ht : P.underlying t = some (.map k e)) (hk : P.underlying k = some (.int .i64))
    (hm : a.eval m = .map (some b)) (n : Int) (hx : a.eval x = .int .i64 n) (v : Value) (hy : a.eval y = v) (hi : IMap w b c f)
    (h : ∀ o', IMap (setBlock w b o') b (c + 1) (upd f n v) → wpList P ops Q rest (a.put o.dst undef) (setBlock w b o')) : wpList P ops Q (o :: rest) a w := by
  refine BigFrame.wpList_want hgd fun K hK => ?_
  obtain ⟨w', hr, hi', o', rfl⟩ := hi.update (t := t) (e := e) ht hk n v
  unfold Oper.wp execOp
  simp only [ho, Sem.run_bind, hm, hx, hy, hr, Result.andThen_ok, Sem.run_pure]
  exact hK _ _ (h o' hi')
theorem wp_update_im {K : Act → World → Prop} (m x y : Operand) (ho : o.op = .mapUpdate t m x y) (ht : P.underlying t = some (.map k e)) (hk : P.underlying k = some (.int .i64))
    (hm : a.eval m = .map (some b)) (n : Int) (hx : a.eval x = .int .i64 n) (v : Value) (hy : a.eval y = v) (hi : IMap w b c f)
    (h : ∀ o', IMap (setBlock w b o') b (c + 1) (upd f n v) → K (a.put o.dst undef) (setBlock w b o')) : o.wp P a w K Q := by
  obtain ⟨w', hr, hi', o', rfl⟩ := hi.update (t := t) (e := e) ht hk n v
  unfold Oper.wp execOp
  simp only [ho, Sem.run_bind, hm, hx, hy, hr, Result.andThen_ok, Sem.run_pure]
  exact h o' hi'
theorem wpList_delete_im (hgd : Region.wanted o (yielded ops a.tmps) = true) (m x : Operand) (ho : o.op = .call { callee := .builtin .delete, args := #[m, x], argTypes := #[t, k] }) (ht : P.underlying t = some (.map k e)) (hk : P.underlying k = some (.int .i64))
    (hm : a.eval m = .map (some b)) (n : Int) (hx : a.eval x = .int .i64 n) (hi : IMap w b c f)
    (h : ∀ o', IMap (setBlock w b o') b c (del f n) → wpList P ops Q rest (a.put o.dst (.tuple #[])) (setBlock w b o')) : wpList P ops Q (o :: rest) a w := by
  refine BigFrame.wpList_want hgd fun K hK => ?_
  obtain ⟨w', hr, hi', o', rfl⟩ := hi.delete (t := t) (e := e) (ty := o.type) ht hk n
  unfold Oper.wp execOp
  simp only [ho, resolve, invoke, builtin, Sem.run_bind, Sem.run_pure, Result.andThen_ok, List.map_toArray, List.map_cons, List.map_nil, hm, hx, hr]
  exact hK _ _ (h o' hi')
end

theorem zero_slice (w : World) : (zeroValue 56).run Try.prog w = .ok (.slice none 0 0) w := by kernel_rfl
def ints (l : List Int) : List Value := l.map (.int .i64)
theorem ints_length (l : List Int) : (ints l).length = l.length := by simp [ints]
end Go.Proofs.Ytglplhmclfekfaa
