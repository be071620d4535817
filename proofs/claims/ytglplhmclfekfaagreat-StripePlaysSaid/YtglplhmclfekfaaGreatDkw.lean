/- Rules: a new variable of an aggregate type; sectors compared. law03's shown: its bank, step by step. -/
import Derived.Test.YtglplhmclfekfaaGreatDkv
namespace Go.Proofs.YtglplhmclfekfaaGreat
open Go.RowKit
set_option linter.unusedVariables false
set_option linter.unusedSimpArgs false

section
variable {P : Program} {ops : Array Oper} {rest : List Oper} {o o1 o2 : Oper} {a : Act} {w : World} {Q : Exit → Act → World → Prop}
/-- A new variable of an aggregate type, and what it is given; the world a letter. -/
theorem wpList_new_row (hg1 : o1.guard = none) (hg2 : o2.guard = none) {T n : Nat} (x y : Operand) (ho1 : o1.op = .alloc T) (ho2 : o2.op = .store T x y) (hT : AggT P T n)
    (zs : List Value) (hz : ∀ w, (zeroValue T).run P w = .ok (.agg zs.toArray) w) (hzl : zs.length = n)
    (xs : List Value) (hy : (a.put o1.dst (.pointer (some ⟨w.heap.size, 0, none⟩))).eval y = .agg xs.toArray) (hl : xs.length = n) (h1 : ∀ v ∈ xs, v.oneCell' = true)
    (hx : (a.put o1.dst (.pointer (some ⟨w.heap.size, 0, none⟩))).eval x = .pointer (some ⟨w.heap.size, 0, none⟩))
    (h : ∀ w1, Hid (w1.heap[w.heap.size]? = some (.cells xs.toArray T (0, 0))) → w.heap.size < w1.heap.size → Kept w w1 → wpList P ops Q rest ((a.put o1.dst (.pointer (some ⟨w.heap.size, 0, none⟩))).put o2.dst undef) w1) : wpList P ops Q (o1 :: o2 :: rest) a w := by
  refine wpList_alloc_abs hg1 T ho1 zs hz ?_
  intro w1 hz1 hs1 hn1 hk1
  refine wpList_store_agg hg2 x y ho2 hT w.heap.size 0 hx xs hy hl h1 zs T hz1.out (by omega) ?_
  intro w2 hw2
  replace hw2 := hw2.all (by omega)
  exact h w2 (Lib.hid hw2.blk) (by rw [hw2.size]; exact hs1) (hw2.kept hk1 (Nat.le_refl _))
end
section
variable {ops : Array Oper} {rest : List Oper} {o : Oper} {a : Act} {w : World} {Q : Exit → Act → World → Prop}
/-- two sectors compared -/
theorem wpList_eq_sec (hgd : Region.wanted o (yielded ops a.tmps) = true) (x y : Operand) {t' : TypeId} (ho : o.op = .binOp .eql 43 x y t') (xs ys : List Int) (hx : a.eval x = .agg (u8s xs).toArray) (hy : a.eval y = .agg (u8s ys).toArray) (hxl : xs.length = 64) (hyl : ys.length = 64)
    (h : wpList Tryz.prog ops Q rest (a.put o.dst (.bool (xs == ys))) w) : wpList Tryz.prog ops Q (o :: rest) a w := by
  refine BigFrame.wpList_want hgd fun K hK => ?_
  have heq := run_equal_secA xs ys hxl hyl w
  unfold Oper.wp execOp
  simp only [ho, hx, hy, Sem.run_bind]
  rw [run_eqGuard_agg _ _ _ _ _ _ _ eqg_sec]
  simp only [Result.andThen_ok]
  rw [run_eql_struct, heq]
  simp only [Result.andThen_ok, Sem.run_pure]
  exact hK _ _ h
theorem wpList_neq_sec (hgd : Region.wanted o (yielded ops a.tmps) = true) (x y : Operand) {t' : TypeId} (ho : o.op = .binOp .neq 43 x y t') (xs ys : List Int) (hx : a.eval x = .agg (u8s xs).toArray) (hy : a.eval y = .agg (u8s ys).toArray) (hxl : xs.length = 64) (hyl : ys.length = 64)
    (h : wpList Tryz.prog ops Q rest (a.put o.dst (.bool (!(xs == ys)))) w) : wpList Tryz.prog ops Q (o :: rest) a w := by
  refine BigFrame.wpList_want hgd fun K hK => ?_
  have heq := run_equal_secA xs ys hxl hyl w
  unfold Oper.wp execOp
  simp only [ho, hx, hy, Sem.run_bind]
  rw [run_eqGuard_agg _ _ _ _ _ _ _ eqg_sec]
  simp only [Result.andThen_ok]
  rw [run_neq_struct, heq]
  simp only [Result.andThen_ok, Sem.run_pure]
  exact hK _ _ h
end
theorem BankT.Inv.zero : BankT.zero.Inv := by
  have h : ∀ p, BankT.zero.since p = 0 := fun p => rfl
  exact ⟨⟨by decide, fun m hm => by cases hm⟩, by decide, by decide, by decide, by decide, fun p => by rw [h]; decide, fun p q hp => by rw [h] at hp; omega⟩
theorem Med.Ok.fresh {n : Nat} (hn : n ≤ 4096) : (Med.fresh n).Ok := by
  have hz : zeroB.length = 64 ∧ ∀ x ∈ zeroB, IsByte x := by
    refine ⟨zeroB_length, fun x hx => ?_⟩
    have : x = 0 := List.eq_of_mem_replicate (n := 64) (by rw [show List.replicate 64 (0 : Int) = zeroB by decide]; exact hx)
    rw [this]; unfold IsByte; decide
  refine ⟨⟨by simp [Med.fresh], fun s hs => ?_⟩, ⟨by simp [Med.fresh], fun s hs => ?_⟩, by simpa [Med.fresh] using hn, fun x hx => ?_, ⟨Int.le_refl _, by show (0 : Int) < 9223372036854775808; decide⟩⟩
  · rw [List.eq_of_mem_replicate hs]; exact hz
  · rw [List.eq_of_mem_replicate hs]; exact hz
  · rw [List.eq_of_mem_replicate hx]; exact Int.le_refl _
theorem BankT.since_add (T : BankT) (n : Nat) (p : Nat × Nat) : (T.add n).since p = T.since p := by
  unfold BankT.since
  by_cases h : p.1 < T.l.length
  · rw [BankT.add_old T n h]
  · have h0 : T.d p.1 = Med.zero := by unfold BankT.d; rw [List.getD_eq_getElem?_getD, List.getElem?_eq_none (by omega)]; rfl
    rw [h0]
    by_cases e : p.1 = T.l.length
    · rw [e, BankT.add_new]
      simp only [Med.fresh, Med.zero, List.getD_eq_getElem?_getD, List.getElem?_replicate]
      split <;> rfl
    · have : (T.add n).d p.1 = Med.zero := by unfold BankT.d; rw [List.getD_eq_getElem?_getD, List.getElem?_eq_none (by rw [BankT.add_len]; omega)]; rfl
      rw [this]
theorem BankT.Inv.add {T : BankT} (h : T.Inv) (hl : T.l.length < 32) {n : Nat} (hn : n ≤ 4096) : (T.add n).Inv := by
  refine ⟨⟨by rw [BankT.add_len]; omega, fun m hm => ?_⟩, h.clk, h.wr, h.ar, h.msk, fun p => by rw [BankT.since_add]; exact h.top p, fun p q hp hq => ?_⟩
  · have : m ∈ T.l ++ [Med.fresh n] := hm
    rcases List.mem_append.1 this with h' | h'
    · exact h.ok.2 m h'
    · rw [List.mem_singleton.1 h']; exact Med.Ok.fresh hn
  · rw [BankT.since_add] at hp hq
    rw [BankT.since_add] at hq
    exact h.uniq p q hp hq
end Go.Proofs.YtglplhmclfekfaaGreat
