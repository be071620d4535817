/- A law's bank: reads in whatever order, a write by its answer. -/
import Derived.Test.YtglplhmclfekfaaGreatDla
import Derived.Test.YtglplhmclfekfaaGreatDlc
namespace Go.Proofs.YtglplhmclfekfaaGreat
open Go.RowKit
set_option linter.unusedVariables false
set_option linter.unusedSimpArgs false

theorem still_neq_sec {ops : Array Oper} {rest : List Oper} {o : Oper} {a : Act} {w : World} {K : Act → Prop} (hgd : Region.wanted o (yielded ops a.tmps) = true) (x y : Operand) {t' : TypeId} (ho : o.op = .binOp .neq 43 x y t') (xs ys : List Int) (hx : a.eval x = .agg (u8s xs).toArray) (hy : a.eval y = .agg (u8s ys).toArray) (hxl : xs.length = 64) (hyl : ys.length = 64)
    (h : wpStill Tryz.prog ops w K rest (a.put o.dst (.bool (!(xs == ys))))) : wpStill Tryz.prog ops w K (o :: rest) a := by
  have heq := run_equal_secA xs ys hxl hyl w
  refine wpStill_val hgd ?_ h
  unfold execOp
  simp only [ho, hx, hy, Sem.run_bind]
  rw [run_eqGuard_agg _ _ _ _ _ _ _ eqg_sec]
  simp only [Result.andThen_ok]
  rw [run_neq_struct, heq]
  simp only [Result.andThen_ok, Sem.run_pure]
/-- All reads, in whatever order: the world a letter. -/
theorem wp_still_all {P : Program} {Q : Exit → Act → World → Prop} {a : Act} {w : World} {id : Nat} {l : List Oper} (hm : P.follows .mixedOrders = true) (hB : Region.lexB .any l.toArray = true)
    (h : ∀ w1, Kept w w1 → w1.heap = w.heap → wpStill P l.toArray w1 (fun a' => Q .normal a' w1) l a) : (Code.region id l.toArray true).wp P Q a w :=
  wp_region_still hm hB (h w.drew (Kept.refl w).drew rfl)
theorem bk_use {T : BankT} {n z : Nat} (h : Still T n z) (hn : n ≠ 0) {c x : Int} (hc : T.clock ≤ c) (hw : T.writes ≤ x) (h1 : c < 1000000000) (h2 : x < 1000000000) : T.Use := ⟨h.inv, by rw [h.len]; exact hn, by omega, by omega⟩
theorem st_writeE {w0 W : World} {R : Nat → Prop} {q : Nat} {T T' : BankT} (h : BK w0 R W q T) (u : T.Use) (d a : Int) {s : List Int} (hs : s.length = 64) {c : Int} (he : T.write d a s = (T', c)) :
    Calls Tryz.prog 34 #[.pointer (some ⟨q, 0, none⟩), .agg #[.int .i64 d, .int .i64 a], .agg (u8s s).toArray] W fun e w' => e = .returned (.int .i64 c) ∧ BK w0 R w' q T' ∧ SameR R W w' :=
  (bk_Write h u d a hs).mono fun e w' ⟨h1, h2, h3⟩ => ⟨by rw [h1, he], by rw [he] at h2; exact h2, h3⟩
end Go.Proofs.YtglplhmclfekfaaGreat
