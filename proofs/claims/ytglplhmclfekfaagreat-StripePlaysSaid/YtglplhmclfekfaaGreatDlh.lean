/- Two banks of a law. -/
import Derived.Test.YtglplhmclfekfaaGreatDlb
namespace Go.Proofs.YtglplhmclfekfaaGreat
open Go.RowKit
set_option linter.unusedVariables false
set_option linter.unusedSimpArgs false

/-- Two banks, apart, and apart from the blocks that R names: qa reads as Ta, qb as Tb. -/
def BK2 (w0 : World) (R : Nat → Prop) (W : World) (qa : Nat) (Ta : BankT) (qb : Nat) (Tb : BankT) : Prop :=
  ∃ Yb : Lay, Yb.A 0 = qb ∧ BankD W Yb Tb ∧ (∀ b, Yb.In Tb.l.length b → w0.heap.size ≤ b) ∧ (∀ k, R k → ¬ Yb.In Tb.l.length k) ∧ BK w0 (fun k => Yb.In Tb.l.length k ∨ R k) W qa Ta
section
variable {w0 W W' : World} {R : Nat → Prop} {qa qb : Nat} {Ta Tb Ta' Tb' : BankT}
theorem BK2.keeps (h : BK2 w0 R W qa Ta qb Tb) : Kept w0 W := by obtain ⟨_, _, _, _, _, h⟩ := h; exact h.keeps
theorem BK2.symm (h : BK2 w0 R W qa Ta qb Tb) : BK2 w0 R W qb Tb qa Ta := by
  obtain ⟨Yb, h0, hd, ho, hr, Ya, ha, h⟩ := h
  exact ⟨Ya, ha, h.d, h.own, fun k hk => (h.off k (.inr hk)).2, Yb, h0, ⟨hd, h.keeps, ho, fun k hk => by
    rcases hk with hk | hk
    · exact ⟨h.d.lt hk, fun hb => (h.off k (.inl hb)).2 hk⟩
    · exact ⟨(h.off k (.inr hk)).1, hr k hk⟩⟩⟩
theorem BK2.kept (h : BK2 w0 R W qa Ta qb Tb) (hk : Kept W W') : BK2 w0 R W' qa Ta qb Tb := by
  obtain ⟨Yb, h0, hd, ho, hr, h⟩ := h
  exact ⟨Yb, h0, hd.kept hk, ho, hr, (h.kept hk).1⟩
theorem BK2.less {R' : Nat → Prop} (h : BK2 w0 R W qa Ta qb Tb) (hr : ∀ k, R' k → R k) : BK2 w0 R' W qa Ta qb Tb := by
  obtain ⟨Yb, h0, hd, ho, hr0, h⟩ := h
  exact ⟨Yb, h0, hd, ho, fun k hk => hr0 k (hr k hk), h.less fun k hk => by
    rcases hk with hk | hk
    · exact .inl hk
    · exact .inr (hr k hk)⟩
theorem BK2.more (h : BK2 w0 R W qa Ta qb Tb) (hk : Kept W W') (B : Nat) (h1 : W.heap.size ≤ B) (h2 : B < W'.heap.size) : BK2 w0 (fun k => R k ∨ k = B) W' qa Ta qb Tb := by
  obtain ⟨Yb, h0, hd, ho, hr, h⟩ := h
  refine ⟨Yb, h0, hd.kept hk, ho, fun k hk' => ?_, (h.more hk B h1 h2).less fun k hk' => ?_⟩
  · rcases hk' with hk' | rfl
    · exact hr k hk'
    · intro hi; have := hd.lt hi; omega
  · rcases hk' with hk' | hk' | hk'
    · exact .inl (.inl hk')
    · exact .inl (.inr hk')
    · exact .inr hk'
/-- a call on the first one -/
theorem BK2.op {f : Nat} {args : Array Value} {P : Ending → Prop} (h : BK2 w0 R W qa Ta qb Tb)
    (C : ∀ R, BK w0 R W qa Ta → Calls Tryz.prog f args W fun e w' => P e ∧ BK w0 R w' qa Ta' ∧ SameR R W w') : Calls Tryz.prog f args W fun e w' => P e ∧ BK2 w0 R w' qa Ta' qb Tb ∧ SameR R W w' := by
  obtain ⟨Yb, h0, hd, ho, hr, h⟩ := h
  exact (C _ h).mono fun e w' ⟨he, hb, hs⟩ => ⟨he, ⟨Yb, h0, hd.same fun b hb' => hs b (.inl hb'), ho, hr, hb⟩, fun k hk => hs k (.inr hk)⟩
/-- a call on the second one -/
theorem BK2.op2 {f : Nat} {args : Array Value} {P : Ending → Prop} (h : BK2 w0 R W qa Ta qb Tb)
    (C : ∀ R, BK w0 R W qb Tb → Calls Tryz.prog f args W fun e w' => P e ∧ BK w0 R w' qb Tb' ∧ SameR R W w') : Calls Tryz.prog f args W fun e w' => P e ∧ BK2 w0 R w' qa Ta qb Tb' ∧ SameR R W w' :=
  (h.symm.op C).mono fun e w' ⟨he, hb, hs⟩ => ⟨he, hb.symm, hs⟩
--
--
--
--
--
--
--
--
theorem BK2.fst (h : BK2 w0 R W qa Ta qb Tb) : BK w0 R W qa Ta := by
  obtain ⟨Yb, h0, hd, ho, hr, h⟩ := h
  exact h.less fun _ h => .inr h
end
section
variable {P : Program} {o : Oper} {a : Act} {w : World} {K : Act → World → Prop} {Q : Exit → Act → World → Prop}
/-- A new variable of an aggregate type, in a drawn region. -/
theorem wp_alloc_abs (T : TypeId) (ho : o.op = .alloc T) (zs : List Value) (hz : ∀ w, (zeroValue T).run P w = .ok (.agg zs.toArray) w)
    (h : ∀ w1, Hid (w1.heap[w.heap.size]? = some (.cells zs.toArray T (0, 0))) → w.heap.size < w1.heap.size → Kept w w1 → K (a.put o.dst (.pointer (some ⟨w.heap.size, 0, none⟩))) w1) : o.wp P a w K Q := by
  unfold Oper.wp execOp
  simp only [ho, Instr.alloc, newVar, newRow, Sem.run_bind, hz, Result.andThen_ok, Sem.run_pure, run_newObj_alloc, Value.cells]
  exact h _ (Lib.hid (heap_alloc_new w _)) (by simp) ((Kept.refl _).alloc _)
theorem wp_store_agg {T n : Nat} (x y : Operand) (ho : o.op = .store T x y) (hT : AggT P T n)
    (b off : Nat) (hx : a.eval x = .pointer (some ⟨b, off, none⟩)) (xs : List Value) (hy : a.eval y = .agg xs.toArray) (hl : xs.length = n) (h1 : ∀ v ∈ xs, v.oneCell' = true)
    (cur : List Value) (t : TypeId) (hb : w.heap[b]? = some (.cells cur.toArray t (0, 0))) (hfit : off + n ≤ cur.length)
    (h : ∀ w1, Wrote w w1 b (splice cur off xs) t → K (a.put o.dst undef) w1) : o.wp P a w K Q := by
  have hst := run_storeCells_at P b off t xs 0 cur.toArray w hb (by simpa [hl] using hfit) h1
  obtain ⟨_, hs⟩ := hT
  cases hq : P.info? T with
  | none => simp [hq] at hs
  | some i =>
    have hi : i.size = n := by simpa [hq] using hs
    unfold Oper.wp execOp
    simp only [ho, hx, hy, Instr.storeAt, Instr.sureAddr, Sem.run_bind, Sem.run_pure, Result.andThen_ok, storeVar, sizeOf, typeInfo, run_program, hq, Value.cells, List.size_toArray, hi, hl, ne_eq, not_true_eq_false, if_false, hst]
    refine h _ ⟨?_, ?_, ?_, rfl, rfl, rfl⟩
    · rw [setRow_heap w b _ _ t _ hb]
      subst hl; simp [splice]
    · intro k hk; exact setRow_other w b k _ hk
    · simp
end
theorem ty_plc : AggT Tryz.prog 47 2 := ⟨⟨_, Tryz.underlying47, rfl⟩, by kernel_rfl⟩
theorem zero_plc (w : World) : (zeroValue 47).run Tryz.prog w = .ok (.agg [.int .i64 0, .int .i64 0].toArray) w := by kernel_rfl
/-- the same bank but for what only a count or an armed write would show -/
def BankT.re (T : BankT) (x a m : Int) : BankT := { T with writes := x, armed := a, mask := m }
theorem re_looseN (T : BankT) (x a m : Int) : (T.re x a m).looseN = T.looseN := by
  have : ∀ k, (T.re x a m).looseTo k = T.looseTo k := fun k => by
    induction k with
    | zero => rfl
    | succ k ih => unfold BankT.looseTo; rw [ih]; rfl
  unfold BankT.looseN; rw [this]; rfl
theorem re_order (T : BankT) (x a m : Int) : (T.re x a m).order = T.order := by
  have : ∀ k, (T.re x a m).looseTo k = T.looseTo k := fun k => by
    induction k with
    | zero => rfl
    | succ k ih => unfold BankT.looseTo; rw [ih]; rfl
  unfold BankT.order; rw [this]; rfl
theorem re_settleL (mask : Int) (x a m : Int) : ∀ (L : List (Nat × Nat)) (i : Nat) (T : BankT), BankT.settleL mask L i (T.re x a m) = (BankT.settleL mask L i T).re x a m
  | [], _, _ => rfl
  | (k, b) :: L, i, T => by
    rw [BankT.settleL, BankT.settleL, ← re_settleL mask x a m L (i + 1)]; rfl
theorem re_readyE (T : BankT) (x a m : Int) (d : Int) : (T.re x a m).readyE d = T.readyE d := rfl
theorem re_inE (T : BankT) (x a m : Int) (d b : Int) : (T.re x a m).inE d b = T.inE d b := rfl
theorem re_put (T : BankT) (x a m : Int) (d b : Nat) (s : List Int) : (T.re x a m).put d b s = (T.put d b s).re x a m := by
  unfold BankT.put
  split
  · rename_i h
    have h' : (T.d d).sin.getD b 0 = 0 := h
    rw [if_pos h']; rfl
  · rename_i h
    have h' : ¬ (T.d d).sin.getD b 0 = 0 := h
    rw [if_neg h']; rfl
theorem re_flushC (T : BankT) (x a m : Int) (d : Int) : (T.re x a m).flushC d = ((T.flushC d).1.re x a m, (T.flushC d).2) := by
  unfold BankT.flushC
  rw [re_readyE]
  split <;> rfl
theorem re_read (T : BankT) (x a m : Int) (d b : Int) : (T.re x a m).read d b = T.read d b := rfl
theorem re_start (T : BankT) (x a m : Int) : (T.re x a m).start = T.start.re x a m := rfl
theorem re_crash {T : BankT} (x a m : Int) (hu : T.down = false) (mask : Int) : (T.re x a m).crash mask = (T.crash mask).re x 0 m := by
  unfold BankT.crash
  rw [if_neg (show ¬ (T.re x a m).down = true by show ¬ T.down = true; rw [hu]; decide), if_neg (by rw [hu]; decide), re_order, re_settleL]
  rfl
theorem re_self (T : BankT) : T.re T.writes T.armed T.mask = T := rfl
theorem re_inv {T : BankT} (h : T.Inv) {x a m : Int} (hx : 0 ≤ x) (ha : 0 ≤ a ∧ a < 9223372036854775808) (hm : 0 ≤ m ∧ m < 18446744073709551616) : (T.re x a m).Inv := ⟨h.ok, h.clk, hx, ha, hm, h.top, h.uniq⟩
end Go.Proofs.YtglplhmclfekfaaGreat
