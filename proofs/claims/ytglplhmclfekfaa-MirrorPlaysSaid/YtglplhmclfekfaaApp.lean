/- One law for append onto a slice that is owned, or full. -/
import Derived.Test.YtglplhmclfekfaaBase
namespace Go.Proofs.Ytglplhmclfekfaa
open Go.RowKit
set_option linter.unusedVariables false

/-- A slice type t over elements e of 'size' cells and 'bytes' bytes. -/
structure ElemT (P : Program) (t e size bytes : Nat) : Prop where
  ht : P.underlying t = some (.slice e)
  i : ∃ i z, P.info? e = some i ∧ i.zero = some z ∧ i.size = size ∧ i.bytes = bytes ∧ z.cells.size = size
  pos : 0 < size

/-- A slice value of n elements that may be appended to: owned from block 'base' on, or without room behind its length. -/
def App (w : World) (base e size : Nat) (v : Value) (n : Nat) (xs : List Value) : Prop :=
  w.ownsRow base e size v n xs ∨ (xs.length = n * size ∧ ∃ ao, v = .slice ao n n ∧ (ao = none → n = 0) ∧ ∀ b, ao = some b → ∀ j u, xs[j]? = some u → w.cell? (b.add j) = some u)

/-- A slice value of m elements that is read. -/
def Src (w : World) (size : Nat) (x : Value) (m : Nat) (news : List Value) : Prop :=
  news.length = m * size ∧ ∃ ax c, x = .slice ax m c ∧ m ≤ c ∧ (ax = none → m = 0 ∧ c = 0) ∧ ∀ b, ax = some b → ∀ j u, news[j]? = some u → w.cell? (b.add j) = some u

theorem grownBy_refl (w : World) (row : Option Nat) : w.grownBy w row := ⟨rfl, rfl, rfl, Nat.le_refl _, fun _ _ _ => rfl⟩
theorem grownBy_any {w w' : World} (h : w.grownBy w' none) (row : Option Nat) : w.grownBy w' row := ⟨h.os, h.tape, h.output, h.size, fun k hk _ => h.block k hk (by simp)⟩

theorem ownsRow_base {w : World} {base base' e size n : Nat} {v : Value} {xs : List Value} (h : w.ownsRow base e size v n xs) (hb : base' ≤ base) : w.ownsRow base' e size v n xs := by
  refine ⟨h.1, ?_⟩
  rcases h.2 with h2 | ⟨g, cap, cur, hv, hg, r⟩
  · exact .inl h2
  · exact .inr ⟨g, cap, cur, hv, by omega, r⟩

theorem run_append_app {P : Program} (w : World) {t e size bytes : Nat} (T : ElemT P t e size bytes) (ty : TypeId) (base : Nat) (v : Value) (n : Nat) (xs : List Value) (hv : App w base e size v n xs)
    (x : Value) (m : Nat) (news : List Value) (hx : Src w size x m news) (h1 : ∀ u ∈ news, u.oneCell' = true)
    (h63 : n + m ≤ maxLen) (hbytes : (n + m) * bytes ≤ 140737488355328) (hbase : base ≤ w.heap.size) :
    ∃ v' w', (Builtin.append_ #[t, t] ty #[v, x]).run P w = .ok v' w' ∧ App w' base e size v' (n + m) (xs ++ news) ∧ w.grownBy w' v.ownBlock ∧ Below base w w' ∧
      ((0 < m ∨ w.ownsRow base e size v n xs) → w'.ownsRow base e size v' (n + m) (xs ++ news)) := by
  obtain ⟨ht, ⟨i, z, hi, hz, rfl, rfl, hzs⟩, hpos⟩ := T
  obtain ⟨hnl, ax, c, rfl, _, hnone, hcells⟩ := hx
  rcases hv with hown | ⟨hxl, ao, rfl, ha0, hold⟩
  · cases ax with
    | none =>
      obtain ⟨rfl, rfl⟩ := hnone rfl
      have hn : news = [] := List.eq_nil_of_length_eq_zero (by simpa using hnl)
      subst hn
      have hr := run_append_owned_none (P := P) (w := w) base t ty e i i.size ht hi v n xs hown
      simp only [Nat.add_zero, List.append_nil]
      exact ⟨v, w, hr, .inl hown, grownBy_refl _ _, Below.refl _ _, fun _ => hown⟩
    | some b =>
      obtain ⟨v', w', hr, h2, h3, _⟩ := run_append_own (P := P) w base t ty e i z i.size i.bytes ht hi hz rfl rfl hzs hpos v n xs hown b m c news hnl (hcells b rfl) h1 h63 hbytes hbase
      exact ⟨v', w', hr, .inl h2, h3, (Below.refl base w).grown h3 hbase (fun k hk => (hown.lt k hk).1), fun _ => h2⟩
  · by_cases hm : m = 0
    · subst hm
      have hn : news = [] := List.eq_nil_of_length_eq_zero (by simpa using hnl)
      subst hn
      simp only [Nat.add_zero, List.append_nil]
      refine ⟨.slice ao n n, w, ?_, .inr ⟨hxl, ao, rfl, ha0, hold⟩, grownBy_refl _ _, Below.refl _ _, fun h => by simpa using h⟩
      cases ao <;> cases ax <;> simp [Builtin.append_, run_underlying ht, sizeOf, typeInfo, hi, Builtin.lenOf, Builtin.firstCells, loadCells, loadCellsFrom, storeCells]
    · cases ax with
      | none => exact absurd (hnone rfl).1 hm
      | some b =>
        cases ao with
        | none =>
          obtain rfl := ha0 rfl
          have hx0 : xs = [] := List.eq_nil_of_length_eq_zero (by simpa using hxl)
          subst hx0
          obtain ⟨v', w', hr, h2, h3, _⟩ := run_append_own (P := P) w base t ty e i z i.size i.bytes ht hi hz rfl rfl hzs hpos (.slice none 0 0) 0 [] (World.ownsRow_nil w _ e i.size) b m c news hnl (hcells b rfl) h1 h63 hbytes hbase
          exact ⟨v', w', hr, .inl h2, h3, (Below.refl base w).grown h3 hbase (fun k hk => by simp [Value.ownBlock] at hk), fun _ => h2⟩
        | some a =>
          obtain ⟨v', w', hr, h2, h3⟩ := run_append_arg_grows (P := P) w t ty e i z i.size i.bytes ht hi hz rfl rfl hzs hpos a n n xs hxl (hold a rfl) b m c news hnl (hcells b rfl) (by omega) h63 hbytes
          exact ⟨v', w', hr, .inl (ownsRow_base h2 hbase), grownBy_any h3 _, (Below.refl base w).grown h3 hbase (fun k hk => by simp at hk), fun _ => ownsRow_base h2 hbase⟩

theorem wpList_append_app {P : Program} (w : World) {ops : Array Oper} {rest : List Oper} {o : Oper} {a : Act} {Q : Exit → Act → World → Prop} (hgd : o.guard = none) (s x : Operand) {t e size bytes : Nat}
    (ho : o.op = .call { callee := .builtin .append, args := #[s, x], argTypes := #[t, t] }) (T : ElemT P t e size bytes)
    (base : Nat) (v : Value) (n : Nat) (xs : List Value) (hs : a.eval s = v) (hv : App w base e size v n xs)
    (xv : Value) (m : Nat) (news : List Value) (hxe : a.eval x = xv) (hx : Src w size xv m news) (h1 : ∀ u ∈ news, u.oneCell' = true)
    (h63 : n + m ≤ maxLen) (hbytes : (n + m) * bytes ≤ 140737488355328) (hbase : base ≤ w.heap.size)
    (h : ∀ v' w', App w' base e size v' (n + m) (xs ++ news) → w.grownBy w' v.ownBlock → Below base w w' →
      ((0 < m ∨ w.ownsRow base e size v n xs) → w'.ownsRow base e size v' (n + m) (xs ++ news)) → wpList P ops Q rest (a.put o.dst v') w') : wpList P ops Q (o :: rest) a w := by
  refine wpList_plain hgd fun K hK => ?_
  obtain ⟨v', w', hr, h2, h3, hb, h4⟩ := run_append_app (P := P) w T o.type base v n xs hv xv m news hx h1 h63 hbytes hbase
  unfold Oper.wp execOp
  simp only [ho, resolve, invoke, builtin, Sem.run_bind, Sem.run_pure, Result.andThen_ok, List.map_toArray, List.map_cons, List.map_nil, hs, hxe, hr]
  exact hK _ _ (h v' w' h2 h3 hb h4)

theorem wp_append_app {P : Program} {w : World} {o : Oper} {a : Act} {K : Act → World → Prop} {Q : Exit → Act → World → Prop} (s x : Operand) {t e size bytes : Nat}
    (ho : o.op = .call { callee := .builtin .append, args := #[s, x], argTypes := #[t, t] }) (T : ElemT P t e size bytes)
    (base : Nat) (v : Value) (n : Nat) (xs : List Value) (hs : a.eval s = v) (hv : App w base e size v n xs)
    (xv : Value) (m : Nat) (news : List Value) (hxe : a.eval x = xv) (hx : Src w size xv m news) (h1 : ∀ u ∈ news, u.oneCell' = true)
    (h63 : n + m ≤ maxLen) (hbytes : (n + m) * bytes ≤ 140737488355328) (hbase : base ≤ w.heap.size)
    (h : ∀ v' w', App w' base e size v' (n + m) (xs ++ news) → w.grownBy w' v.ownBlock → Below base w w' →
      ((0 < m ∨ w.ownsRow base e size v n xs) → w'.ownsRow base e size v' (n + m) (xs ++ news)) → K (a.put o.dst v') w') : o.wp P a w K Q := by
  obtain ⟨v', w', hr, h2, h3, hb, h4⟩ := run_append_app (P := P) w T o.type base v n xs hv xv m news hx h1 h63 hbytes hbase
  unfold Oper.wp execOp
  simp only [ho, resolve, invoke, builtin, Sem.run_bind, Sem.run_pure, Result.andThen_ok, List.map_toArray, List.map_cons, List.map_nil, hs, hxe, hr]
  exact h v' w' h2 h3 hb h4

theorem step_is_bi {P : Program} {w : World} {ops : Array Oper} {o : Oper} {a : Act} {K : Act → World → Prop} {Q : Exit → Act → World → Prop} {E : Prop} (b : Builtin) (args : Array Operand) (ats : Array TypeId)
    (ho : o.op = .call { callee := .builtin b, args := args, argTypes := ats }) (h : if Region.wanted o (yielded ops a.tmps) = true then Oper.wp P o a w K Q else E) : if Region.wanted o (yielded ops a.tmps) = true then Oper.wp P o a w K Q else E := h
theorem step_append_app {P : Program} {w : World} {ops : Array Oper} {o : Oper} {a : Act} {K : Act → World → Prop} {Q : Exit → Act → World → Prop} {E : Prop} (hgd : o.guard = none) (s x : Operand) {t e size bytes : Nat}
    (ho : o.op = .call { callee := .builtin .append, args := #[s, x], argTypes := #[t, t] }) (T : ElemT P t e size bytes)
    (base : Nat) (v : Value) (n : Nat) (xs : List Value) (hs : a.eval s = v) (hv : App w base e size v n xs)
    (xv : Value) (m : Nat) (news : List Value) (hxe : a.eval x = xv) (hx : Src w size xv m news) (h1 : ∀ u ∈ news, u.oneCell' = true)
    (h63 : n + m ≤ maxLen) (hbytes : (n + m) * bytes ≤ 140737488355328) (hbase : base ≤ w.heap.size)
    (h : ∀ v' w', App w' base e size v' (n + m) (xs ++ news) → w.grownBy w' v.ownBlock → Below base w w' →
      ((0 < m ∨ w.ownsRow base e size v n xs) → w'.ownsRow base e size v' (n + m) (xs ++ news)) → K (a.put o.dst v') w') :
    if Region.wanted o (yielded ops a.tmps) = true then Oper.wp P o a w K Q else E := by
  have hw : Region.wanted o (yielded ops a.tmps) = true := by simp [Region.wanted, hgd]
  rw [if_pos hw]
  obtain ⟨v', w', hr, h2, h3, hb, h4⟩ := run_append_app (P := P) w T o.type base v n xs hv xv m news hx h1 h63 hbytes hbase
  unfold Oper.wp execOp
  simp only [ho, resolve, invoke, builtin, Sem.run_bind, Sem.run_pure, Result.andThen_ok, List.map_toArray, List.map_cons, List.map_nil, hs, hxe, hr]
  exact h v' w' h2 h3 hb h4

/-- append of nothing to a full slice: the slice itself -/
theorem wpList_append_zero {P : Program} (w : World) {ops : Array Oper} {rest : List Oper} {o : Oper} {a : Act} {Q : Exit → Act → World → Prop} (hgd : o.guard = none) (s x : Operand) {t e size bytes : Nat}
    (ho : o.op = .call { callee := .builtin .append, args := #[s, x], argTypes := #[t, t] }) (T : ElemT P t e size bytes)
    (ao ax : Option Addr) (n c : Nat) (hs : a.eval s = .slice ao n n) (hxe : a.eval x = .slice ax 0 c)
    (h63 : n ≤ maxLen) (h : wpList P ops Q rest (a.put o.dst (.slice ao n n)) w) : wpList P ops Q (o :: rest) a w := by
  obtain ⟨ht, ⟨i, z, hi, hz, rfl, rfl, hzs⟩, hpos⟩ := T
  refine wpList_plain hgd fun K hK => ?_
  have hr : (Builtin.append_ #[t, t] o.type #[.slice ao n n, .slice ax 0 c]).run P w = .ok (.slice ao n n) w := by
    cases ao <;> cases ax <;> simp [Builtin.append_, run_underlying ht, sizeOf, typeInfo, hi, Builtin.lenOf, Builtin.firstCells, loadCells, loadCellsFrom, storeCells]
  unfold Oper.wp execOp
  simp only [ho, resolve, invoke, builtin, Sem.run_bind, Sem.run_pure, Result.andThen_ok, List.map_toArray, List.map_cons, List.map_nil, hs, hxe, hr]
  exact hK _ _ h

theorem Src.of_cells {w : World} {b off n size c : Nat} {xs : List Value} (h : Cells w b off xs) (hl : xs.length = n * size) (hc : n ≤ c) : Src w size (.slice (some ⟨b, off, none⟩) n c) n xs :=
  ⟨hl, _, c, rfl, hc, by simp, fun b' hb' j u hu => by cases hb'; exact h.add j u hu⟩
theorem Src.nil {w : World} {size : Nat} : Src w size (.slice none 0 0) 0 [] := ⟨by simp, none, 0, rfl, Nat.le_refl _, by simp, by simp⟩
theorem Src.of_app {w : World} {base e size n : Nat} {v : Value} {xs : List Value} (h : App w base e size v n xs) : Src w size v n xs := by
  rcases h with h | ⟨hl, ao, rfl, h0, hc⟩
  · refine ⟨h.1, ?_⟩
    rcases owns_form h with ⟨rfl, rfl, rfl⟩ | ⟨g, cap, rfl, _, _, hn, hc⟩
    · exact ⟨none, 0, rfl, Nat.le_refl _, by simp, by simp⟩
    · exact ⟨_, cap, rfl, hn, by simp, fun b' hb' j u hu => by cases hb'; exact hc.add j u hu⟩
  · exact ⟨hl, ao, n, rfl, Nat.le_refl _, fun h => ⟨h0 h, h0 h⟩, hc⟩
theorem Src.kept {a b : World} {size : Nat} {x : Value} {m : Nat} {news : List Value} (h : Src a size x m news) (hk : Kept a b) : Src b size x m news := by
  obtain ⟨hl, ax, c, rfl, hmc, hn, hc⟩ := h
  exact ⟨hl, ax, c, rfl, hmc, hn, fun b hb j u hu => hk.cell' (hc b hb j u hu)⟩
theorem Src.cells {w : World} {size b off n c : Nat} {xs : List Value} (h : Src w size (.slice (some ⟨b, off, none⟩) n c) n xs) : Cells w b off xs := by
  obtain ⟨hl, ax, c', hv, _, hn, hc⟩ := h
  cases hv
  intro j hj
  have := hc _ rfl j xs[j] (List.getElem?_eq_getElem hj)
  unfold Addr.add at this
  split at this
  · rename_i h0; subst h0; simpa using this
  · exact this
theorem Src.one {w : World} {v : Value} {e : Nat} : Src (w.alloc (.cells #[v] e)) 1 (.slice (some ⟨w.heap.size, 0, none⟩) 1 1) 1 [v] :=
  Src.of_cells (fun j hj => by simp at hj; subst hj; simp) (by simp) (Nat.le_refl _)
/-- A row made by 'E{..}': owned. -/
theorem App.kept {a b : World} {base e size n : Nat} {v : Value} {xs : List Value} (h : App a base e size v n xs) (hk : Kept a b) : App b base e size v n xs := by
  rcases h with h | ⟨hl, ao, rfl, h0, hc⟩
  · refine .inl ⟨h.1, ?_⟩
    rcases h.2 with h2 | ⟨g, cap, cur, hv, hg, hh, r⟩
    · exact .inl h2
    · exact .inr ⟨g, cap, cur, hv, hg, hk.block hh, r⟩
  · exact .inr ⟨hl, ao, rfl, h0, fun b hb j u hu => hk.cell' (hc b hb j u hu)⟩
theorem ownsRow_kept {a b : World} {base e size n : Nat} {v : Value} {xs : List Value} (h : a.ownsRow base e size v n xs) (hk : Kept a b) : b.ownsRow base e size v n xs := by
  refine ⟨h.1, ?_⟩
  rcases h.2 with h2 | ⟨g, cap, cur, hv, hg, hh, r⟩
  · exact .inl h2
  · exact .inr ⟨g, cap, cur, hv, hg, hk.block hh, r⟩
theorem Kept.below {a b c : World} {base : Nat} (h : Kept a b) (hb : a.heap.size ≤ base) (hg : Below base b c) : Kept a c := Below.trans h (hg.mono hb)

theorem App.full {w : World} {base e size n c : Nat} {x : Option Addr} {xs : List Value} (h : Src w size (.slice x n c) n xs) : App w base e size (.slice x n n) n xs := by
  obtain ⟨hl, ax, c', hv, _, hn, hc⟩ := h
  cases hv
  exact .inr ⟨hl, x, rfl, fun h => (hn h).1, hc⟩
theorem App.empty (w : World) (base e size : Nat) : App w base e size (.slice none 0 0) 0 [] := .inl (World.ownsRow_nil w base e size)

end Go.Proofs.Ytglplhmclfekfaa
