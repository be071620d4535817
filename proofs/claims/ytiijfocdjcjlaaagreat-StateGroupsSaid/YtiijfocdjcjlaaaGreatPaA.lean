/- PaA: several texts in one: Base App Row Sta Fni Grw Fag Map Frame Cln Agg Clr Stb Stp Far Fax Text Rule. -/
import Derived.Test.YtiijfocdjcjlaaaGreatProg
import Derived.WalkKit
import Derived.WalkLawsBesides
import Derived.WalkSpells
import Derived.Outline
import Derived.Lib.Hide
import Derived.BigQuiet
import Derived.Deep.QuietTactic
import Derived.Deep.AppendLies
import Derived.Maps.Own
import Derived.Maps.OwnOps
import Derived.Deep.MidRow
import Derived.Laws.StructEq
import Derived.Laws.CopyOwn
import Derived.Deep.CutBlock
import Derived.Deep.DeepCutAuto
import Derived.OrdersHeld
import Derived.StillTailTactics
/- General lemmas on memory and endings; no function of the program. -/
namespace Go.Proofs.YtiijfocdjcjlaaaGreat
open Go.RowKit
set_option linter.unusedVariables false

theorem ret_eq {v v' : Value} (h : v = v') : Ending.returned v = Ending.returned v' := by rw [h]
theorem ret_int {k : IntKind} {a b : Int} (h : a = b) : Ending.returned (.int k a) = .returned (.int k b) := by rw [h]
theorem ret_bool {a b : Bool} (h : a = b) : Ending.returned (.bool a) = .returned (.bool b) := by rw [h]

/-- Nothing that was there has turned. -/
def Kept (w w' : World) : Prop := Below w.heap.size w w'
theorem Kept.refl (w : World) : Kept w w := Below.refl _ _
theorem Kept.trans {a b c : World} (h : Kept a b) (k : Kept b c) : Kept a c := Below.trans h (Below.mono k (Below.size h))
theorem Kept.alloc {a b : World} (h : Kept a b) (o : Obj) : Kept a (b.alloc o) := Below.alloc h (Below.size h) o
theorem Kept.drew {a b : World} (h : Kept a b) : Kept a b.drew := Below.drew h
theorem Kept.drewN {a b : World} (h : Kept a b) (n : Nat) : Kept a (b.drewN n) := below_drewN h n
theorem Kept.setCell {a b : World} (h : Kept a b) {p : Addr} (hp : a.heap.size ≤ p.block) (u : Value) : Kept a (b.setCell p u) := Below.setCell h hp u
theorem Kept.grown {a b c : World} {row : Option Nat} (h : Kept a b) (hg : b.grownBy c row) (hr : ∀ k, row = some k → a.heap.size ≤ k) : Kept a c := Below.grown h hg (Below.size h) hr
theorem Kept.size {a b : World} (h : Kept a b) : a.heap.size ≤ b.heap.size := Below.size h
theorem Kept.cell {a b : World} (h : Kept a b) {p : Addr} (hp : p.block < a.heap.size) : b.cell? p = a.cell? p := Below.cell h hp
theorem Kept.cell' {a b : World} (h : Kept a b) {p : Addr} {v : Value} (hc : a.cell? p = some v) : b.cell? p = some v := (h.cell (World.block_lt_of_cell? _ _ hc)).trans hc
theorem Kept.block {a b : World} (h : Kept a b) {k : Nat} {o : Obj} (hc : a.heap[k]? = some o) : b.heap[k]? = some o := (Below.block h k (Array.getElem?_eq_some_iff.1 hc).1).trans hc
theorem Kept.block_eq {a b : World} (h : Kept a b) {k : Nat} (hk : k < a.heap.size) : b.heap[k]? = a.heap[k]? := Below.block h k hk
theorem Kept.q {a b : World} (h : Kept a b) : ∀ k o, k < a.heap.size → b.cell? ⟨k, o, none⟩ = a.cell? ⟨k, o, none⟩ := fun _ _ hk => h.cell hk
theorem Kept.qf {a b : World} (h : Kept a b) : ∀ k o, k < a.heap.size → b.frozen? ⟨k, o, none⟩ = a.frozen? ⟨k, o, none⟩ := fun _ _ hk => Below.frozen h hk
theorem Kept.frozen {a b : World} (h : Kept a b) {p : Addr} (hp : p.block < a.heap.size) : b.frozen? p = a.frozen? p := Below.frozen h hp

/-- The cells from ⟨b, off⟩ on read xs. -/
def Cells (w : World) (b off : Nat) (xs : List Value) : Prop := ∀ j (h : j < xs.length), w.cell? ⟨b, off + j, none⟩ = some xs[j]
theorem Cells.kept {a b : World} {k off : Nat} {xs : List Value} (h : Cells a k off xs) (hk : Kept a b) : Cells b k off xs := fun j hj => hk.cell' (h j hj)
theorem Cells.at {w : World} {b off : Nat} {xs : List Value} (h : Cells w b off xs) (j : Nat) (hj : j < xs.length) : w.cell? ⟨b, off + j, none⟩ = some xs[j] := h j hj
theorem Cells.getD {w : World} {b off : Nat} {xs : List Value} (h : Cells w b off xs) (j : Nat) (hj : j < xs.length) : w.cell? ⟨b, off + j, none⟩ = some (xs.getD j undef) := by
  rw [h j hj, List.getD_eq_getElem?_getD, List.getElem?_eq_getElem hj]; rfl
theorem Cells.add {w : World} {b off : Nat} {xs : List Value} (h : Cells w b off xs) : ∀ j u, xs[j]? = some u → w.cell? ((⟨b, off, none⟩ : Addr).add j) = some u := by
  intro j u hu
  obtain ⟨hj, rfl⟩ := List.getElem?_eq_some_iff.1 hu
  have := h j hj
  unfold Addr.add
  split
  · rename_i h0; subst h0; simpa using this
  · exact this
theorem Cells.lt {w : World} {b off : Nat} {xs : List Value} (h : Cells w b off xs) (h0 : xs ≠ []) : b < w.heap.size := by
  have := h 0 (List.length_pos_iff.2 h0)
  exact World.block_lt_of_cell? _ _ this
theorem Cells.of_block {w : World} {b : Nat} {cs : Array Value} {t : TypeId} {fr : Nat × Nat} (hb : w.heap[b]? = some (.cells cs t fr)) : Cells w b 0 cs.toList := by
  intro j hj
  simp [World.cell?, hb] at hj ⊢
theorem Cells.new {w : World} {c : Array Value} {t : TypeId} {fr : Nat × Nat} {n : Nat} (hn : n = w.heap.size) {xs : List Value} (hx : xs = c.toList) : Cells (w.alloc (.cells c t fr)) n 0 xs := by
  subst hn hx; exact Cells.of_block (heap_alloc_new w _)
theorem Cells.of_owns {w : World} {base e size g cap n : Nat} {xs : List Value} (h : w.ownsRow base e size (.slice (some ⟨g, 0, none⟩) n cap) n xs) : Cells w g 0 xs := by
  intro j hj
  have := h.cells (g := g) rfl j xs[j] (List.getElem?_eq_getElem hj)
  unfold Addr.add at this
  split at this
  · rename_i h0; subst h0; simpa using this
  · simpa using this
/-- What a slice of one's own is made of. -/
theorem owns_form {w : World} {base e size n : Nat} {v : Value} {xs : List Value} (h : w.ownsRow base e size v n xs) :
    (v = .slice none 0 0 ∧ n = 0 ∧ xs = []) ∨ ∃ g cap, v = .slice (some ⟨g, 0, none⟩) n cap ∧ base ≤ g ∧ g < w.heap.size ∧ n ≤ cap ∧ Cells w g 0 xs := by
  rcases h.2 with ⟨rfl, rfl⟩ | ⟨g, cap, cur, rfl, hb, hg, hn, _⟩
  · exact .inl ⟨rfl, rfl, List.eq_nil_of_length_eq_zero (by simpa using h.1)⟩
  · exact .inr ⟨g, cap, rfl, hb, (Array.getElem?_eq_some_iff.1 hg).1, hn, Cells.of_owns h⟩

theorem flatMap_at {α β : Type} (f : List α) (g : α → List β) (s : Nat) (hg : ∀ x ∈ f, (g x).length = s) (k j : Nat) (hk : k < f.length) (hj : j < s) : (f.flatMap g)[k * s + j]? = (g f[k])[j]? := by
  induction f generalizing k with
  | nil => simp at hk
  | cons x f ih =>
    have hx := hg x (by simp)
    cases k with
    | zero =>
      rw [List.flatMap_cons, List.getElem?_append_left (by omega)]
      simp
    | succ k =>
      rw [List.flatMap_cons, List.getElem?_append_right (by rw [hx, Nat.succ_mul]; omega)]
      have e : (k + 1) * s + j - (g x).length = k * s + j := by rw [hx, Nat.succ_mul]; omega
      rw [e]
      simpa using ih (fun y hy => hg y (by simp [hy])) k (by simpa using hk)
theorem Cells.flat {w : World} {b off : Nat} {α : Type} {f : List α} {g : α → List Value} (h : Cells w b off (f.flatMap g)) (s : Nat) (hg : ∀ x ∈ f, (g x).length = s) (k j : Nat) (hk : k < f.length) (v : Value) (hj : (g f[k])[j]? = some v) : w.cell? ⟨b, off + k * s + j, none⟩ = some v := by
  have hjs : j < s := by
    have := (List.getElem?_eq_some_iff.1 hj).1
    rw [hg _ (List.getElem_mem hk)] at this; exact this
  have e := flatMap_at f g s hg k j hk hjs
  rw [hj] at e
  obtain ⟨hl, hv⟩ := List.getElem?_eq_some_iff.1 e
  have := h _ hl
  rw [hv] at this
  simpa [Nat.add_assoc] using this

end Go.Proofs.YtiijfocdjcjlaaaGreat
/- One law for append onto a slice that is owned, or full. -/
namespace Go.Proofs.YtiijfocdjcjlaaaGreat
open Go.RowKit
set_option linter.unusedVariables false

/-- A slice type t over elements e of 'size' cells and 'bytes' bytes. -/
structure ElemT (P : Program) (t e size bytes : Nat) : Prop where
  ht : P.underlying t = some (.slice e)
  i : ∃ i z, P.info? e = some i ∧ i.zero = some z ∧ i.size = size ∧ i.bytes = bytes ∧ z.cells.size = size
  pos : 0 < size

/-- A slice value of n elements that may be appended to: owned from block 'base' on, or without room behind its length. -/
def App (w : World) (base e size : Nat) (v : Value) (n : Nat) (xs : List Value) : Prop :=
  w.ownsRow base e size v n xs ∨ (xs.length = n * size ∧ ∃ ao, v = .slice ao n n ∧ (ao = none → n = 0) ∧ ∀ b, ao = some b → ∀ j u, xs[j]? = some u → w.cell? (b.add j) = some u)

/-- A slice value of m elements that is read. -/
def Src (w : World) (size : Nat) (x : Value) (m : Nat) (news : List Value) : Prop :=
  news.length = m * size ∧ ∃ ax c, x = .slice ax m c ∧ m ≤ c ∧ (ax = none → m = 0 ∧ c = 0) ∧ ∀ b, ax = some b → ∀ j u, news[j]? = some u → w.cell? (b.add j) = some u

theorem grownBy_refl (w : World) (row : Option Nat) : w.grownBy w row := ⟨rfl, rfl, rfl, Nat.le_refl _, fun _ _ _ => rfl⟩
theorem grownBy_any {w w' : World} (h : w.grownBy w' none) (row : Option Nat) : w.grownBy w' row := ⟨h.os, h.tape, h.output, h.size, fun k hk _ => h.block k hk (by simp)⟩

theorem ownsRow_base {w : World} {base base' e size n : Nat} {v : Value} {xs : List Value} (h : w.ownsRow base e size v n xs) (hb : base' ≤ base) : w.ownsRow base' e size v n xs := by
  refine ⟨h.1, ?_⟩
  rcases h.2 with h2 | ⟨g, cap, cur, hv, hg, r⟩
  · exact .inl h2
  · exact .inr ⟨g, cap, cur, hv, by omega, r⟩

theorem run_append_app {P : Program} (w : World) {t e size bytes : Nat} (T : ElemT P t e size bytes) (ty : TypeId) (base : Nat) (v : Value) (n : Nat) (xs : List Value) (hv : App w base e size v n xs)
    (x : Value) (m : Nat) (news : List Value) (hx : Src w size x m news) (h1 : ∀ u ∈ news, u.oneCell' = true)
    (h63 : n + m ≤ maxLen) (hbytes : (n + m) * bytes ≤ 140737488355328) (hbase : base ≤ w.heap.size) :
    ∃ v' w', (Builtin.append_ #[t, t] ty #[v, x]).run P w = .ok v' w' ∧ App w' base e size v' (n + m) (xs ++ news) ∧ w.grownBy w' v.ownBlock ∧ Below base w w' ∧
      ((0 < m ∨ w.ownsRow base e size v n xs) → w'.ownsRow base e size v' (n + m) (xs ++ news)) := by
  obtain ⟨ht, ⟨i, z, hi, hz, rfl, rfl, hzs⟩, hpos⟩ := T
  obtain ⟨hnl, ax, c, rfl, _, hnone, hcells⟩ := hx
  rcases hv with hown | ⟨hxl, ao, rfl, ha0, hold⟩
  · cases ax with
    | none =>
      obtain ⟨rfl, rfl⟩ := hnone rfl
      have hn : news = [] := List.eq_nil_of_length_eq_zero (by simpa using hnl)
      subst hn
      have hr := run_append_owned_none (P := P) (w := w) base t ty e i i.size ht hi v n xs hown
      simp only [Nat.add_zero, List.append_nil]
      exact ⟨v, w, hr, .inl hown, grownBy_refl _ _, Below.refl _ _, fun _ => hown⟩
    | some b =>
      obtain ⟨v', w', hr, h2, h3, _⟩ := run_append_own (P := P) w base t ty e i z i.size i.bytes ht hi hz rfl rfl hzs hpos v n xs hown b m c news hnl (hcells b rfl) h1 h63 hbytes hbase
      exact ⟨v', w', hr, .inl h2, h3, (Below.refl base w).grown h3 hbase (fun k hk => (hown.lt k hk).1), fun _ => h2⟩
  · by_cases hm : m = 0
    · subst hm
      have hn : news = [] := List.eq_nil_of_length_eq_zero (by simpa using hnl)
      subst hn
      simp only [Nat.add_zero, List.append_nil]
      refine ⟨.slice ao n n, w, ?_, .inr ⟨hxl, ao, rfl, ha0, hold⟩, grownBy_refl _ _, Below.refl _ _, fun h => by simpa using h⟩
      cases ao <;> cases ax <;> simp [Builtin.append_, run_underlying ht, sizeOf, typeInfo, hi, Builtin.lenOf, Builtin.firstCells, loadCells, loadCellsFrom, storeCells]
    · cases ax with
      | none => exact absurd (hnone rfl).1 hm
      | some b =>
        cases ao with
        | none =>
          obtain rfl := ha0 rfl
          have hx0 : xs = [] := List.eq_nil_of_length_eq_zero (by simpa using hxl)
          subst hx0
          obtain ⟨v', w', hr, h2, h3, _⟩ := run_append_own (P := P) w base t ty e i z i.size i.bytes ht hi hz rfl rfl hzs hpos (.slice none 0 0) 0 [] (World.ownsRow_nil w _ e i.size) b m c news hnl (hcells b rfl) h1 h63 hbytes hbase
          exact ⟨v', w', hr, .inl h2, h3, (Below.refl base w).grown h3 hbase (fun k hk => by simp [Value.ownBlock] at hk), fun _ => h2⟩
        | some a =>
          obtain ⟨v', w', hr, h2, h3⟩ := run_append_arg_grows (P := P) w t ty e i z i.size i.bytes ht hi hz rfl rfl hzs hpos a n n xs hxl (hold a rfl) b m c news hnl (hcells b rfl) (by omega) h63 hbytes
          exact ⟨v', w', hr, .inl (ownsRow_base h2 hbase), grownBy_any h3 _, (Below.refl base w).grown h3 hbase (fun k hk => by simp at hk), fun _ => ownsRow_base h2 hbase⟩

theorem wpList_append_app {P : Program} (w : World) {ops : Array Oper} {rest : List Oper} {o : Oper} {a : Act} {Q : Exit → Act → World → Prop} (hgd : o.guard = none) (s x : Operand) {t e size bytes : Nat}
    (ho : o.op = .call { callee := .builtin .append, args := #[s, x], argTypes := #[t, t] }) (T : ElemT P t e size bytes)
    (base : Nat) (v : Value) (n : Nat) (xs : List Value) (hs : a.eval s = v) (hv : App w base e size v n xs)
    (xv : Value) (m : Nat) (news : List Value) (hxe : a.eval x = xv) (hx : Src w size xv m news) (h1 : ∀ u ∈ news, u.oneCell' = true)
    (h63 : n + m ≤ maxLen) (hbytes : (n + m) * bytes ≤ 140737488355328) (hbase : base ≤ w.heap.size)
    (h : ∀ v' w', App w' base e size v' (n + m) (xs ++ news) → w.grownBy w' v.ownBlock → Below base w w' →
      ((0 < m ∨ w.ownsRow base e size v n xs) → w'.ownsRow base e size v' (n + m) (xs ++ news)) → wpList P ops Q rest (a.put o.dst v') w') : wpList P ops Q (o :: rest) a w := by
  refine wpList_plain hgd fun K hK => ?_
  obtain ⟨v', w', hr, h2, h3, hb, h4⟩ := run_append_app (P := P) w T o.type base v n xs hv xv m news hx h1 h63 hbytes hbase
  unfold Oper.wp execOp
  simp only [ho, resolve, invoke, builtin, Sem.run_bind, Sem.run_pure, Result.andThen_ok, List.map_toArray, List.map_cons, List.map_nil, hs, hxe, hr]
  exact hK _ _ (h v' w' h2 h3 hb h4)

theorem wp_append_app {P : Program} {w : World} {o : Oper} {a : Act} {K : Act → World → Prop} {Q : Exit → Act → World → Prop} (s x : Operand) {t e size bytes : Nat}
    (ho : o.op = .call { callee := .builtin .append, args := #[s, x], argTypes := #[t, t] }) (T : ElemT P t e size bytes)
    (base : Nat) (v : Value) (n : Nat) (xs : List Value) (hs : a.eval s = v) (hv : App w base e size v n xs)
    (xv : Value) (m : Nat) (news : List Value) (hxe : a.eval x = xv) (hx : Src w size xv m news) (h1 : ∀ u ∈ news, u.oneCell' = true)
    (h63 : n + m ≤ maxLen) (hbytes : (n + m) * bytes ≤ 140737488355328) (hbase : base ≤ w.heap.size)
    (h : ∀ v' w', App w' base e size v' (n + m) (xs ++ news) → w.grownBy w' v.ownBlock → Below base w w' →
      ((0 < m ∨ w.ownsRow base e size v n xs) → w'.ownsRow base e size v' (n + m) (xs ++ news)) → K (a.put o.dst v') w') : o.wp P a w K Q := by
  obtain ⟨v', w', hr, h2, h3, hb, h4⟩ := run_append_app (P := P) w T o.type base v n xs hv xv m news hx h1 h63 hbytes hbase
  unfold Oper.wp execOp
  simp only [ho, resolve, invoke, builtin, Sem.run_bind, Sem.run_pure, Result.andThen_ok, List.map_toArray, List.map_cons, List.map_nil, hs, hxe, hr]
  exact h v' w' h2 h3 hb h4

theorem step_is_bi {P : Program} {w : World} {ops : Array Oper} {o : Oper} {a : Act} {K : Act → World → Prop} {Q : Exit → Act → World → Prop} {E : Prop} (b : Builtin) (args : Array Operand) (ats : Array TypeId)
    (ho : o.op = .call { callee := .builtin b, args := args, argTypes := ats }) (h : if Region.wanted o (yielded ops a.tmps) = true then Oper.wp P o a w K Q else E) : if Region.wanted o (yielded ops a.tmps) = true then Oper.wp P o a w K Q else E := h
theorem step_append_app {P : Program} {w : World} {ops : Array Oper} {o : Oper} {a : Act} {K : Act → World → Prop} {Q : Exit → Act → World → Prop} {E : Prop} (hgd : o.guard = none) (s x : Operand) {t e size bytes : Nat}
    (ho : o.op = .call { callee := .builtin .append, args := #[s, x], argTypes := #[t, t] }) (T : ElemT P t e size bytes)
    (base : Nat) (v : Value) (n : Nat) (xs : List Value) (hs : a.eval s = v) (hv : App w base e size v n xs)
    (xv : Value) (m : Nat) (news : List Value) (hxe : a.eval x = xv) (hx : Src w size xv m news) (h1 : ∀ u ∈ news, u.oneCell' = true)
    (h63 : n + m ≤ maxLen) (hbytes : (n + m) * bytes ≤ 140737488355328) (hbase : base ≤ w.heap.size)
    (h : ∀ v' w', App w' base e size v' (n + m) (xs ++ news) → w.grownBy w' v.ownBlock → Below base w w' →
      ((0 < m ∨ w.ownsRow base e size v n xs) → w'.ownsRow base e size v' (n + m) (xs ++ news)) → K (a.put o.dst v') w') :
    if Region.wanted o (yielded ops a.tmps) = true then Oper.wp P o a w K Q else E := by
  have hw : Region.wanted o (yielded ops a.tmps) = true := by simp [Region.wanted, hgd]
  rw [if_pos hw]
  obtain ⟨v', w', hr, h2, h3, hb, h4⟩ := run_append_app (P := P) w T o.type base v n xs hv xv m news hx h1 h63 hbytes hbase
  unfold Oper.wp execOp
  simp only [ho, resolve, invoke, builtin, Sem.run_bind, Sem.run_pure, Result.andThen_ok, List.map_toArray, List.map_cons, List.map_nil, hs, hxe, hr]
  exact h v' w' h2 h3 hb h4

/-- append of nothing to a full slice: the slice itself -/
theorem wpList_append_zero {P : Program} (w : World) {ops : Array Oper} {rest : List Oper} {o : Oper} {a : Act} {Q : Exit → Act → World → Prop} (hgd : o.guard = none) (s x : Operand) {t e size bytes : Nat}
    (ho : o.op = .call { callee := .builtin .append, args := #[s, x], argTypes := #[t, t] }) (T : ElemT P t e size bytes)
    (ao ax : Option Addr) (n c : Nat) (hs : a.eval s = .slice ao n n) (hxe : a.eval x = .slice ax 0 c)
    (h63 : n ≤ maxLen) (h : wpList P ops Q rest (a.put o.dst (.slice ao n n)) w) : wpList P ops Q (o :: rest) a w := by
  obtain ⟨ht, ⟨i, z, hi, hz, rfl, rfl, hzs⟩, hpos⟩ := T
  refine wpList_plain hgd fun K hK => ?_
  have hr : (Builtin.append_ #[t, t] o.type #[.slice ao n n, .slice ax 0 c]).run P w = .ok (.slice ao n n) w := by
    cases ao <;> cases ax <;> simp [Builtin.append_, run_underlying ht, sizeOf, typeInfo, hi, Builtin.lenOf, Builtin.firstCells, loadCells, loadCellsFrom, storeCells]
  unfold Oper.wp execOp
  simp only [ho, resolve, invoke, builtin, Sem.run_bind, Sem.run_pure, Result.andThen_ok, List.map_toArray, List.map_cons, List.map_nil, hs, hxe, hr]
  exact hK _ _ h

theorem Src.of_cells {w : World} {b off n size c : Nat} {xs : List Value} (h : Cells w b off xs) (hl : xs.length = n * size) (hc : n ≤ c) : Src w size (.slice (some ⟨b, off, none⟩) n c) n xs :=
  ⟨hl, _, c, rfl, hc, by simp, fun b' hb' j u hu => by cases hb'; exact h.add j u hu⟩
theorem Src.nil {w : World} {size : Nat} : Src w size (.slice none 0 0) 0 [] := ⟨by simp, none, 0, rfl, Nat.le_refl _, by simp, by simp⟩
theorem Src.of_app {w : World} {base e size n : Nat} {v : Value} {xs : List Value} (h : App w base e size v n xs) : Src w size v n xs := by
  rcases h with h | ⟨hl, ao, rfl, h0, hc⟩
  · refine ⟨h.1, ?_⟩
    rcases owns_form h with ⟨rfl, rfl, rfl⟩ | ⟨g, cap, rfl, _, _, hn, hc⟩
    · exact ⟨none, 0, rfl, Nat.le_refl _, by simp, by simp⟩
    · exact ⟨_, cap, rfl, hn, by simp, fun b' hb' j u hu => by cases hb'; exact hc.add j u hu⟩
  · exact ⟨hl, ao, n, rfl, Nat.le_refl _, fun h => ⟨h0 h, h0 h⟩, hc⟩
theorem Src.kept {a b : World} {size : Nat} {x : Value} {m : Nat} {news : List Value} (h : Src a size x m news) (hk : Kept a b) : Src b size x m news := by
  obtain ⟨hl, ax, c, rfl, hmc, hn, hc⟩ := h
  exact ⟨hl, ax, c, rfl, hmc, hn, fun b hb j u hu => hk.cell' (hc b hb j u hu)⟩
theorem Src.cells {w : World} {size b off n c : Nat} {xs : List Value} (h : Src w size (.slice (some ⟨b, off, none⟩) n c) n xs) : Cells w b off xs := by
  obtain ⟨hl, ax, c', hv, _, hn, hc⟩ := h
  cases hv
  intro j hj
  have := hc _ rfl j xs[j] (List.getElem?_eq_getElem hj)
  unfold Addr.add at this
  split at this
  · rename_i h0; subst h0; simpa using this
  · exact this
theorem Src.one {w : World} {v : Value} {e : Nat} : Src (w.alloc (.cells #[v] e)) 1 (.slice (some ⟨w.heap.size, 0, none⟩) 1 1) 1 [v] :=
  Src.of_cells (fun j hj => by simp at hj; subst hj; simp) (by simp) (Nat.le_refl _)
/-- A row made by 'E{..}': owned. -/
theorem App.kept {a b : World} {base e size n : Nat} {v : Value} {xs : List Value} (h : App a base e size v n xs) (hk : Kept a b) : App b base e size v n xs := by
  rcases h with h | ⟨hl, ao, rfl, h0, hc⟩
  · refine .inl ⟨h.1, ?_⟩
    rcases h.2 with h2 | ⟨g, cap, cur, hv, hg, hh, r⟩
    · exact .inl h2
    · exact .inr ⟨g, cap, cur, hv, hg, hk.block hh, r⟩
  · exact .inr ⟨hl, ao, rfl, h0, fun b hb j u hu => hk.cell' (hc b hb j u hu)⟩
theorem ownsRow_kept {a b : World} {base e size n : Nat} {v : Value} {xs : List Value} (h : a.ownsRow base e size v n xs) (hk : Kept a b) : b.ownsRow base e size v n xs := by
  refine ⟨h.1, ?_⟩
  rcases h.2 with h2 | ⟨g, cap, cur, hv, hg, hh, r⟩
  · exact .inl h2
  · exact .inr ⟨g, cap, cur, hv, hg, hk.block hh, r⟩
theorem Kept.below {a b c : World} {base : Nat} (h : Kept a b) (hb : a.heap.size ≤ base) (hg : Below base b c) : Kept a c := Below.trans h (hg.mono hb)

theorem App.full {w : World} {base e size n c : Nat} {x : Option Addr} {xs : List Value} (h : Src w size (.slice x n c) n xs) : App w base e size (.slice x n n) n xs := by
  obtain ⟨hl, ax, c', hv, _, hn, hc⟩ := h
  cases hv
  exact .inr ⟨hl, x, rfl, fun h => (hn h).1, hc⟩
theorem App.empty (w : World) (base e size : Nat) : App w base e size (.slice none 0 0) 0 [] := .inl (World.ownsRow_nil w base e size)

end Go.Proofs.YtiijfocdjcjlaaaGreat
/- Slices of records of one size. -/
namespace Go.Proofs.YtiijfocdjcjlaaaGreat
open Go.RowKit
set_option linter.unusedVariables false
set_option linter.unusedSimpArgs false

section
variable {α : Type} {enc : α → List Value} {n : Nat} {W W' : World} {v : Value} {l : List α}
/-- the slice v reads l: records of n cells, printed by enc, one behind the other -/
def RSl (enc : α → List Value) (n : Nat) (W : World) (v : Value) (l : List α) : Prop :=
  ∃ oa cap, v = .slice oa l.length cap ∧ l.length ≤ cap ∧ ∀ k (hk : k < l.length), ∃ b off, oa = some ⟨b, off, none⟩ ∧ b < W.heap.size ∧ Cells W b (off + k * n) (enc l[k])
theorem RSl.kept (h : RSl enc n W v l) (hk : Kept W W') : RSl enc n W' v l := by
  obtain ⟨oa, cap, e, hc, hh⟩ := h
  refine ⟨oa, cap, e, hc, fun k hl => ?_⟩
  obtain ⟨b, off, e2, hb, hcs⟩ := hh k hl
  exact ⟨b, off, e2, Nat.lt_of_lt_of_le hb hk.size, Cells.kept hcs hk⟩
theorem RSl.nil : RSl enc n W (.slice none 0 0) [] := ⟨none, 0, rfl, Nat.le_refl _, fun k hk => by cases hk⟩
theorem RSl.form (h : RSl enc n W v l) : ∃ oa cap, v = .slice oa l.length cap ∧ l.length ≤ cap := by
  obtain ⟨oa, cap, e, hc, _⟩ := h; exact ⟨oa, cap, e, hc⟩
theorem RSl.at {oa : Option Addr} {m cap : Nat} (h : RSl enc n W (.slice oa m cap) l) {k : Nat} (hk : k < l.length) : ∃ b off, oa = some ⟨b, off, none⟩ ∧ b < W.heap.size ∧ Cells W b (off + k * n) (enc l[k]) := by
  obtain ⟨oa', cap', e, _, hh⟩ := h
  cases e
  exact hh k hk
theorem RSl.take {oa : Option Addr} {m cap : Nat} (h : RSl enc n W (.slice oa m cap) l) {k : Nat} (hk : k ≤ l.length) : RSl enc n W (.slice oa k cap) (l.take k) := by
  obtain ⟨oa', cap', e, hc, hh⟩ := h
  cases e
  have hl : (l.take k).length = k := by rw [List.length_take]; omega
  refine ⟨oa, cap, by rw [hl], by omega, fun j hj => ?_⟩
  obtain ⟨b, off, e2, hb, hcs⟩ := hh j (by omega)
  exact ⟨b, off, e2, hb, by rw [List.getElem_take]; exact hcs⟩
theorem flat_at (henc : ∀ x, (enc x).length = n) : ∀ (l : List α) (k : Nat) (hk : k < l.length) (j : Nat), j < n → (l.flatMap enc)[k * n + j]? = (enc l[k])[j]?
  | [], k, hk, j, hj => by cases hk
  | x :: l, 0, hk, j, hj => by
    rw [List.flatMap_cons, Nat.zero_mul, Nat.zero_add, List.getElem?_append_left (by rw [henc]; exact hj)]; rfl
  | x :: l, k + 1, hk, j, hj => by
    have e : (k + 1) * n + j = n + (k * n + j) := by rw [Nat.add_mul]; omega
    rw [List.flatMap_cons, e, List.getElem?_append_right (by rw [henc]; omega), henc, show n + (k * n + j) - n = k * n + j by omega]
    exact flat_at henc l k (by simpa using hk) j hj
theorem flat_len (henc : ∀ x, (enc x).length = n) : ∀ l : List α, (l.flatMap enc).length = l.length * n
  | [] => by simp
  | x :: l => by rw [List.flatMap_cons, List.length_append, henc, flat_len henc l, List.length_cons, Nat.add_mul]; omega
theorem RSl.of_cells (henc : ∀ x, (enc x).length = n) {b off cap : Nat} (hb : b < W.heap.size) (hc : l.length ≤ cap) (h : Cells W b off (l.flatMap enc)) : RSl enc n W (.slice (some ⟨b, off, none⟩) l.length cap) l := by
  refine ⟨_, cap, rfl, hc, fun k hk => ⟨b, off, rfl, hb, fun j hj => ?_⟩⟩
  have hj2 : j < n := by rw [← henc l[k]]; exact hj
  have h1 := flat_at henc l k hk j hj2
  have hlt : k * n + j < (l.flatMap enc).length := by
    rw [List.getElem?_eq_getElem hj] at h1
    exact (List.getElem?_eq_some_iff.1 h1).1
  have h2 := h (k * n + j) hlt
  rw [show off + k * n + j = off + (k * n + j) by omega, h2]
  rw [List.getElem?_eq_getElem hlt, List.getElem?_eq_getElem hj] at h1
  exact h1
theorem RSl.of_owns (henc : ∀ x, (enc x).length = n) {base e m : Nat} (hm : m = l.length) (h : W.ownsRow base e n v m (l.flatMap enc)) : RSl enc n W v l := by
  subst hm
  rcases h.2 with ⟨rfl, h0⟩ | ⟨g, cap, cur, rfl, hb, hh, hc, hx⟩
  · have : l = [] := List.eq_nil_of_length_eq_zero h0
    subst this
    exact RSl.nil
  · refine RSl.of_cells henc (Array.getElem?_eq_some_iff.1 hh).1 hc ?_
    rcases owns_form h with ⟨e, _⟩ | ⟨g', cap', e, _, _, _, hcs⟩
    · cases e
    · cases e; exact hcs
end
end Go.Proofs.YtiijfocdjcjlaaaGreat
/- State in plain Lean: what is right; what is asked of all of a list; places. -/
namespace Go.Proofs.YtiijfocdjcjlaaaGreat
open Go.RowKit
set_option linter.unusedVariables false
set_option linter.unusedSimpArgs false

def inN (n a b : Int) : Bool := decide (a ≤ n) && decide (n ≤ b)
/-- a member: its number, sectors, state -/
abbrev Mb := Int × Int × Int
/-- an extent: its member, the first sector -/
abbrev Ex := Int × Int
/-- a place: tier, group, slot -/
abbrev Wh := Int × Int × Int
structure Grp where
  id : Int
  kind : Int
  ext : List Ex
structure Plg where
  is : Bool
  group : Int
  slot : Int
  data : List Int
  par : List Int
structure St where
  blocks : Int
  ms : List Mb
  gs : List Grp
  mp : List Wh
  dirty : List Int
  plug : Plg
def trip (x : Int × Int × Int) : List Value := [.int .i64 x.1, .int .i64 x.2.1, .int .i64 x.2.2]
def pairV (x : Int × Int) : List Value := [.int .i64 x.1, .int .i64 x.2]
def oneV (x : Int) : List Value := [.int .i64 x]
theorem trip_len (x : Int × Int × Int) : (trip x).length = 3 := rfl
theorem pairV_len (x : Int × Int) : (pairV x).length = 2 := rfl
theorem oneV_len (x : Int) : (oneV x).length = 1 := rfl

/-- the first of which p is so, or -1 -/
def idxP {α : Type} (p : α → Bool) (l : List α) : Int := match l.findIdx? p with | some k => k | none => -1
theorem idxP_hit {α : Type} {p : α → Bool} {l : List α} {k : Nat} (hk : k < l.length) (hno : ∀ i (h : i < l.length), i < k → p l[i] = false) (h : p l[k] = true) : idxP p l = k := by
  have : l.findIdx? p = some k := by
    rw [List.findIdx?_eq_some_iff_getElem]
    exact ⟨hk, h, fun j hj => by simpa using hno j (by omega) hj⟩
  simp [idxP, this]
theorem idxP_miss {α : Type} {p : α → Bool} {l : List α} (hno : ∀ i (h : i < l.length), p l[i] = false) : idxP p l = -1 := by
  have : l.findIdx? p = none := by
    rw [List.findIdx?_eq_none_iff]
    intro x hx
    obtain ⟨i, hi, rfl⟩ := List.getElem_of_mem hx
    exact hno i hi
  simp [idxP, this]
theorem idxP_any {α : Type} (p : α → Bool) (l : List α) : decide (0 ≤ idxP p l) = l.any p := by
  unfold idxP
  cases h : l.findIdx? p with
  | none => rw [List.findIdx?_eq_none_iff] at h; simpa using h
  | some k =>
    rw [List.findIdx?_eq_some_iff_getElem] at h
    obtain ⟨hk, hp, _⟩ := h
    simp only [Int.natCast_nonneg, decide_true]
    symm; rw [List.any_eq_true]; exact ⟨_, List.getElem_mem hk, hp⟩
theorem idxP_cases {α : Type} (p : α → Bool) (l : List α) : (idxP p l = -1 ∧ ∀ x ∈ l, p x = false) ∨ ∃ k, ∃ hk : k < l.length, idxP p l = (k : Int) ∧ p l[k] = true ∧ l.find? p = some l[k] := by
  unfold idxP
  cases h : l.findIdx? p with
  | none => left; rw [List.findIdx?_eq_none_iff] at h; exact ⟨rfl, fun x hx => by simpa using h x hx⟩
  | some k =>
    right
    rw [List.findIdx?_eq_some_iff_getElem] at h
    obtain ⟨hk, hp, hb⟩ := h
    refine ⟨k, hk, rfl, hp, ?_⟩
    rw [List.find?_eq_some_iff_getElem]
    exact ⟨hp, k, hk, rfl, fun i hi => by simpa using hb i hi⟩
theorem any_not {α : Type} (p : α → Bool) (l : List α) : (!(l.any fun x => !p x)) = l.all p := by
  induction l with
  | nil => rfl
  | cons x l ih => simp only [List.any_cons, List.all_cons, ← ih]; cases p x <;> simp

/-- numbers that do not fall -/
def sortedB : List Int → Bool
  | a :: b :: l => decide (a ≤ b) && sortedB (b :: l)
  | _ => true
/-- numbers of which no two neighbours are the same -/
def apartB : List Int → Bool
  | a :: b :: l => (a != b) && apartB (b :: l)
  | _ => true
def risesB (l : List Int) : Bool := sortedB l && apartB l
theorem sortedB_iff : ∀ l : List Int, sortedB l = true ↔ ∀ k (h : k + 1 < l.length), l[k] ≤ l[k + 1]
  | [] => by simp [sortedB]
  | [a] => by simp [sortedB]
  | a :: b :: l => by
    rw [sortedB, Bool.and_eq_true, decide_eq_true_eq, sortedB_iff (b :: l)]
    constructor
    · rintro ⟨h1, h2⟩ k h
      rcases k with _ | k
      · exact h1
      · exact h2 k (by simpa using h)
    · intro h
      exact ⟨h 0 (by simp), fun k hk => h (k + 1) (by simpa using hk)⟩
theorem apartB_iff : ∀ l : List Int, apartB l = true ↔ ∀ k (h : k + 1 < l.length), l[k] ≠ l[k + 1]
  | [] => by simp [apartB]
  | [a] => by simp [apartB]
  | a :: b :: l => by
    rw [apartB, Bool.and_eq_true, bne_iff_ne, apartB_iff (b :: l)]
    constructor
    · rintro ⟨h1, h2⟩ k h
      rcases k with _ | k
      · exact h1
      · exact h2 k (by simpa using h)
    · intro h
      exact ⟨h 0 (by simp), fun k hk => h (k + 1) (by simpa using hk)⟩
theorem risesB_iff (l : List Int) : risesB l = true ↔ l.Pairwise (· < ·) := by
  rw [risesB, Bool.and_eq_true, sortedB_iff, apartB_iff]
  constructor
  · rintro ⟨h1, h2⟩
    rw [List.pairwise_iff_getElem]
    have key : ∀ d i (hi : i < l.length) (hj : i + d + 1 < l.length), l[i] < l[i + d + 1] := by
      intro d
      induction d with
      | zero => intro i hi hj; have a := h1 i hj; have b := h2 i hj; show l[i] < l[i + 1]; omega
      | succ d ih =>
        intro i hi hj
        have a := ih i hi (by omega)
        have b := h1 (i + d + 1) (by omega)
        show l[i] < l[i + d + 1 + 1]
        omega
    intro i j hi hj hij
    have := key (j - i - 1) i hi (by omega)
    have e : i + (j - i - 1) + 1 = j := by omega
    simpa [e] using this
  · intro h
    rw [List.pairwise_iff_getElem] at h
    exact ⟨fun k hk => by have := h k (k + 1) (by omega) hk (by omega); omega, fun k hk => by have := h k (k + 1) (by omega) hk (by omega); omega⟩

def mbB (m : Mb) : Bool := inN m.1 0 31 && (inN m.2.1 160 4096 && inN m.2.2 0 2)
/-- may an extent be, as the program asks? (its end may wrap around) -/
def exB (ms : List Mb) (x : Ex) : Bool :=
  match ms.find? (fun m => m.1 == x.1) with
  | none => false
  | some m => !(m.2.2 == 2) && (decide (114 ≤ x.2) && ((x.2 - 114) % 8 == 0 && decide (wrap64 (x.2 + 8) ≤ m.2.1)))
/-- extents, each new: those seen behind them, if all may be -/
def exsB (ms : List Mb) : List Ex → List Ex → Option (List Ex)
  | seen, [] => some seen
  | seen, x :: l => if exB ms x && !(seen.contains x) then exsB ms (x :: seen) l else none
def apartD : List Int → Bool
  | [] => true
  | a :: l => !(l.contains a) && apartD l
def kindB (g : Grp) : Bool := if g.kind == 1 then g.ext.length == 2 else g.kind == 2 && inN g.ext.length 3 12
def grpB (ms : List Mb) (seen : List Ex) (g : Grp) : Option (List Ex) :=
  if inN g.id 0 255 && apartD (g.ext.map (·.1)) then (match exsB ms seen g.ext with | none => none | some s => if kindB g then some s else none) else none
def grpsB (ms : List Mb) : List Ex → List Grp → Option (List Ex)
  | seen, [] => some seen
  | seen, g :: l => match grpB ms seen g with | none => none | some s => grpsB ms s l
def findG (s : St) (id : Int) : Option Grp := s.gs.find? fun g => g.id == id
def mayW (w : Wh) : Bool :=
  if w.1 == 0 then w.2.1 == 0 && w.2.2 == 0
  else ((w.1 == 1 && decide (w.2.2 ≤ 7)) || (w.1 == 2 && decide (w.2.2 ≤ 87))) && (decide (0 ≤ min w.2.2 w.2.1) && decide (w.2.1 ≤ 255))
/-- no two at one place, but nowhere -/
def onceW : List Wh → Bool
  | [] => true
  | w :: l => (w.1 == 0 || !(l.contains w)) && onceW l
def slotsG (g : Grp) : Int := if g.kind == 2 then 8 * ((g.ext.length : Int) - 1) else 8
def placeB (s : St) (w : Wh) : Bool :=
  match findG s w.2.1 with
  | none => false
  | some g => g.kind == w.1 && inN w.2.2 0 (slotsG g - 1)
def mappedB (s : St) : Bool := (s.mp.all mayW && onceW s.mp) && s.mp.all fun w => w.1 == 0 || placeB s w
def zeroP (p : Plg) : Bool := p.group == 0 && (p.slot == 0 && (p.data.all (· == 0) && p.par.all (· == 0)))
def plugB (s : St) : Bool :=
  if s.plug.is then placeB s (2, s.plug.group, s.plug.slot) && !(s.mp.contains (2, s.plug.group, s.plug.slot)) else zeroP s.plug
def dirtyB (s : St) (id : Int) : Bool := match findG s id with | none => false | some g => g.kind == 1
def rightS (s : St) : Bool :=
  (inN s.blocks 1 96 && ((s.mp.length : Int) == s.blocks && decide (s.gs.length ≤ 24))) &&
  ((inN s.ms.length 3 12 && (s.ms.all mbB && risesB (s.ms.map (·.1)))) &&
  ((risesB (s.gs.map (·.id)) && (grpsB s.ms [] s.gs).isSome) &&
  (mappedB s && (s.dirty.all (dirtyB s) && (risesB s.dirty && plugB s)))))
end Go.Proofs.YtiijfocdjcjlaaaGreat
/- Function values that answer a question, whatever they have captured: what they tell, what they turn; the first of a list of which they say yes; state's in, cmp.Compare. -/
namespace Go.Proofs.YtiijfocdjcjlaaaGreat
open Go.RowKit
set_option linter.unusedVariables false
set_option linter.unusedSimpArgs false
set_option maxRecDepth 100000

section
variable {α σ : Type}
/-- w' is w, but for new blocks and those of T -/
structure KeptX (T : Nat → Prop) (w w' : World) : Prop where
  size : w.heap.size ≤ w'.heap.size
  same : ∀ b, b < w.heap.size → ¬ T b → w'.heap[b]? = w.heap[b]?
theorem KeptX.refl {T : Nat → Prop} (w : World) : KeptX T w w := ⟨Nat.le_refl _, fun _ _ _ => rfl⟩
theorem KeptX.trans {T : Nat → Prop} {a b c : World} (h : KeptX T a b) (k : KeptX T b c) : KeptX T a c :=
  ⟨Nat.le_trans h.size k.size, fun n hn hT => (k.same n (Nat.lt_of_lt_of_le hn h.size) hT).trans (h.same n hn hT)⟩
theorem KeptX.of {T : Nat → Prop} {a b : World} (h : Kept a b) : KeptX T a b := ⟨h.size, fun _ hn _ => h.block_eq hn⟩
theorem KeptX.toKept {a b : World} (h : KeptX (fun _ => False) a b) : ∀ n, n < a.heap.size → b.heap[n]? = a.heap[n]? := fun n hn => h.same n hn id
theorem KeptX.cell {T : Nat → Prop} {a b : World} (h : KeptX T a b) {p : Addr} {v : Value} (hc : a.cell? p = some v) (hT : ¬ T p.block) : b.cell? p = some v := by
  have := h.same p.block (World.block_lt_of_cell? _ _ hc) hT
  unfold World.cell? at hc ⊢
  rw [this]; exact hc
/-- the function g, with what it is bound to and has captured, tells h's answer of each record and turns the state as h says; I is what holds of the memory; only blocks of T turn -/
structure FnI (P : Program) (g : Nat) (bd caps : Array Value) (enc1 : α → Value) (h : σ → α → Bool × σ) (I : σ → World → Prop) (T : Nat → Prop) : Prop where
  ent : ∀ (xs : Array Value) (w1 : World), (callFunc g xs).run P w1 = .ok (.enter g xs) w1
  call : ∀ (s : σ) (x : α) (w1 : World), I s w1 → Calls P g (bd.push (enc1 x) ++ caps) w1 fun e w' => e = .returned (.bool (h s x).1) ∧ I (h s x).2 w' ∧ KeptX T w1 w'
def idxF (h : σ → α → Bool × σ) : σ → List α → Nat → Int × σ
  | s, [], _ => (-1, s)
  | s, x :: l, k => if (h s x).1 = true then ((k : Int), (h s x).2) else idxF h (h s x).2 l (k + 1)
def anyF (h : σ → α → Bool × σ) (s : σ) (l : List α) : Bool × σ := (decide (0 ≤ (idxF h s l 0).1), (idxF h s l 0).2)
def notF (h : σ → α → Bool × σ) (s : σ) (x : α) : Bool × σ := (!(h s x).1, (h s x).2)
def allF (h : σ → α → Bool × σ) (s : σ) (l : List α) : Bool × σ := (!(anyF (notF h) s l).1, (anyF (notF h) s l).2)
theorem idxF_end {h : σ → α → Bool × σ} {s : σ} {l : List α} {k : Nat} (hk : l.length ≤ k) : idxF h s (l.drop k) k = (-1, s) := by
  rw [List.drop_eq_nil_of_le hk]; rfl
theorem idxF_hit {h : σ → α → Bool × σ} {s : σ} {l : List α} {k : Nat} (hk : k < l.length) (hp : (h s l[k]).1 = true) : idxF h s (l.drop k) k = ((k : Int), (h s l[k]).2) := by
  rw [List.drop_eq_getElem_cons hk, idxF, if_pos hp]
theorem idxF_miss {h : σ → α → Bool × σ} {s : σ} {l : List α} {k : Nat} (hk : k < l.length) (hp : (h s l[k]).1 = false) : idxF h s (l.drop k) k = idxF h (h s l[k]).2 (l.drop (k + 1)) (k + 1) := by
  rw [List.drop_eq_getElem_cons hk, idxF, hp]; rfl
theorem idxF_ge {h : σ → α → Bool × σ} : ∀ (l : List α) (s : σ) (k : Nat), 0 ≤ (idxF h s l k).1 ↔ (idxF h s l k).1 ≠ -1
  | [], s, k => by simp [idxF]
  | x :: l, s, k => by
    rw [idxF]; split
    · simp
    · exact idxF_ge l _ _
/-- without a state: as lists have it -/
theorem idxF_plain (p : α → Bool) (s : σ) : ∀ (l : List α) (k : Nat), idxF (fun s x => (p x, s)) s l k = (if idxP p l = -1 then -1 else idxP p l + k, s)
  | [], k => by simp [idxF, idxP]
  | x :: l, k => by
    rw [idxF]
    cases hp : p x with
    | true =>
      have : idxP p (x :: l) = 0 := by simp [idxP, List.findIdx?_cons, hp]
      simp [this]
    | false =>
      simp only [hp, Bool.false_eq_true, if_false]
      rw [idxF_plain p s l (k + 1)]
      have h2 : idxP p (x :: l) = if idxP p l = -1 then -1 else idxP p l + 1 := by
        unfold idxP
        rw [List.findIdx?_cons, hp]
        cases l.findIdx? p with
        | none => simp
        | some j =>
          have : ((j : Int) = -1) = False := by simp
          simp [this]
      rw [h2]
      rcases idxP_cases p l with ⟨e, _⟩ | ⟨j, _, e, _⟩
      · simp [e]
      · have h3 : ((j : Int) = -1) = False := by simp
        have h4 : ((j : Int) + 1 = -1) = False := by simp; omega
        simp [e, h3, h4]; omega
theorem anyF_plain (p : α → Bool) (s : σ) (l : List α) : anyF (fun s x => (p x, s)) s l = (l.any p, s) := by
  rw [anyF, idxF_plain p s l 0, ← idxP_any]
  rcases idxP_cases p l with ⟨e, _⟩ | ⟨j, _, e, _⟩
  · simp [e]
  · have h3 : ((j : Int) = -1) = False := by simp
    simp [e, h3]
theorem allF_plain (p : α → Bool) (s : σ) (l : List α) : allF (fun s x => (p x, s)) s l = (l.all p, s) := by
  have e : notF (fun (s : σ) x => (p x, s)) = fun s x => (!p x, s) := rfl
  rw [allF, e, anyF_plain]
  simp only [any_not]
theorem allF_nil {h : σ → α → Bool × σ} {s : σ} : allF h s [] = (true, s) := rfl
theorem allF_cons {h : σ → α → Bool × σ} {s : σ} {x : α} {l : List α} : allF h s (x :: l) = if (h s x).1 = true then allF h (h s x).2 l else (false, (h s x).2) := by
  have key : ∀ (l : List α) (s : σ) (k j : Nat), (decide (0 ≤ (idxF (notF h) s l k).1), (idxF (notF h) s l k).2) = (decide (0 ≤ (idxF (notF h) s l j).1), (idxF (notF h) s l j).2) := by
    intro l
    induction l with
    | nil => intro s k j; rfl
    | cons y l ih =>
      intro s k j
      rw [idxF, idxF]
      split
      · simp
      · exact ih _ _ _
  have k2 := key l (h s x).2 1 0
  simp only [Prod.mk.injEq] at k2
  unfold allF anyF
  rw [idxF]
  cases hx : (h s x).1 with
  | true => simp [notF, hx]; simpa using k2
  | false => simp [notF, hx]
end
theorem Kept.of_eq {a b : World} (h : a = b) : Kept a b := h ▸ Kept.refl a
theorem st_in (n a b : Int) (w : World) :
    Calls Tryz.prog 21 #[.int .i64 n, .int .i64 a, .int .i64 b] w fun e w' => e = .returned (.bool (inN n a b)) ∧ w = w' := by
  go_enter Tryz.func21, Tryz.ntmps21
  go_wp2
  · go_ret
    exact ⟨by rw [show inN n a b = decide (n ≤ b) by simp [inN]; intros; assumption]; rfl, rfl⟩
  · go_ret
    exact ⟨by rw [show inN n a b = false by simp [inN]; omega]; rfl, rfl⟩
def cmpI (a b : Int) : Int := if a < b then -1 else if b < a then 1 else 0
theorem cmp_NaN (n : Int) (w : World) : Calls Tryz.prog 97 #[.int .i64 n] w fun e w' => e = .returned (.bool false) ∧ w = w' := by
  go_enter Tryz.func97, Tryz.ntmps97
  have hne : (n != n) = false := by simp
  go_wp2
  go_ret
  exact ⟨rfl, rfl⟩
theorem cmp_Compare (a b : Int) (w : World) : Calls Tryz.prog 56 #[.int .i64 a, .int .i64 b] w fun e w' => e = .returned (.int .i64 (cmpI a b)) ∧ w = w' := by
  go_enter Tryz.func56, Tryz.ntmps56
  by_cases h1 : a < b
  · go_wp2_with (go_at_call 97; refine (cmp_NaN _ _).mono ?_; rintro e w' ⟨rfl, rfl⟩)
    go_ret
    exact ⟨by rw [show cmpI a b = -1 by unfold cmpI; split <;> (try split) <;> omega]; rfl, rfl⟩
  · by_cases h2 : b < a
    · go_wp2_with (go_at_call 97; refine (cmp_NaN _ _).mono ?_; rintro e w' ⟨rfl, rfl⟩)
      go_ret
      exact ⟨by rw [show cmpI a b = 1 by unfold cmpI; split <;> (try split) <;> omega]; rfl, rfl⟩
    · go_wp2_with (go_at_call 97; refine (cmp_NaN _ _).mono ?_; rintro e w' ⟨rfl, rfl⟩)
      go_ret
      exact ⟨by rw [show cmpI a b = 0 by unfold cmpI; split <;> (try split) <;> omega]; rfl, rfl⟩
end Go.Proofs.YtiijfocdjcjlaaaGreat
/- Rows of groups (number, kind, the slice of extents) and changes (block, place). -/
namespace Go.Proofs.YtiijfocdjcjlaaaGreat
open Go.RowKit
set_option linter.unusedVariables false
set_option linter.unusedSimpArgs false
/-- a group's row: number, kind, the extents' slice -/
abbrev Gw := Int × Int × Value
def grw (x : Gw) : List Value := [.int .i64 x.1, .int .i64 x.2.1, x.2.2]
theorem grw_len (x : Gw) : (grw x).length = 3 := rfl
/-- a change: the block, its place -/
abbrev Ch := Int × Wh
def chg (x : Ch) : List Value := [.int .i64 x.1, .int .i64 x.2.1, .int .i64 x.2.2.1, .int .i64 x.2.2.2]
theorem chg_len (x : Ch) : (chg x).length = 4 := rfl
def chgV (x : Ch) : Value := .agg (chg x).toArray
end Go.Proofs.YtiijfocdjcjlaaaGreat
/- IndexFunc, ContainsFunc, not, all at []braidwork/api.Group, with any function value (gen_fam.py g). -/
namespace Go.Proofs.YtiijfocdjcjlaaaGreat
open Go.RowKit
set_option linter.unusedVariables false
set_option linter.unusedSimpArgs false
set_option maxRecDepth 100000
set_option maxHeartbeats 1000000

theorem idx_g {σ : Type} (h : σ → Gw → Bool × σ) (I : σ → World → Prop) (T : Nat → Prop) (s : σ) (l : List Gw) (g : Nat) (bd caps : Array Value) (v : Value) (w : World) (hlen : l.length ≤ 4096)
    (hm : ∀ s w, I s w → RSl grw 3 w v l) (hs : I s w) (hf : FnI Tryz.prog g bd caps (fun x => .agg (grw x).toArray) h I T) :
    Calls Tryz.prog 50 #[v, .func (.func g) bd caps] w fun e w' => e = .returned (.int .i64 (idxF h s l 0).1) ∧ I (idxF h s l 0).2 w' ∧ KeptX T w w' := by
  have hent := hf.ent
  obtain ⟨oa, cap, rfl, hcap⟩ := (hm s w hs).form
  have HM := Lib.hid hm; clear hm
  have HF := Lib.hid hf; clear hf
  go_enter Tryz.func50, Tryz.ntmps50
  go_wp2
  go_loopw [8] (fun i wr => ∃ k : Nat, k ≤ l.length ∧ i = .int .i64 k ∧ ∃ s1, I s1 wr ∧ KeptX T w wr ∧ idxF h s l 0 = idxF h s1 (l.drop k) k) (fun i _ => l.length - (intOf i).toNat)
  case atStart => exact ⟨0, Nat.zero_le _, rfl, s, hs, KeptX.refl _, rfl⟩
  case round =>
    obtain ⟨k, hk, rfl, s1, hs1, hbel, hno⟩ := hrel
    have HN := Lib.hid hno; clear hno
    by_cases hlt : k < l.length
    · obtain ⟨b, off, rfl, hb, hcs⟩ := (HM.out _ _ hs1).at hlt
      have h0 := hcs 0 (by rw [grw_len]; decide)
      have h1 := hcs 1 (by rw [grw_len]; decide)
      have h2 := hcs 2 (by rw [grw_len]; decide)
      simp only [Nat.add_zero, Nat.mul_one, grw, List.getElem_cons_zero, List.getElem_cons_succ] at h0 h1 h2
      clear hcs
      have hC := HF.out.call s1 l[k] _ hs1
      try dsimp only at hC
      try simp only [grw] at hC
      cases hp : (h s1 l[k]).1 with
      | true =>
        have HP := Lib.hid hp
        simp only [hp] at hC
        clear hp
        go_wp2_with (refine hC.mono ?_; rintro e w' ⟨rfl, hi1, hb1⟩)
        go_ret
        exact ⟨by rw [HN.out, idxF_hit hlt HP.out]; rfl, by rw [HN.out, idxF_hit hlt HP.out]; exact hi1, hbel.trans hb1⟩
      | false =>
        have HP := Lib.hid hp
        simp only [hp] at hC
        clear hp
        go_wp2_with (refine hC.mono ?_; rintro e w' ⟨rfl, hi1, hb1⟩)
        go_roundw
        case rel => exact ⟨k + 1, by omega, by go_num, _, hi1, hbel.trans hb1, by rw [HN.out, idxF_miss hlt HP.out]⟩
        case measure => simp [intOf]; omega
    · have e := idxF_end (h := h) (s := s1) (l := l) (k := k) (by omega)
      have HE := Lib.hid e; clear e
      go_wp2
      go_ret
      exact ⟨by rw [HN.out, HE.out]; rfl, by rw [HN.out, HE.out]; exact hs1, hbel⟩
theorem con_g {σ : Type} (h : σ → Gw → Bool × σ) (I : σ → World → Prop) (T : Nat → Prop) (s : σ) (l : List Gw) (g : Nat) (bd caps : Array Value) (v : Value) (w : World) (hlen : l.length ≤ 4096)
    (hm : ∀ s w, I s w → RSl grw 3 w v l) (hs : I s w) (hf : FnI Tryz.prog g bd caps (fun x => .agg (grw x).toArray) h I T) :
    Calls Tryz.prog 64 #[v, .func (.func g) bd caps] w fun e w' => e = .returned (.bool (anyF h s l).1) ∧ I (anyF h s l).2 w' ∧ KeptX T w w' := by
  have hC := idx_g h I T s l g bd caps v w hlen hm hs hf
  clear hm hs hf
  go_enter Tryz.func64, Tryz.ntmps64
  go_wp2_with (go_at_call 50; refine hC.mono ?_; rintro e w' ⟨rfl, hi1, hb1⟩)
  go_ret
  exact ⟨rfl, hi1, hb1⟩
/-- the function value that stands in the first cell of a block -/
def Heldg (nb g : Nat) (bd caps : Array Value) (w : World) : Prop := w.cell? ⟨nb, 0, none⟩ = some (.func (.func g) bd caps)
theorem not1_g {σ : Type} (h : σ → Gw → Bool × σ) (I : σ → World → Prop) (T : Nat → Prop) (g nb : Nat) (bd caps : Array Value) (hA : ∀ s w o, I s w → I s (w.alloc o)) (hT : ¬ T nb)
    (hf : FnI Tryz.prog g bd caps (fun x => .agg (grw x).toArray) h I T) :
    FnI Tryz.prog 98 #[] #[.pointer (some ⟨nb, 0, none⟩)] (fun x => .agg (grw x).toArray) (notF h) (fun s w => I s w ∧ Heldg nb g bd caps w) T := by
  refine ⟨fun xs w1 => rfl, fun s x w1 hs => ?_⟩
  obtain ⟨hs, hh⟩ := hs
  have hent := hf.ent
  have HF := Lib.hid hf; clear hf
  have HA := Lib.hid hA; clear hA
  have hh0 := hh
  unfold Heldg at hh0
  have hlt := World.block_lt_of_cell? _ _ hh0
  have hC := fun o => HF.out.call s x _ (HA.out _ _ o hs)
  try dsimp only at hC
  try simp only [grw] at hC
  show Calls Tryz.prog 98 #[.agg (grw x).toArray, .pointer (some ⟨nb, 0, none⟩)] w1 _
  have hB : ∀ o, KeptX T w1 (w1.alloc o) := fun o => KeptX.of ((Kept.refl _).alloc o)
  have HB := Lib.hid hB; clear hB
  try simp only [grw]
  go_enter Tryz.func98, Tryz.ntmps98
  go_wp2_with (refine (hC _).mono ?_; rintro e w' ⟨rfl, hi1, hb1⟩)
  go_ret
  exact ⟨rfl, ⟨hi1, (HB.out _ |>.trans hb1).cell hh hT⟩, HB.out _ |>.trans hb1⟩
theorem not_g {σ : Type} (h : σ → Gw → Bool × σ) (I : σ → World → Prop) (T : Nat → Prop) (s : σ) (g : Nat) (bd caps : Array Value) (w : World) (hS : ∀ o, I s (w.alloc o)) :
    Calls Tryz.prog 65 #[.func (.func g) bd caps] w fun e w' => e = .returned (.func (.func 98) #[] #[.pointer (some ⟨w.heap.size, 0, none⟩)]) ∧ (I s w' ∧ Heldg w.heap.size g bd caps w') ∧ KeptX T w w' := by
  have HS := Lib.hid hS; clear hS
  have hB : ∀ o, KeptX T w (w.alloc o) := fun o => KeptX.of ((Kept.refl _).alloc o)
  have HB := Lib.hid hB; clear hB
  go_enter Tryz.func65, Tryz.ntmps65
  go_wp2
  go_ret
  refine ⟨rfl, ⟨HS.out _, ?_⟩, HB.out _⟩
  unfold Heldg
  unfold World.cell?
  rw [show ∀ o, (w.alloc o).heap[(⟨w.heap.size, 0, none⟩ : Addr).block]? = some o from fun o => heap_alloc_new w o]
  rfl
theorem all_g {σ : Type} (h : σ → Gw → Bool × σ) (I : σ → World → Prop) (T : Nat → Prop) (s : σ) (l : List Gw) (g : Nat) (bd caps : Array Value) (v : Value) (w : World) (hlen : l.length ≤ 4096)
    (hA : ∀ s w o, I s w → I s (w.alloc o)) (hT : ∀ b, T b → b < w.heap.size)
    (hm : ∀ s w, I s w → RSl grw 3 w v l) (hs : I s w) (hf : FnI Tryz.prog g bd caps (fun x => .agg (grw x).toArray) h I T) :
    Calls Tryz.prog 28 #[v, .func (.func g) bd caps] w fun e w' => e = .returned (.bool (allF h s l).1) ∧ I (allF h s l).2 w' ∧ KeptX T w w' := by
  have hn := not1_g h I T g w.heap.size bd caps hA (fun hx => Nat.lt_irrefl _ (hT _ hx)) hf
  have hC := fun w0 h1 => con_g (notF h) (fun s w1 => I s w1 ∧ Heldg w.heap.size g bd caps w1) T s l _ _ _ v w0 hlen (fun s w h => hm s w h.1) h1 hn
  have HC := Lib.hid hC; clear hC
  have hS : ∀ o, I s (w.alloc o) := fun o => hA _ _ _ hs
  have HS := Lib.hid hS; clear hS
  clear hm hs hf hn hA hT
  go_enter Tryz.func28, Tryz.ntmps28
  go_wp2_with (first | (go_at_call 65; refine (not_g h I T s g bd caps w HS.out).mono ?_; rintro e w' ⟨rfl, hi0, hb0⟩) | (go_at_call 64; refine (HC.out _ hi0).mono ?_; rintro e w' ⟨rfl, hi1, hb1⟩))
  go_ret
  exact ⟨rfl, hi1.1, hb0.trans hb1⟩
end Go.Proofs.YtiijfocdjcjlaaaGreat
/- Maps with int keys: what a block that is a map reads as, and the operations on it. -/
namespace Go.Proofs.YtiijfocdjcjlaaaGreat
open Go.RowKit Go.ChangeMaps Go.MapKept
set_option linter.unusedVariables false
set_option linter.unusedSimpArgs false

def keyIs (n : Int) (e : MapEntry) : Bool := match e.key with | .int .i64 m => n == m | _ => false
/-- the keys are ints, each once -/
structure IntKeys (es : List MapEntry) : Prop where
  int : ∀ e ∈ es, ∃ n, e.key = .int .i64 n
  once : es.Pairwise fun a b => a.key ≠ b.key
def lookE (es : List MapEntry) (n : Int) : Option Value := (es.find? (keyIs n)).map (·.val)
/-- Block b of w is a map with int keys that reads as f, of at most m entries. -/
def IMap (w : World) (b m : Nat) (f : Int → Option Value) : Prop :=
  ∃ es clock, w.heap[b]? = some (.map es clock) ∧ IntKeys es.toList ∧ es.size ≤ m ∧ (∀ n, f n = lookE es.toList n) ∧ MapKept.Stamped es clock

theorem IMap.lt {w : World} {b m : Nat} {f : Int → Option Value} (h : IMap w b m f) : b < w.heap.size := by
  obtain ⟨es, c, hb, _⟩ := h
  exact (Array.getElem?_eq_some_iff.1 hb).1
theorem IMap.same {w w' : World} {b m : Nat} {f : Int → Option Value} (h : IMap w b m f) (hb : w'.heap[b]? = w.heap[b]?) : IMap w' b m f := by
  obtain ⟨es, c, h1, h2⟩ := h
  exact ⟨es, c, hb.trans h1, h2⟩
theorem IMap.kept {w w' : World} {b m : Nat} {f : Int → Option Value} (h : IMap w b m f) (hk : Kept w w') : IMap w' b m f := h.same (hk.block_eq h.lt)
theorem IMap.made (w : World) : IMap (w.alloc (.map #[] 0)) w.heap.size 0 (fun _ => none) :=
  ⟨#[], 0, heap_alloc_new w _, ⟨by simp, by simp⟩, by simp, fun n => by simp [lookE], MapKept.stamped_empty _⟩

theorem keyIs_iff {n : Int} {e : MapEntry} : keyIs n e = true ↔ e.key = .int .i64 n := by
  unfold keyIs
  split
  · rename_i m h; rw [h, beq_iff_eq]; constructor
    · intro e; rw [e]
    · intro e; injection e with _ e; exact e.symm
  · rename_i h
    constructor
    · intro h'; cases h'
    · intro h'; exact absurd h' (h n)
theorem findNow_int (n : Int) : ∀ (es : List MapEntry) (i : Nat), (∀ e ∈ es, ∃ m, e.key = .int .i64 m) →
    Instr.findNow (.int .i64) (.int .i64 n) es i = some ((es.findIdx? (keyIs n)).bind fun j => (es[j]?).map fun e => (i + j, e.val))
  | [], i, _ => rfl
  | e :: es, i, h => by
    obtain ⟨m, hm⟩ := h e (by simp)
    have ih := findNow_int n es (i + 1) (fun x hx => h x (by simp [hx]))
    unfold Instr.findNow
    rw [hm]
    simp only [Instr.sameNow, ↓reduceIte, List.findIdx?_cons, keyIs, hm]
    by_cases hn : (n == m) = true
    · simp [hn]
    · simp only [hn]
      rw [ih]
      cases hf : es.findIdx? (keyIs n) with
      | none => simp
      | some j => simp [Nat.add_comm, Nat.add_left_comm]

section
variable {P : Program} {w : World} {b m : Nat} {f : Int → Option Value} {t k e : TypeId}

theorem run_findKey (hk : P.underlying k = some (.int .i64)) (n : Int) (es : List MapEntry) (hi : IntKeys es) (w : World) :
    (Instr.findKey k (.int .i64 n) es).run P w = .ok ((es.findIdx? (keyIs n)).bind fun j => (es[j]?).map fun e => (j, e.val)) w := by
  have h := findNow_int n es 0 hi.int
  simp only [Nat.zero_add] at h
  simp [Instr.findKey, run_underlying hk, h, Result.andThen]
theorem run_checkKey (hk : P.underlying k = some (.int .i64)) (n : Int) (em : Bool) (w : World) : (Instr.checkKey em 10000 k (.int .i64 n)).run P w = .ok () w := by
  unfold Instr.checkKey
  simp [run_underlying hk, Result.andThen]
theorem find_idx (es : List MapEntry) (n : Int) : ((es.findIdx? (keyIs n)).bind fun j => (es[j]?).map fun e => (j, e.val)) = match es.findIdx? (keyIs n), es.find? (keyIs n) with | some j, some e => some (j, e.val) | _, _ => none := by
  cases hf : es.findIdx? (keyIs n) with
  | none => simp
  | some j =>
    obtain ⟨hj, hp, hb⟩ := List.findIdx?_eq_some_iff_getElem.1 hf
    have : es.find? (keyIs n) = some es[j] := by
      rw [List.find?_eq_some_iff_getElem]
      exact ⟨hp, j, hj, rfl, fun i hi => by simpa using hb i hi⟩
    simp [this, hj]
theorem find_cases (es : List MapEntry) (n : Int) : (es.findIdx? (keyIs n) = none ∧ es.find? (keyIs n) = none ∧ (∀ e ∈ es, keyIs n e = false)) ∨ ∃ j, ∃ hj : j < es.length, es.findIdx? (keyIs n) = some j ∧ es.find? (keyIs n) = some es[j] ∧ keyIs n es[j] = true := by
  cases hf : es.findIdx? (keyIs n) with
  | none =>
    refine .inl ⟨rfl, ?_, ?_⟩
    · rw [List.find?_eq_none]; intro x hx; rw [List.findIdx?_eq_none_iff] at hf; simpa using hf x hx
    · intro e he; rw [List.findIdx?_eq_none_iff] at hf; exact hf e he
  | some j =>
    obtain ⟨hj, hp, hb⟩ := List.findIdx?_eq_some_iff_getElem.1 hf
    refine .inr ⟨j, hj, rfl, ?_, hp⟩
    rw [List.find?_eq_some_iff_getElem]
    exact ⟨hp, j, hj, rfl, fun i hi => by simpa using hb i hi⟩

/-- m[k], m[k] with ok -/
theorem IMap.lookup (h : IMap w b m f) (ht : P.underlying t = some (.map k e)) (hk : P.underlying k = some (.int .i64)) {z : Value} (hz : ∀ w, (zeroValue e).run P w = .ok z w) (n : Int) (ok : Bool) :
    (Instr.lookup t (.map (some b)) (.int .i64 n) ok).run P w = .ok (if ok then .tuple #[(f n).getD z, .bool (f n).isSome] else (f n).getD z) w := by
  obtain ⟨es, c, hb, hi, _, hf, _⟩ := h
  have hfk := run_findKey hk n es.toList hi w
  rw [hf n]
  rcases find_cases es.toList n with ⟨h1, h2, _⟩ | ⟨j, hj, h1, h2, _⟩
  · rw [h1] at hfk
    simp [Instr.lookup, run_underlying ht, MapKept.run_getObj_map hb, run_checkKey hk, hfk, lookE, h2, hz, Result.andThen]
  · rw [h1] at hfk
    rw [Option.bind_some, List.getElem?_eq_getElem hj] at hfk
    simp only [Option.map_some] at hfk
    simp only [Instr.lookup, lookE, h2]
    simp only [Sem.run_bind, run_underlying ht, Result.andThen_ok, MapKept.run_getObj_map hb, run_checkKey hk, hfk, Sem.run_pure, Option.map_some, Option.getD_some, Option.isSome_some]
theorem run_lookup_nil (ht : P.underlying t = some (.map k e)) (hk : P.underlying k = some (.int .i64)) {z : Value} (hz : ∀ w, (zeroValue e).run P w = .ok z w) (n : Int) (ok : Bool) :
    (Instr.lookup t (.map none) (.int .i64 n) ok).run P w = .ok (if ok then .tuple #[z, .bool false] else z) w := by
  have hfk := run_findKey hk n [] ⟨by simp, by simp⟩ w
  simp [Instr.lookup, run_underlying ht, run_checkKey hk, hfk, hz, Result.andThen]

def upd (f : Int → Option Value) (n : Int) (v : Value) : Int → Option Value := fun x => if x = n then some v else f x
def del (f : Int → Option Value) (n : Int) : Int → Option Value := fun x => if x = n then none else f x

theorem IntKeys.push {es : List MapEntry} (h : IntKeys es) (n : Int) (v : Value) (c : Nat) (hn : ∀ e ∈ es, keyIs n e = false) : IntKeys (es ++ [⟨.int .i64 n, v, c⟩]) := by
  refine ⟨fun e he => ?_, ?_⟩
  · rcases List.mem_append.1 he with h' | h'
    · exact h.int e h'
    · simp at h'; subst h'; exact ⟨n, rfl⟩
  · rw [List.pairwise_append]
    refine ⟨h.once, by simp, fun a ha b hb => ?_⟩
    simp at hb; subst hb
    intro hh
    have := hn a ha
    rw [Bool.eq_false_iff] at this
    exact this (keyIs_iff.2 hh)

theorem find_append_new (es : List MapEntry) (n x : Int) (v : Value) (c : Nat) (hn : ∀ e ∈ es, keyIs n e = false) : lookE (es ++ [⟨.int .i64 n, v, c⟩]) x = if x = n then some v else lookE es x := by
  unfold lookE
  rw [List.find?_append]
  by_cases hx : x = n
  · subst hx
    have : es.find? (keyIs x) = none := by rw [List.find?_eq_none]; intro e he; simp [hn e he]
    simp [this, keyIs]
  · have : ([⟨.int .i64 n, v, c⟩] : List MapEntry).find? (keyIs x) = none := by simp [keyIs, hx]
    simp [this, hx]

theorem IntKeys.set {es : List MapEntry} (h : IntKeys es) (j : Nat) (hj : j < es.length) (e' : MapEntry) (he : e'.key = es[j].key) : IntKeys (es.set j e') := by
  refine ⟨fun e hm => ?_, ?_⟩
  · rcases List.mem_or_eq_of_mem_set hm with h' | h'
    · exact h.int e h'
    · subst h'; rw [he]; exact h.int _ (List.getElem_mem hj)
  · have h1 : (es.map (·.key)).Pairwise (· ≠ ·) := by rw [List.pairwise_map]; exact h.once
    have h2 : (es.set j e').map (·.key) = es.map (·.key) := by
      rw [List.map_set, he]
      exact List.ext_getElem (by simp) fun i h1 h2 => by
        simp only [List.getElem_set, List.getElem_map]
        split
        · rename_i hij; subst hij; rfl
        · rfl
    rw [← h2, List.pairwise_map] at h1
    exact h1

theorem key_at {es : List MapEntry} (h : IntKeys es) {i j : Nat} (hi : i < es.length) (hj : j < es.length) (hk : es[i].key = es[j].key) : i = j := by
  have := h.once
  rw [List.pairwise_iff_getElem] at this
  rcases Nat.lt_trichotomy i j with hl | hl | hl
  · exact absurd hk (this i j hi hj hl)
  · exact hl
  · exact absurd hk.symm (this j i hj hi hl)

theorem find_key {es : List MapEntry} (h : IntKeys es) {j : Nat} (hj : j < es.length) {n : Int} (hk : keyIs n es[j] = true) : es.find? (keyIs n) = some es[j] := by
  rw [List.find?_eq_some_iff_getElem]
  refine ⟨hk, j, hj, rfl, fun i hi => ?_⟩
  simp only [Bool.not_eq_true', Bool.eq_false_iff]
  intro hh
  have := key_at h (by omega) hj ((keyIs_iff.1 hh).trans (keyIs_iff.1 hk).symm)
  omega

theorem find_set {es : List MapEntry} (h : IntKeys es) {j : Nat} (hj : j < es.length) {n : Int} (hk : keyIs n es[j] = true) (v : Value) (x : Int) :
    lookE (es.set j ⟨.int .i64 n, v, es[j].born⟩) x = if x = n then some v else lookE es x := by
  have hs := h.set j hj ⟨.int .i64 n, v, es[j].born⟩ (keyIs_iff.1 hk).symm
  unfold lookE
  by_cases hx : x = n
  · subst hx
    have := find_key hs (j := j) (by simpa using hj) (n := x) (by simp [keyIs])
    rw [this]; simp
  · rw [if_neg hx]
    rcases find_cases es x with ⟨_, h2, h3⟩ | ⟨i, hi, _, h2, h4⟩
    · rw [h2, List.find?_eq_none.2]
      · intro e he
        rcases List.mem_or_eq_of_mem_set he with h' | h'
        · simp [h3 e h']
        · subst h'; simp [keyIs, hx]
    · have hij : i ≠ j := by
        intro e; subst e
        have a := keyIs_iff.1 h4; have b := keyIs_iff.1 hk
        rw [a] at b; injection b with _ b; exact hx b
      have h5 : (es.set j ⟨.int .i64 n, v, es[j].born⟩)[i]'(by simpa using hi) = es[i] := by rw [List.getElem_set_ne (Ne.symm hij)]
      rw [h2, find_key hs (j := i) (by simpa using hi) (by rw [h5]; exact h4), h5]

/-- m[k] = v -/
theorem IMap.update (h : IMap w b m f) (ht : P.underlying t = some (.map k e)) (hk : P.underlying k = some (.int .i64)) (n : Int) (v : Value) :
    ∃ w', (Instr.mapUpdate t (.map (some b)) (.int .i64 n) v).run P w = .ok () w' ∧ IMap w' b (m + 1) (upd f n v) ∧ (∃ o, w' = setBlock w b o) := by
  obtain ⟨es, c, hb, hi, hm, hf, hst⟩ := h
  have hfk := run_findKey hk n es.toList hi w
  rcases find_cases es.toList n with ⟨h1, h2, h3⟩ | ⟨j, hj, h1, h2, h4⟩
  · rw [h1] at hfk
    refine ⟨setBlock w b (.map (es.push ⟨.int .i64 n, v, c⟩) (c + 1)), ?_, ⟨es.push ⟨.int .i64 n, v, c⟩, c + 1, heap_setBlock_same hb _, ?_, by simp; omega, fun x => ?_, ?_⟩, _, rfl⟩
    · simp [Instr.mapUpdate, run_underlying ht, MapKept.run_getObj_map hb, run_checkKey hk, hfk, MapKept.run_setObj_map _ hb, Result.andThen, setBlock]
    · rw [Array.toList_push]; exact hi.push n v c h3
    · rw [Array.toList_push, find_append_new _ _ _ _ _ h3]; unfold upd; rw [hf x]
    · refine MapKept.stamped_push hst fun x hx hk => ?_
      have := h3 x hx
      rw [Bool.eq_false_iff] at this
      exact this (keyIs_iff.2 hk)
  · rw [h1] at hfk
    rw [Option.bind_some, List.getElem?_eq_getElem hj] at hfk
    simp only [Option.map_some] at hfk
    have hja : j < es.size := by simpa using hj
    have hkey : es[j].key = .int .i64 n := by have := keyIs_iff.1 h4; simpa using this
    have hks : (Instr.keyThatStays (.int .i64 n) (.int .i64 n)).run P w = .ok (.int .i64 n) w := by
      simp [Instr.keyThatStays, Instr.sameBits]
    have hmod : es.modify j (fun e => { e with key := .int .i64 n, val := v }) = es.setIfInBounds j ⟨.int .i64 n, v, es[j].born⟩ := by
      apply Array.ext
      · simp
      · intro i h1 h2
        rw [Array.getElem_modify, Array.getElem_setIfInBounds (by simpa using h1)]
        split
        · rename_i hij; subst hij; rfl
        · rfl
    refine ⟨setBlock w b (.map (es.setIfInBounds j ⟨.int .i64 n, v, es[j].born⟩) c), ?_, ⟨_, c, heap_setBlock_same hb _, ?_, by simp; omega, fun x => ?_, ?_⟩, _, rfl⟩
    · simp only [Instr.mapUpdate, Sem.run_bind, run_underlying ht, Result.andThen_ok, MapKept.run_getObj_map hb, run_checkKey hk, hfk]
      rw [show ((es[j]?).map (·.key)).getD (.int .i64 n) = .int .i64 n from by simp [hja, hkey]]
      simp only [hks, Result.andThen_ok, hmod, MapKept.run_setObj_map _ hb, setBlock]
    · rw [Array.toList_setIfInBounds]; exact hi.set j hj _ (by simpa using hkey.symm)
    · rw [Array.toList_setIfInBounds]
      have := find_set hi hj h4 v x
      simp only [Array.getElem_toList] at this
      rw [this]; unfold upd; rw [hf x]
    · rw [← hmod]
      refine MapKept.stamped_modify hst _ _ (fun _ _ => rfl) fun e he hj2 => ?_
      rw [Array.getElem?_eq_getElem hja, Option.some.injEq] at hj2
      rw [← hj2]; exact hkey.symm

theorem IntKeys.erase {es : List MapEntry} (h : IntKeys es) (j : Nat) : IntKeys (es.eraseIdx j) :=
  ⟨fun e he => h.int e (List.mem_of_mem_eraseIdx he), h.once.sublist (List.eraseIdx_sublist _ _)⟩
theorem find_erase {es : List MapEntry} (h : IntKeys es) {j : Nat} (hj : j < es.length) {n : Int} (hk : keyIs n es[j] = true) (x : Int) :
    lookE (es.eraseIdx j) x = if x = n then none else lookE es x := by
  unfold lookE
  have hmem : ∀ e ∈ es.eraseIdx j, keyIs n e = false := by
    intro e he
    rw [Bool.eq_false_iff]; intro hh
    obtain ⟨i, hi, he2⟩ := List.getElem_of_mem he
    rw [List.getElem_eraseIdx] at he2
    split at he2
    · have := key_at h (i := i) (j := j) (by omega) hj (by rw [he2]; exact (keyIs_iff.1 hh).trans (keyIs_iff.1 hk).symm)
      omega
    · have hl : i + 1 < es.length := by rw [List.length_eraseIdx] at hi; split at hi <;> omega
      have := key_at h (i := i + 1) (j := j) hl hj (by rw [he2]; exact (keyIs_iff.1 hh).trans (keyIs_iff.1 hk).symm)
      omega
  by_cases hx : x = n
  · subst hx
    rw [if_pos rfl, List.find?_eq_none.2]
    · rfl
    · intro e he; simp [hmem e he]
  · rw [if_neg hx]
    rcases find_cases es x with ⟨_, h2, h3⟩ | ⟨i, hi, _, h2, h4⟩
    · rw [h2, List.find?_eq_none.2]
      intro e he; simp [h3 e (List.mem_of_mem_eraseIdx he)]
    · have hij : i ≠ j := by
        intro e; subst e
        have a := keyIs_iff.1 h4; have b := keyIs_iff.1 hk
        rw [a] at b; injection b with _ b; exact hx b
      have hm : es[i] ∈ es.eraseIdx j := by
        rw [List.mem_eraseIdx_iff_getElem]
        exact ⟨i, hi, hij, rfl⟩
      obtain ⟨i', hi', he'⟩ := List.getElem_of_mem hm
      rw [h2, find_key (h.erase j) (j := i') hi' (by rw [he']; exact h4), he']
/-- delete(m, k) -/
theorem IMap.delete {ty : TypeId} (h : IMap w b m f) (ht : P.underlying t = some (.map k e)) (hk : P.underlying k = some (.int .i64)) (n : Int) :
    ∃ w', (Builtin.delete_ #[t, k] ty #[.map (some b), .int .i64 n]).run P w = .ok (.tuple #[]) w' ∧ IMap w' b m (del f n) ∧ (∃ o, w' = setBlock w b o) := by
  obtain ⟨es, c, hb, hi, hm, hf, hst⟩ := h
  have hfk := run_findKey hk n es.toList hi w
  rcases find_cases es.toList n with ⟨h1, h2, h3⟩ | ⟨j, hj, h1, h2, h4⟩
  · rw [h1] at hfk
    refine ⟨setBlock w b (.map es c), ?_, ⟨es, c, heap_setBlock_same hb _, hi, hm, fun x => ?_, hst⟩, _, rfl⟩
    · simp [Builtin.delete_, run_underlying ht, MapKept.run_getObj_map hb, run_checkKey hk, hfk, MapKept.run_setObj_map _ hb, Result.andThen, setBlock]
    · unfold del
      split
      · rename_i hx; subst hx; simp [lookE, h2]
      · exact hf x
  · rw [h1] at hfk
    rw [Option.bind_some, List.getElem?_eq_getElem hj] at hfk
    simp only [Option.map_some] at hfk
    have hja : j < es.size := by simpa using hj
    have hl : (es.eraseIdxIfInBounds j).toList = es.toList.eraseIdx j := by simp
    refine ⟨setBlock w b (.map (es.eraseIdxIfInBounds j) c), ?_, ⟨_, c, heap_setBlock_same hb _, by rw [hl]; exact hi.erase j, ?_, fun x => ?_, MapKept.stamped_erase hst j⟩, _, rfl⟩
    · simp only [Builtin.delete_, Sem.run_bind, run_underlying ht, Result.andThen_ok, MapKept.run_getObj_map hb, run_checkKey hk, hfk, Sem.run_pure, MapKept.run_setObj_map _ hb, setBlock, List.getElem?_toArray, List.getElem?_cons_zero, List.getElem?_cons_succ]
    · rw [← Array.length_toList, hl, List.length_eraseIdx, Array.length_toList]; split <;> omega
    · rw [hl, find_erase hi hj h4]; unfold del; rw [hf x]
end

end Go.Proofs.YtiijfocdjcjlaaaGreat
/- What a call leaves as it was: all but the blocks that S names. Places where the walk stops. Rules for maps with int keys. -/
namespace Go.Proofs.YtiijfocdjcjlaaaGreat
open Go.RowKit Go.ChangeMaps Go.MapKept
set_option linter.unusedVariables false
set_option linter.unusedSimpArgs false

structure Stop (p : Prop) : Prop where
  out : p
theorem stop_at {P : Program} {ops : Array Oper} {Q : Exit → Act → World → Prop} {rest : List Oper} {o : Oper} {a : Act} {w : World} (h : Stop (wpList P ops Q (o :: rest) a w)) : wpList P ops Q (o :: rest) a w := h.out

/-- Nothing but what S names, and what is new, has turned. -/
structure But (S : Nat → Prop) (w w' : World) : Prop where
  os : w'.os = w.os
  tape : w'.tape = w.tape
  output : w'.output = w.output
  size : w.heap.size ≤ w'.heap.size
  block : ∀ k, k < w.heap.size → ¬ S k → w'.heap[k]? = w.heap[k]?

theorem But.refl (S : Nat → Prop) (w : World) : But S w w := ⟨rfl, rfl, rfl, Nat.le_refl _, fun _ _ _ => rfl⟩
theorem But.trans' {S S' : Nat → Prop} {a b c : World} (h : But S a b) (k : But S' b c) (hs : ∀ i, S' i → S i ∨ a.heap.size ≤ i) : But S a c :=
  ⟨k.os.trans h.os, k.tape.trans h.tape, k.output.trans h.output, Nat.le_trans h.size k.size, fun i hi hn =>
    (k.block i (Nat.lt_of_lt_of_le hi h.size) (fun h' => by rcases hs i h' with h'' | h''; exact hn h''; omega)).trans (h.block i hi hn)⟩
theorem But.trans {S : Nat → Prop} {a b c : World} (h : But S a b) (k : But S b c) : But S a c := h.trans' k fun _ h => .inl h
theorem But.mono {S S' : Nat → Prop} {a b : World} (h : But S a b) (hs : ∀ i, S i → S' i) : But S' a b := ⟨h.os, h.tape, h.output, h.size, fun i hi hn => h.block i hi (fun h' => hn (hs i h'))⟩
theorem But.kept {S : Nat → Prop} {a b : World} (h : Kept a b) : But S a b := ⟨h.os, h.tape, h.output, h.size, fun i hi _ => Below.block h i hi⟩
theorem But.keep {S : Nat → Prop} {a b c : World} (h : But S a b) (k : Kept b c) : But S a c := h.trans (But.kept k)
theorem But.below {S : Nat → Prop} {base : Nat} {a b : World} (h : But S a b) (hs : ∀ i, S i → base ≤ i) (hb : base ≤ a.heap.size) : Below base a b :=
  ⟨h.os, h.tape, h.output, h.size, fun i hi => h.block i (by omega) (fun h' => by have := hs i h'; omega)⟩
theorem But.to_kept {S : Nat → Prop} {w a b : World} (hk : Kept w a) (h : But S a b) (hs : ∀ i, S i → w.heap.size ≤ i) : Kept w b := Below.trans hk (h.below hs hk.size)
theorem But.alloc {S : Nat → Prop} {a b : World} (h : But S a b) (o : Obj) : But S a (b.alloc o) := h.keep ((Kept.refl _).alloc o)
theorem But.drew {S : Nat → Prop} {a b : World} (h : But S a b) : But S a b.drew := h.keep (Kept.refl _).drew
theorem But.drewN {S : Nat → Prop} {a b : World} (h : But S a b) (n : Nat) : But S a (b.drewN n) := h.keep ((Kept.refl _).drewN n)
theorem setBlock_oth (w : World) (k i : Nat) (o : Obj) (h : i ≠ k) : (setBlock w k o).heap[i]? = w.heap[i]? := by
  simp [setBlock, Array.getElem?_setIfInBounds, Ne.symm h]
theorem But.setBlock {S : Nat → Prop} {a b : World} (h : But S a b) {k : Nat} (o : Obj) (hk : S k ∨ a.heap.size ≤ k) : But S a (setBlock b k o) := by
  refine ⟨h.os, h.tape, h.output, by simpa [ChangeMaps.setBlock] using h.size, fun i hi hn => ?_⟩
  have hne : i ≠ k := by
    intro e; subst e; rcases hk with hk | hk
    · exact hn hk
    · omega
  rw [setBlock_oth _ _ _ _ hne]
  exact h.block i hi hn
theorem But.setCell {S : Nat → Prop} {a b : World} (h : But S a b) {p : Addr} (u : Value) (hk : S p.block ∨ a.heap.size ≤ p.block) : But S a (b.setCell p u) := by
  refine ⟨h.os, h.tape, h.output, by simpa [World.setCell] using h.size, fun i hi hn => ?_⟩
  have hne : p.block ≠ i := by
    intro e; subst e; rcases hk with hk | hk
    · exact hn hk
    · omega
  rw [heap_setCell_other _ _ _ _ (Ne.symm hne)]
  exact h.block i hi hn
theorem But.grown {S : Nat → Prop} {a b c : World} {row : Option Nat} (h : But S a b) (hg : b.grownBy c row) (hr : ∀ k, row = some k → S k ∨ a.heap.size ≤ k) : But S a c :=
  h.trans' (S' := fun k => row = some k) ⟨hg.os, hg.tape, hg.output, hg.size, fun k hk hn => hg.block k hk (fun e => hn e.symm)⟩ fun i hi => hr i hi
theorem But.cell {S : Nat → Prop} {a b : World} (h : But S a b) {p : Addr} {v : Value} (hn : ¬ S p.block) (hc : a.cell? p = some v) : b.cell? p = some v :=
  (World.cell?_of_block (h.block _ (World.block_lt_of_cell? _ _ hc) hn)).trans hc
theorem But.blk {S : Nat → Prop} {a b : World} (h : But S a b) {k : Nat} {o : Obj} (hn : ¬ S k) (hc : a.heap[k]? = some o) : b.heap[k]? = some o :=
  (h.block k (Array.getElem?_eq_some_iff.1 hc).1 hn).trans hc
theorem But.imap {S : Nat → Prop} {a b : World} (h : But S a b) {k m : Nat} {f : Int → Option Value} (hn : ¬ S k) (hi : IMap a k m f) : IMap b k m f := hi.same (h.block k hi.lt hn)

section
variable {P : Program} {ops : Array Oper} {rest : List Oper} {o : Oper} {a : Act} {w : World} {Q : Exit → Act → World → Prop} {t k e : TypeId} {z : Value} {b c : Nat} {f : Int → Option Value}

theorem exec_lookup (m x : Operand) (ok : Bool) (ho : o.op = .lookup t m x ok) (ht : P.underlying t = some (.map k e)) (hk : P.underlying k = some (.int .i64)) (hz : ∀ w, (zeroValue e).run P w = .ok z w)
    (hm : a.eval m = .map (some b)) (n : Int) (hx : a.eval x = .int .i64 n) (h : IMap w b c f) :
    (execOp a.eval o).run P w = .ok (.value (if ok then .tuple #[(f n).getD z, .bool (f n).isSome] else (f n).getD z)) w := by
  have hr := h.lookup ht hk hz n ok
  unfold execOp
  simp only [ho, Sem.run_bind, hm, hx, hr, Result.andThen_ok, Sem.run_pure]
theorem wpList_lookup_im (hgd : Region.wanted o (yielded ops a.tmps) = true) (m x : Operand) (ok : Bool) (ho : o.op = .lookup t m x ok) (ht : P.underlying t = some (.map k e)) (hk : P.underlying k = some (.int .i64)) (hz : ∀ w, (zeroValue e).run P w = .ok z w)
    (hm : a.eval m = .map (some b)) (n : Int) (hx : a.eval x = .int .i64 n) (hi : IMap w b c f) (v : Value) (hv : (if ok then .tuple #[(f n).getD z, .bool (f n).isSome] else (f n).getD z) = v)
    (h : wpList P ops Q rest (a.put o.dst v) w) : wpList P ops Q (o :: rest) a w := by
  refine BigFrame.wpList_want hgd fun K hK => ?_
  have hr := exec_lookup m x ok ho ht hk hz hm n hx hi
  unfold Oper.wp
  rw [hr, hv]
  exact hK _ _ h
theorem wpList_update_im (hgd : Region.wanted o (yielded ops a.tmps) = true) (m x y : Operand) (ho : o.op = .mapUpdate t m x y) (ht : P.underlying t = some (.map k e)) (hk : P.underlying k = some (.int .i64))
    (hm : a.eval m = .map (some b)) (n : Int) (hx : a.eval x = .int .i64 n) (v : Value) (hy : a.eval y = v) (hi : IMap w b c f)
    (h : ∀ o', IMap (setBlock w b o') b (c + 1) (upd f n v) → wpList P ops Q rest (a.put o.dst undef) (setBlock w b o')) : wpList P ops Q (o :: rest) a w := by
  refine BigFrame.wpList_want hgd fun K hK => ?_
  obtain ⟨w', hr, hi', o', rfl⟩ := hi.update (t := t) (e := e) ht hk n v
  unfold Oper.wp execOp
  simp only [ho, Sem.run_bind, hm, hx, hy, hr, Result.andThen_ok, Sem.run_pure]
  exact hK _ _ (h o' hi')
theorem wp_update_im {K : Act → World → Prop} (m x y : Operand) (ho : o.op = .mapUpdate t m x y) (ht : P.underlying t = some (.map k e)) (hk : P.underlying k = some (.int .i64))
    (hm : a.eval m = .map (some b)) (n : Int) (hx : a.eval x = .int .i64 n) (v : Value) (hy : a.eval y = v) (hi : IMap w b c f)
    (h : ∀ o', IMap (setBlock w b o') b (c + 1) (upd f n v) → K (a.put o.dst undef) (setBlock w b o')) : o.wp P a w K Q := by
  obtain ⟨w', hr, hi', o', rfl⟩ := hi.update (t := t) (e := e) ht hk n v
  unfold Oper.wp execOp
  simp only [ho, Sem.run_bind, hm, hx, hy, hr, Result.andThen_ok, Sem.run_pure]
  exact h o' hi'
theorem wpList_delete_im (hgd : Region.wanted o (yielded ops a.tmps) = true) (m x : Operand) (ho : o.op = .call { callee := .builtin .delete, args := #[m, x], argTypes := #[t, k] }) (ht : P.underlying t = some (.map k e)) (hk : P.underlying k = some (.int .i64))
    (hm : a.eval m = .map (some b)) (n : Int) (hx : a.eval x = .int .i64 n) (hi : IMap w b c f)
    (h : ∀ o', IMap (setBlock w b o') b c (del f n) → wpList P ops Q rest (a.put o.dst (.tuple #[])) (setBlock w b o')) : wpList P ops Q (o :: rest) a w := by
  refine BigFrame.wpList_want hgd fun K hK => ?_
  obtain ⟨w', hr, hi', o', rfl⟩ := hi.delete (t := t) (e := e) (ty := o.type) ht hk n
  unfold Oper.wp execOp
  simp only [ho, resolve, invoke, builtin, Sem.run_bind, Sem.run_pure, Result.andThen_ok, List.map_toArray, List.map_cons, List.map_nil, hm, hx, hr]
  exact hK _ _ (h o' hi')
end

theorem zero_slice (w : World) : (zeroValue 25).run Tryz.prog w = .ok (.slice none 0 0) w := by kernel_rfl
def ints (l : List Int) : List Value := l.map (.int .i64)
theorem ints_length (l : List Int) : (ints l).length = l.length := by simp [ints]
end Go.Proofs.YtiijfocdjcjlaaaGreat
/- Slices of records: all their cells; beside append's sources. -/
namespace Go.Proofs.YtiijfocdjcjlaaaGreat
open Go.RowKit
set_option linter.unusedVariables false
set_option linter.unusedSimpArgs false
section
variable {α : Type} {enc : α → List Value} {n : Nat} {W W' : World} {l : List α}
theorem RSl.cells (henc : ∀ x, (enc x).length = n) {oa : Option Addr} {m cap : Nat} (h : RSl enc n W (.slice oa m cap) l) (h0 : 0 < l.length) : ∃ b off, oa = some ⟨b, off, none⟩ ∧ b < W.heap.size ∧ Cells W b off (l.flatMap enc) := by
  obtain ⟨b, off, e, hb, _⟩ := h.at h0
  refine ⟨b, off, e, hb, fun j hj => ?_⟩
  rw [flat_len henc] at hj
  have hn : 0 < n := by
    rcases Nat.eq_zero_or_pos n with h | h
    · subst h; omega
    · exact h
  have hk : j / n < l.length := by rw [Nat.div_lt_iff_lt_mul hn]; exact hj
  obtain ⟨b', off', e', _, hc⟩ := h.at hk
  rw [e] at e'; cases e'
  have hr : j % n < (enc l[j / n]).length := by rw [henc]; exact Nat.mod_lt _ hn
  have h1 := hc (j % n) hr
  have h2 := flat_at henc l (j / n) hk (j % n) (Nat.mod_lt _ hn)
  have e2 : j / n * n + j % n = j := by rw [Nat.mul_comm]; exact Nat.div_add_mod j n
  rw [e2] at h2
  have h3 : (l.flatMap enc)[j]? = some ((l.flatMap enc)[j]'(by rw [flat_len henc]; exact hj)) := List.getElem?_eq_getElem _
  rw [List.getElem?_eq_getElem hr] at h2
  rw [h3] at h2
  rw [Option.some.inj h2, show off + j = off + j / n * n + j % n by omega]
  exact h1
theorem RSl.src (henc : ∀ x, (enc x).length = n) {a : Addr} {m cap : Nat} (h : RSl enc n W (.slice (some a) m cap) l) : Src W n (.slice (some a) m cap) m (l.flatMap enc) := by
  have h' := h
  obtain ⟨oa, c, e, hc, _⟩ := h'
  have hm : m = l.length := by cases e; rfl
  have hcap : l.length ≤ cap := by cases e; exact hc
  subst hm
  rcases Nat.eq_zero_or_pos l.length with h0 | h0
  · have : l = [] := List.eq_nil_of_length_eq_zero h0
    subst this
    exact ⟨by simp, some a, cap, rfl, Nat.zero_le _, fun e => (by cases e), fun b hb j u hu => by simp at hu⟩
  · obtain ⟨b, off, e, _, hcs⟩ := RSl.cells henc h h0
    cases e
    exact Src.of_cells hcs (flat_len henc l) hcap
theorem App.nil_form {base e : Nat} {v : Value} (h : App W base e n v 0 []) : ∃ oa cap, v = .slice oa 0 cap := by
  rcases h with h | ⟨hl, ao, rfl, h0, hc⟩
  · rcases h.2 with ⟨rfl, _⟩ | ⟨g, cap, cur, rfl, _⟩
    · exact ⟨none, 0, rfl⟩
    · exact ⟨_, cap, rfl⟩
  · exact ⟨ao, 0, rfl⟩
theorem RSl.of_app {base e : Nat} {v : Value} (h : App W base e n v 0 []) : RSl enc n W v ([] : List α) := by
  obtain ⟨oa, cap, rfl⟩ := App.nil_form h
  exact ⟨oa, cap, rfl, Nat.zero_le _, fun k hk => by cases hk⟩
end
end Go.Proofs.YtiijfocdjcjlaaaGreat
/- Whole aggregates (sectors and the like): made, loaded, stored, compared, without going through their cells one by one. -/
namespace Go.Proofs.YtiijfocdjcjlaaaGreat
open Go.RowKit
set_option linter.unusedVariables false

/-- An aggregate type of n cells. -/
structure AggT (P : Program) (t n : Nat) : Prop where
  d : ∃ d, P.underlying t = some d ∧ d.isRow = true
  sz : (P.info? t).map (·.size) = some n

/-- w1 is w but for block g, which holds these cells. -/
structure Wrote (w w1 : World) (g : Nat) (cs : List Value) (t : TypeId) : Prop where
  blk : w1.heap[g]? = some (.cells cs.toArray t (0, 0))
  oth : ∀ k, k ≠ g → w1.heap[k]? = w.heap[k]?
  size : w1.heap.size = w.heap.size
  os : w1.os = w.os
  tape : w1.tape = w.tape
  output : w1.output = w.output
theorem Wrote.kept {a w w1 : World} {g : Nat} {cs : List Value} {t : TypeId} (h : Wrote w w1 g cs t) (hk : Kept a w) (hg : a.heap.size ≤ g) : Kept a w1 :=
  Below.trans hk ⟨h.os, h.tape, h.output, by rw [h.size]; exact Nat.le_refl _, fun k hk => h.oth k (by omega)⟩
theorem Wrote.grown {w w1 : World} {g : Nat} {cs : List Value} {t : TypeId} (h : Wrote w w1 g cs t) : w.grownBy w1 (some g) :=
  ⟨h.os, h.tape, h.output, by rw [h.size]; exact Nat.le_refl _, fun k _ hk => h.oth k (by simpa using hk)⟩
theorem Wrote.cells {w w1 : World} {g : Nat} {cs : List Value} {t : TypeId} (h : Wrote w w1 g cs t) : Cells w1 g 0 cs := by
  simpa using Cells.of_block h.blk

theorem splice_all {α : Type} (L cs : List α) (h : cs.length = L.length) : splice L 0 cs = cs := by simp [splice, h]
theorem Wrote.all {w w1 : World} {g : Nat} {cur cs : List Value} {t : TypeId} (h : Wrote w w1 g (splice cur 0 cs) t) (hl : cs.length = cur.length) : Wrote w w1 g cs t := by rw [splice_all _ _ hl] at h; exact h

theorem rangeAt_of_cells {w : World} {b off : Nat} {xs : List Value} (h : Cells w b off xs) : w.rangeAt b off xs := by
  intro j v hv
  obtain ⟨hj, rfl⟩ := List.getElem?_eq_some_iff.1 hv
  exact h j hj

section
variable {P : Program} {ops : Array Oper} {rest : List Oper} {o : Oper} {a : Act} {w : World} {Q : Exit → Act → World → Prop}

/-- To stand still at a builtin's call, at a load, at a store. -/
theorem stop_bi (b : Builtin) (args : Array Operand) (ats : Array TypeId) (ho : o.op = .call { callee := .builtin b, args := args, argTypes := ats }) (h : wpList P ops Q (o :: rest) a w) : wpList P ops Q (o :: rest) a w := h
theorem stop_load (T : TypeId) (x : Operand) (ho : o.op = .load T x) (h : wpList P ops Q (o :: rest) a w) : wpList P ops Q (o :: rest) a w := h
theorem stop_store (T : TypeId) (x y : Operand) (ho : o.op = .store T x y) (h : wpList P ops Q (o :: rest) a w) : wpList P ops Q (o :: rest) a w := h

/-- A new variable of an aggregate type: zeros, the world a letter. -/
theorem wpList_alloc_abs (hgd : o.guard = none) (T : TypeId) (ho : o.op = .alloc T) (zs : List Value) (hz : ∀ w, (zeroValue T).run P w = .ok (.agg zs.toArray) w)
    (h : ∀ w1, Hid (w1.heap[w.heap.size]? = some (.cells zs.toArray T (0, 0))) → w.heap.size < w1.heap.size → Hid (w1.heap.size = w.heap.size + 1) → Kept w w1 → wpList P ops Q rest (a.put o.dst (.pointer (some ⟨w.heap.size, 0, none⟩))) w1) : wpList P ops Q (o :: rest) a w := by
  refine wpList_plain hgd fun K hK => ?_
  unfold Oper.wp execOp
  simp only [ho, Instr.alloc, newVar, newRow, Sem.run_bind, hz, Result.andThen_ok, Sem.run_pure, run_newObj_alloc, Value.cells]
  exact hK _ _ (h _ (Lib.hid (heap_alloc_new w _)) (by simp) (Lib.hid (World.size_alloc _ _)) ((Kept.refl _).alloc _))

theorem wpList_load_agg (hgd : o.guard = none) {T n : Nat} (x : Operand) (ho : o.op = .load T x) (hT : AggT P T n)
    (b off : Nat) (hx : a.eval x = .pointer (some ⟨b, off, none⟩)) (xs : List Value) (hc : Cells w b off xs) (hl : xs.length = n)
    (h : wpList P ops Q rest (a.put o.dst (.agg xs.toArray)) w) : wpList P ops Q (o :: rest) a w := by
  obtain ⟨⟨d, hd1, hd2⟩, hs⟩ := hT
  exact wpList_load_mid hgd T x ho b off hx xs d (rangeAt_of_cells hc) hd1 hd2 (by rw [hs, hl]) h

/-- The same where the operation has a guard that lets it run. -/
theorem wpList_load_aggW {T n : Nat} (x : Operand) (ho : o.op = .load T x) (hT : AggT P T n)
    (b off : Nat) (hx : a.eval x = .pointer (some ⟨b, off, none⟩)) (xs : List Value) (hc : Cells w b off xs) (hl : xs.length = n)
    (hw : Region.wanted o (yielded ops a.tmps) = true)
    (h : wpList P ops Q rest (a.put o.dst (.agg xs.toArray)) w) : wpList P ops Q (o :: rest) a w := by
  obtain ⟨⟨d, hd1, hd2⟩, hs⟩ := hT
  refine wpList_step fun K hK => ?_
  rw [if_pos hw]
  exact wp_load_mid T x ho b off hx xs d (rangeAt_of_cells hc) hd1 hd2 (by rw [hs, hl]) (hK _ _ h)

theorem wpList_store_agg (hgd : o.guard = none) {T n : Nat} (x y : Operand) (ho : o.op = .store T x y) (hT : AggT P T n)
    (b off : Nat) (hx : a.eval x = .pointer (some ⟨b, off, none⟩)) (xs : List Value) (hy : a.eval y = .agg xs.toArray) (hl : xs.length = n) (h1 : ∀ v ∈ xs, v.oneCell' = true)
    (cur : List Value) (t : TypeId) (hb : w.heap[b]? = some (.cells cur.toArray t (0, 0))) (hfit : off + n ≤ cur.length)
    (h : ∀ w1, Wrote w w1 b (splice cur off xs) t → wpList P ops Q rest (a.put o.dst undef) w1) : wpList P ops Q (o :: rest) a w := by
  refine wpList_plain hgd fun K hK => ?_
  have hst := run_storeCells_at P b off t xs 0 cur.toArray w hb (by simpa [hl] using hfit) h1
  obtain ⟨_, hs⟩ := hT
  cases hq : P.info? T with
  | none => simp [hq] at hs
  | some i =>
    have hi : i.size = n := by simpa [hq] using hs
    unfold Oper.wp execOp
    simp only [ho, hx, hy, Instr.storeAt, Instr.sureAddr, Sem.run_bind, Sem.run_pure, Result.andThen_ok, storeVar, sizeOf, typeInfo, run_program, hq, Value.cells, List.size_toArray, hi, hl, ne_eq, not_true_eq_false, if_false, hst]
    refine hK _ _ (h _ ⟨?_, ?_, ?_, rfl, rfl, rfl⟩)
    · rw [setRow_heap w b _ _ t _ hb]
      subst hl; simp [splice]
    · intro k hk; exact setRow_other w b k _ hk
    · simp

end

/-- 'a[lo:]' of an array behind a pointer, of elements of one cell. -/
theorem run_sliceAt_from {P : Program} (w : World) (t e n : Nat) (ht : P.underlying t = some (.array n e)) (hsz : (P.info? e).map (·.size) = some 1) (b off lo : Nat) (hlo : lo < n) :
    (Instr.sliceAt t (.pointer (some ⟨b, off, none⟩)) (some (.int .i64 (lo : Int))) none none).run P w = .ok (.slice (some ⟨b, off + lo, none⟩) (n - lo) (n - lo)) w := by
  cases hi : P.info? e with
  | none => simp [hi] at hsz
  | some i =>
    have h1 : i.size = 1 := by simpa [hi] using hsz
    have h2 : (0 : Int) ≤ (lo : Int) ∧ (lo : Int) ≤ (n : Int) := by omega
    have h3 : ¬ n = lo := by omega
    have h4 : (Instr.sliceBound (.int .i64 (lo : Int)) n .sliceB).run P w = .ok lo w := by
      simp only [Instr.sliceBound, asIntOf, Sem.run_bind, Sem.run_pure, Result.andThen_ok]
      rw [if_pos h2]; rfl
    simp [Instr.sliceAt, Instr.sureAddr, run_underlying ht, Instr.sliceBounds, h4, sizeOf, typeInfo, hi, h1, h3, Addr.add_lit]

theorem run_equalIn_ints {P : Program} (w : World) (d : Nat) (t e : TypeId) (n : Nat) (k : IntKind) (ht : P.underlying t = some (.array n e)) (he : P.underlying e = some (.int k)) (hsz : ∀ w, (sizeOf e).run P w = .ok 1 w)
    (xs ys : List Int) (hx : xs.length = n) (hy : ys.length = n) :
    (Op.equalIn (d + 2) t (.agg (xs.map (Value.int k)).toArray) (.agg (ys.map (Value.int k)).toArray)).run P w = .ok (xs == ys) w := by
  have hall : ((List.range' 0 n 1).all fun i => xs.getD i 0 == ys.getD i 0) = (xs == ys) := by
    rw [Bool.eq_iff_iff, List.all_eq_true, beq_iff_eq]
    constructor
    · intro h
      apply List.ext_getElem (by omega)
      intro i h1 h2
      have := h i (by rw [List.mem_range'_1]; omega)
      simpa [List.getD, h1, h2] using this
    · intro h i _; subst h; simp
  rw [← hall, Op.equalIn]
  simp only [Sem.run_bind, run_underlying ht, Result.andThen_ok, hsz, Std.Legacy.Range.forIn_eq_forIn_range', Std.Legacy.Range.size, Nat.sub_zero, Nat.add_sub_cancel, Nat.div_one]
  have hl : ∀ i ∈ List.range' 0 n 1, i < n := fun i hi => by simpa using (List.mem_range'_1.1 hi).2
  generalize List.range' 0 n 1 = l at hl ⊢
  clear hall
  induction l with
  | nil => simp
  | cons i l ih =>
    have hi : i < n := hl i (by simp)
    have px : (part e (xs.map (Value.int k)).toArray (i * 1)).run P w = .ok (.int k (xs.getD i 0)) w := by
      simp [part, isAgg, run_underlying he, List.getD, List.getElem?_eq_getElem (show i < xs.length by omega)]
    have py : (part e (ys.map (Value.int k)).toArray (i * 1)).run P w = .ok (.int k (ys.getD i 0)) w := by
      simp [part, isAgg, run_underlying he, List.getD, List.getElem?_eq_getElem (show i < ys.length by omega)]
    have pe : (Op.equalIn (d + 1) e (.int k (xs.getD i 0)) (.int k (ys.getD i 0))).run P w = .ok (xs.getD i 0 == ys.getD i 0) w :=
      run_equalIn_int w d e k k _ _ he
    simp only [List.forIn_cons, Sem.run_bind, px, py, pe, Result.andThen_ok, List.all_cons]
    cases hb : (xs.getD i 0 == ys.getD i 0)
    · simp
    · simp only [Bool.not_true, Bool.false_eq_true, if_false, Sem.run_pure, Result.andThen_ok, Bool.true_and]
      exact ih fun j hj => hl j (by simp [hj])

end Go.Proofs.YtiijfocdjcjlaaaGreat
/- A block that holds records of one size: its form, a record written, a part cleared. -/
namespace Go.Proofs.YtiijfocdjcjlaaaGreat
open Go.RowKit
set_option linter.unusedVariables false
set_option linter.unusedSimpArgs false
section
variable {α : Type} {enc : α → List Value} {n : Nat} {w w1 : World} {l : List α}
/-- block g holds the records l, and junk behind them -/
def RBlk (enc : α → List Value) (w : World) (g : Nat) (E : TypeId) (l : List α) (junk : List Value) : Prop := w.heap[g]? = some (.cells (l.flatMap enc ++ junk).toArray E (0, 0))
theorem RBlk.of_owns (henc : ∀ x, (enc x).length = n) {base E m : Nat} {v : Value} (h : w.ownsRow base E n v m (l.flatMap enc)) (hm : m = l.length) (h0 : 0 < l.length) :
    ∃ g cap junk, v = .slice (some ⟨g, 0, none⟩) l.length cap ∧ base ≤ g ∧ RBlk enc w g E l junk ∧ l.length * n + junk.length = cap * n ∧ l.length ≤ cap ∧ cap ≤ maxLen := by
  subst hm
  rcases h.2 with ⟨_, hz⟩ | ⟨g, cap, cur, rfl, hg, hh, hn, hmx, hs, ht⟩
  · omega
  · have e : cur = (l.flatMap enc ++ cur.toList.drop (l.length * n)).toArray := by rw [← ht, List.take_append_drop, Array.toArray_toList]
    refine ⟨g, cap, cur.toList.drop (l.length * n), rfl, hg, by unfold RBlk; rw [← e]; exact hh, ?_, hn, hmx⟩
    have h2 : l.length * n ≤ cap * n := Nat.mul_le_mul_right n hn
    simp; omega
theorem RBlk.lt {g E : Nat} {junk : List Value} (h : RBlk enc w g E l junk) : g < w.heap.size := (Array.getElem?_eq_some_iff.1 h).1
theorem RBlk.cells {g E : Nat} {junk : List Value} (henc : ∀ x, (enc x).length = n) (h : RBlk enc w g E l junk) {k : Nat} (hk : k < l.length) : Cells w g (k * n) (enc l[k]) := by
  intro j hj
  have hj2 : j < n := by rw [← henc l[k]]; exact hj
  have h1 := flat_at henc l k hk j hj2
  have hlt : k * n + j < (l.flatMap enc).length := by
    rw [List.getElem?_eq_getElem hj] at h1
    exact (List.getElem?_eq_some_iff.1 h1).1
  have h2 := Cells.of_block h (k * n + j) (by rw [List.length_append]; omega)
  rw [Nat.zero_add] at h2
  rw [h2, List.getElem_append_left hlt]
  rw [List.getElem?_eq_getElem hlt, List.getElem?_eq_getElem hj] at h1
  exact h1
theorem RBlk.rsl {g E cap : Nat} {junk : List Value} (henc : ∀ x, (enc x).length = n) (h : RBlk enc w g E l junk) (hc : l.length ≤ cap) : RSl enc n w (.slice (some ⟨g, 0, none⟩) l.length cap) l :=
  ⟨_, cap, rfl, hc, fun k hk => ⟨g, 0, rfl, h.lt, by rw [Nat.zero_add]; exact h.cells henc hk⟩⟩
theorem flat_splice (henc : ∀ x, (enc x).length = n) : ∀ (l : List α) (i : Nat) (hi : i < l.length) (y : α) (junk : List Value), splice (l.flatMap enc ++ junk) (i * n) (enc y) = (l.set i y).flatMap enc ++ junk
  | [], i, hi, y, junk => by cases hi
  | x :: l, 0, hi, y, junk => by
    simp only [splice, Nat.zero_mul, List.take_zero, List.nil_append, Nat.zero_add, List.set_cons_zero, List.flatMap_cons, List.append_assoc, henc y]
    rw [List.drop_append_of_le_length (by rw [henc]; exact Nat.le_refl _), List.drop_of_length_le (by rw [henc]; exact Nat.le_refl _)]
    simp
  | x :: l, i + 1, hi, y, junk => by
    have ih := flat_splice henc l i (by simpa using hi) y junk
    simp only [splice, henc y] at ih ⊢
    simp only [List.set_cons_succ, List.flatMap_cons, List.append_assoc]
    rw [← ih]
    have e : (i + 1) * n = (enc x).length + i * n := by rw [henc, Nat.add_mul]; omega
    rw [e, Nat.add_assoc, List.take_length_add_append, List.drop_length_add_append, List.append_assoc]
end
theorem flat_set1 : ∀ (l : List Int) (i : Nat) (hi : i < l.length) (y : Int) (junk : List Value), (l.flatMap oneV ++ junk).set i (.int .i64 y) = (l.set i y).flatMap oneV ++ junk
  | [], i, hi, y, junk => by cases hi
  | x :: l, 0, hi, y, junk => by simp [oneV]
  | x :: l, i + 1, hi, y, junk => by
    have ih := flat_set1 l i (by simpa using hi) y junk
    simp only [List.flatMap_cons, List.set_cons_succ, oneV, List.cons_append, List.nil_append] at ih ⊢
    rw [ih]
section
variable {P : Program} {ops : Array Oper} {rest : List Oper} {o : Oper} {a : Act} {Q : Exit → Act → World → Prop} {w : World}
/-- clear(s) at elements of any size: the row, the world a letter -/
theorem wpList_clear_rows (hgd : Region.wanted o (yielded ops a.tmps) = true) (x : Operand) {t e n : Nat} (ho : o.op = .call { callee := .builtin .clear, args := #[x], argTypes := #[t] }) (ht : P.underlying t = some (.slice e)) {z : Value}
    (hz : ∀ w, (zeroValue e).run P w = .ok z w) (hzc : z.cells.size = n) (h1 : ∀ u ∈ z.cells.toList, u.oneCell' = true) (b off m c : Nat) (hx : a.eval x = .slice (some ⟨b, off, none⟩) m c) (cur : List Value) (et : TypeId) (hb : w.heap[b]? = some (.cells cur.toArray et (0, 0))) (hfit : off + m * n ≤ cur.length)
    (h : ∀ w1 zs, zs.length = m * n → Wrote w w1 b (splice cur off zs) et → wpList P ops Q rest (a.put o.dst (.tuple #[])) w1) : wpList P ops Q (o :: rest) a w := by
  refine BigFrame.wpList_want hgd fun K hK => ?_
  have hzl : (Builtin.zeroCells z.cells m).toList.length = m * n := by simp [Builtin.zeroCells, hzc]
  have hst := run_storeCells_at P b off et (Builtin.zeroCells z.cells m).toList 0 cur.toArray w hb (by rw [hzl]; simpa using hfit) (by
    intro v hv
    simp only [Builtin.zeroCells, Array.toList_map, List.mem_map, Array.mem_toList_iff, Array.mem_range] at hv
    obtain ⟨i, hi, rfl⟩ := hv
    have hp : 0 < z.cells.size := by
      rcases Nat.eq_zero_or_pos z.cells.size with h0 | h0
      · rw [h0, Nat.mul_zero] at hi; omega
      · exact h0
    have hlt := Nat.mod_lt i hp
    rw [getElem!_pos z.cells _ hlt]
    exact h1 _ (by simp))
  unfold Oper.wp execOp
  rcases m with _ | m
  · simp [ho, resolve, invoke, builtin, hx, Builtin.clear_, run_underlying ht]
    refine hK _ _ (h w [] (by simp) ?_)
    simp only [splice, List.length_nil, Nat.add_zero, List.nil_append, List.take_append_drop]
    exact ⟨hb, fun _ _ => rfl, rfl, rfl, rfl, rfl⟩
  · simp only [ho, resolve, invoke, builtin, Sem.run_bind, Sem.run_pure, Result.andThen_ok, List.map_toArray, List.map_cons, List.map_nil, hx, Builtin.clear_, run_underlying ht, hz, hst, List.getElem?_toArray, List.getElem?_cons_zero]
    refine hK _ _ (h _ _ hzl ⟨?_, ?_, ?_, rfl, rfl, rfl⟩)
    · rw [setRow_heap w b _ _ et _ hb]
      simp [splice]
    · intro k hk; exact setRow_other w b k _ hk
    · simp
end
end Go.Proofs.YtiijfocdjcjlaaaGreat
/- A state's cells; find. -/
namespace Go.Proofs.YtiijfocdjcjlaaaGreat
open Go.RowKit
set_option linter.unusedVariables false
set_option linter.unusedSimpArgs false
set_option maxRecDepth 100000
set_option maxHeartbeats 1000000
section
variable {P : Program} {ops : Array Oper} {rest : List Oper} {o : Oper} {a : Act} {w : World} {Q : Exit → Act → World → Prop}
/-- a parameter of many cells that lies in a block of its own; the world a letter -/
theorem wpList_box_rowS (hgd : Region.wanted o (yielded ops a.tmps) = true) (T : TypeId) (x : Operand) (ho : o.op = .box T x) (zs : List Value) (hx : a.eval x = .agg zs.toArray)
    (h : ∀ w1, Hid (w1.heap[w.heap.size]? = some (.cells zs.toArray T (0, 0))) → w1.heap.size = w.heap.size + 1 → Kept w w1 → wpList P ops Q rest (a.put o.dst (.pointer (some ⟨w.heap.size, 0, none⟩))) w1) : wpList P ops Q (o :: rest) a w := by
  refine BigFrame.wpList_want hgd fun K hK => ?_
  unfold Oper.wp execOp
  simp only [ho, hx, Instr.box, newVar, newRow, Sem.run_bind, Result.andThen_ok, Sem.run_pure, run_newObj_alloc, Value.cells]
  exact hK _ _ (h _ (Lib.hid (heap_alloc_new w _)) (World.size_alloc _ _) ((Kept.refl _).alloc _))
end
theorem agT_state : AggT Tryz.prog 31 136 := ⟨⟨_, Tryz.underlying31, rfl⟩, by kernel_rfl⟩
/-- a state's cells: how many blocks, the slices of members, groups, places, dirty groups, then the hole's 131 cells -/
def stv (bl : Int) (sm sg sp sd : Value) (pl : List Value) : List Value := .int .i64 bl :: sm :: sg :: sp :: sd :: pl
theorem stv_len {bl : Int} {sm sg sp sd : Value} {pl : List Value} (h : pl.length = 131) : (stv bl sm sg sp sd pl).length = 136 := by simp [stv, h]
/-- where in a block a state's cells lie, what each of the first five reads -/
theorem stv_cells {W : World} {b : Nat} {bl : Int} {sm sg sp sd : Value} {pl : List Value} (h : Cells W b 0 (stv bl sm sg sp sd pl)) :
    W.cell? ⟨b, 0, none⟩ = some (.int .i64 bl) ∧ W.cell? ⟨b, 1, none⟩ = some sm ∧ W.cell? ⟨b, 2, none⟩ = some sg ∧ W.cell? ⟨b, 3, none⟩ = some sp ∧ W.cell? ⟨b, 4, none⟩ = some sd :=
  ⟨h 0 (by simp [stv]), h 1 (by simp [stv]), h 2 (by simp [stv]), h 3 (by simp [stv]), h 4 (by simp [stv])⟩
theorem find1 (x : Gw) (id : Int) (ib : Nat) (w : World) (hc : w.cell? ⟨ib, 0, none⟩ = some (.int .i64 id)) :
    Calls Tryz.prog 51 #[.agg (grw x).toArray, .pointer (some ⟨ib, 0, none⟩)] w fun e w' => e = .returned (.bool (x.1 == id)) ∧ Kept w w' := by
  have hB : ∀ o, Kept w (w.alloc o) := fun o => (Kept.refl _).alloc o
  have HB := Lib.hid hB; clear hB
  have hlt := World.block_lt_of_cell? _ _ hc
  simp only [grw]
  go_enter Tryz.func51, Tryz.ntmps51
  go_wp2
  go_ret
  exact ⟨rfl, HB.out _⟩
/-- the group's row in the groups' slice, or nil -/
def findP (gl : List Gw) (oa : Option Addr) (id : Int) : Value :=
  match gl.findIdx? (fun g => g.1 == id), oa with
  | some k, some a => .pointer (some ⟨a.block, a.off + k * 3, none⟩)
  | _, _ => .pointer none
theorem idxF_plain0 {α σ : Type} (p : α → Bool) (s : σ) (l : List α) : (idxF (fun s x => (p x, s)) s l 0).1 = idxP p l := by
  rw [idxF_plain p s l 0]
  rcases idxP_cases p l with ⟨e, _⟩ | ⟨j, _, e, _⟩
  · simp [e]
  · have h3 : ((j : Int) = -1) = False := by simp
    simp [e, h3]
theorem findP_cases (gl : List Gw) (oa : Option Addr) (id : Int) : (idxP (fun g : Gw => g.1 == id) gl = -1 ∧ findP gl oa id = .pointer none) ∨ ∃ k, ∃ hk : k < gl.length, idxP (fun g : Gw => g.1 == id) gl = (k : Int) ∧ ∀ a, oa = some a → findP gl oa id = .pointer (some ⟨a.block, a.off + k * 3, none⟩) := by
  unfold idxP findP
  cases h : gl.findIdx? (fun g => g.1 == id) with
  | none => exact .inl ⟨rfl, rfl⟩
  | some k =>
    refine .inr ⟨k, (List.findIdx?_eq_some_iff_getElem.1 h).1, rfl, fun a ha => by subst ha; rfl⟩
theorem st_find (bl : Int) (sm sp sd : Value) (pl : List Value) (hpl : pl.length = 131) (gl : List Gw) (oa : Option Addr) (cap : Nat) (id : Int) (w : World) (hlen : gl.length ≤ 4096) (hg : RSl grw 3 w (.slice oa gl.length cap) gl) :
    Calls Tryz.prog 20 #[.agg (stv bl sm (.slice oa gl.length cap) sp sd pl).toArray, .int .i64 id] w fun e w' => e = .returned (findP gl oa id) ∧ Kept w w' := by
  have HG := Lib.hid hg; clear hg
  go_enter Tryz.func20, Tryz.ntmps20
  go_wp2_with (refine stop_at (o := ⟨some 2, _, _, _, _, _⟩) ?_)
  refine Stop.mk ?_
  refine wpList_box_rowS rfl _ _ rfl (stv bl sm (.slice oa gl.length cap) sp sd pl) rfl ?_
  intro w1 hz1 hs1 hk1
  obtain ⟨_, _, c2, _, _⟩ := stv_cells (Cells.of_block hz1.out)
  have HK1 := Lib.hid hk1; clear hz1 hk1
  generalize hX : w.heap.size = X at *
  have HX := Lib.hid hX; clear hX
  have hc := fun (W : World) (hk : Kept w W) (hi : W.cell? ⟨X + 1, 0, none⟩ = some (.int .i64 id)) =>
    idx_g (fun (s : Unit) (x : Gw) => (x.1 == id, s)) (fun _ W' => Kept W W') (fun _ => False) () gl 51 #[] #[.pointer (some ⟨X + 1, 0, none⟩)] _ W hlen (fun _ W' h => HG.out.kept (hk.trans h)) (Kept.refl W)
      ⟨fun _ _ => rfl, fun s x w2 h => (find1 x id (X + 1) w2 (h.cell' hi)).mono (by rintro e w3 ⟨rfl, hk3⟩; exact ⟨rfl, h.trans hk3, KeptX.of hk3⟩)⟩
  have HC := Lib.hid hc; clear hc
  rcases findP_cases gl oa id with ⟨hi, hf⟩ | ⟨k, hk, hi, hf⟩
  · have HF := Lib.hid hf; clear hf
    have hC := HC.out
    rw [idxF_plain0, hi] at hC
    have HCC := Lib.hid hC; clear hC HC hi
    go_wp2_with (go_at_call 50; refine (HCC.out _ (HK1.out.alloc _) (by rw [← hs1]; unfold World.cell?; rw [show ∀ o, (w1.alloc o).heap[(⟨w1.heap.size, 0, none⟩ : Addr).block]? = some o from fun o => heap_alloc_new w1 o]; rfl)).mono ?_; rintro e w' ⟨rfl, hk2, _⟩)
    go_ret
    exact ⟨by rw [HF.out]; rfl, (HK1.out.alloc _).trans hk2⟩
  · obtain ⟨b, off, rfl, _, _⟩ := HG.out.at hk
    have HF := Lib.hid (hf _ rfl); clear hf
    have hC := HC.out
    rw [idxF_plain0, hi] at hC
    have HCC := Lib.hid hC; clear hC HC hi
    go_wp2_with (go_at_call 50; refine (HCC.out _ (HK1.out.alloc _) (by rw [← hs1]; unfold World.cell?; rw [show ∀ o, (w1.alloc o).heap[(⟨w1.heap.size, 0, none⟩ : Addr).block]? = some o from fun o => heap_alloc_new w1 o]; rfl)).mono ?_; rintro e w' ⟨rfl, hk2, _⟩; replace c2 := hk2.cell' (((Kept.refl w1).alloc _).cell' c2))
    go_ret
    exact ⟨by rw [HF.out]; rfl, (HK1.out.alloc _).trans hk2⟩
end Go.Proofs.YtiijfocdjcjlaaaGreat
/- Groups in memory; state.place. -/
namespace Go.Proofs.YtiijfocdjcjlaaaGreat
open Go.RowKit
set_option linter.unusedVariables false
set_option linter.unusedSimpArgs false
set_option maxRecDepth 100000
set_option maxHeartbeats 1000000
/-- a group's row says g -/
structure GRel (W : World) (x : Gw) (g : Grp) : Prop where
  id : x.1 = g.id
  kind : x.2.1 = g.kind
  ext : RSl pairV 2 W x.2.2 g.ext
  few : g.ext.length ≤ 4096
theorem GRel.kept {W W' : World} {x : Gw} {g : Grp} (h : GRel W x g) (hk : Kept W W') : GRel W' x g := ⟨h.id, h.kind, h.ext.kept hk, h.few⟩
/-- the rows say the groups -/
structure GRels (W : World) (raw : List Gw) (gs : List Grp) : Prop where
  len : raw.length = gs.length
  at_ : ∀ k (h : k < raw.length) (h' : k < gs.length), GRel W raw[k] gs[k]
theorem GRels.kept {W W' : World} {raw : List Gw} {gs : List Grp} (h : GRels W raw gs) (hk : Kept W W') : GRels W' raw gs := ⟨h.len, fun k h1 h2 => (h.at_ k h1 h2).kept hk⟩
theorem GRels.tail {W : World} {x : Gw} {raw : List Gw} {g : Grp} {gs : List Grp} (h : GRels W (x :: raw) (g :: gs)) : GRels W raw gs :=
  ⟨by simpa using h.len, fun k h1 h2 => h.at_ (k + 1) (by simpa using h1) (by simpa using h2)⟩
/-- the first with that number, in both -/
theorem GRels.find {W : World} : ∀ {raw : List Gw} {gs : List Grp} (h : GRels W raw gs) (id : Int),
    (raw.findIdx? (fun g => g.1 == id) = none ∧ gs.find? (fun g => g.id == id) = none) ∨ ∃ k, ∃ (h1 : k < raw.length) (h2 : k < gs.length), raw.findIdx? (fun g => g.1 == id) = some k ∧ gs.find? (fun g => g.id == id) = some gs[k]
  | [], [], _, _ => .inl ⟨rfl, rfl⟩
  | x :: raw, [], h, _ => by have := h.len; simp at this
  | [], g :: gs, h, _ => by have := h.len; simp at this
  | x :: raw, g :: gs, h, id => by
    have h0 := (h.at_ 0 (by simp) (by simp)).id
    simp only [List.getElem_cons_zero] at h0
    rw [List.findIdx?_cons, List.find?_cons, h0]
    cases hc : (g.id == id) with
    | true => exact .inr ⟨0, by simp, by simp, by simp, by simp⟩
    | false =>
      rcases GRels.find h.tail id with ⟨e1, e2⟩ | ⟨k, h1, h2, e1, e2⟩
      · exact .inl ⟨by simp [e1], by simp [e2]⟩
      · exact .inr ⟨k + 1, by simpa using h1, by simpa using h2, by simp [e1], by simp [e2]⟩
def placeG (gs : List Grp) (w : Wh) : Bool :=
  match gs.find? (fun g => g.id == w.2.1) with
  | none => false
  | some g => g.kind == w.1 && inN w.2.2 0 (slotsG g - 1)
theorem placeG_eq (s : St) (w : Wh) : placeG s.gs w = placeB s w := rfl
theorem st_place (bl : Int) (sm sp sd : Value) (pl : List Value) (hpl : pl.length = 131) (raw : List Gw) (gs : List Grp) (oa : Option Addr) (cap : Nat) (x : Wh) (w : World) (hlen : raw.length ≤ 4096) (hg : RSl grw 3 w (.slice oa raw.length cap) raw) (hr : GRels w raw gs) :
    Calls Tryz.prog 72 #[.agg (stv bl sm (.slice oa raw.length cap) sp sd pl).toArray, .agg (trip x).toArray] w fun e w' => e = .returned (.bool (placeG gs x)) ∧ Kept w w' := by
  have hF := fun (W : World) (hk : Kept w W) => st_find bl sm sp sd pl hpl raw oa cap x.2.1 W hlen (hg.kept hk)
  have HF := Lib.hid hF; clear hF
  have HL := Lib.hid (stv_len (bl := bl) (sm := sm) (sg := .slice oa raw.length cap) (sp := sp) (sd := sd) hpl)
  have HG := Lib.hid hg; clear hg
  have hfind := hr.find x.2.1
  have HR := Lib.hid hr; clear hr
  simp only [trip]
  go_enter Tryz.func72, Tryz.ntmps72
  go_wp2_with (refine stop_at (o := ⟨some 2, _, _, _, _, _⟩) ?_)
  refine Stop.mk ?_
  refine wpList_box_rowS rfl _ _ rfl (stv bl sm (.slice oa raw.length cap) sp sd pl) rfl ?_
  intro w1 hz1 hs1 hk1
  have hcs := Cells.of_block hz1.out
  have HCS := Lib.hid hcs
  have HK1 := Lib.hid hk1; clear hz1 hk1 hcs
  generalize hX : w.heap.size = X at *
  have HX := Lib.hid hX; clear hX
  rcases hfind with ⟨e1, e2⟩ | ⟨k, h1, h2, e1, e2⟩
  · have hp : placeG gs x = false := by unfold placeG; rw [e2]
    have hfp : findP raw oa x.2.1 = .pointer none := by unfold findP; rw [e1]
    have HP := Lib.hid hp
    rw [hfp] at HF
    clear hp hfp e1 e2
    go_upto_region 2 with (first
      | (refine wpList_load_agg (o := ⟨some 7, .load _ _, _, _, _, _⟩) rfl _ rfl agT_state X 0 rfl _ (HCS.out.kept ((Kept.refl w1).alloc _)) HL.out ?_)
      | (go_at_call 20; refine (HF.out _ (HK1.out.alloc _)).mono ?_; rintro e w' ⟨rfl, hk2⟩))
    have hk3 := (HK1.out.alloc _).trans hk2
    go_quiet (fail)
    go_wp2
    go_ret
    exact ⟨by rw [HP.out]; rfl, hk3.drewN _⟩
  · obtain ⟨b, off, rfl, hb, hcs⟩ := HG.out.at h1
    have hrel := HR.out.at_ k h1 h2
    have hp : placeG gs x = (gs[k].kind == x.1 && inN x.2.2 0 (slotsG gs[k] - 1)) := by unfold placeG; rw [e2]
    have hfp : findP raw (some ⟨b, off, none⟩) x.2.1 = .pointer (some ⟨b, off + k * 3, none⟩) := by unfold findP; rw [e1]
    have HP := Lib.hid hp
    rw [hfp] at HF
    clear hp hfp e1 e2
    obtain ⟨oe, ce, hext, _⟩ := hrel.ext.form
    have hfew := hrel.few
    have hd1 := hcs 1 (by rw [grw_len]; decide)
    have hd2 := hcs 2 (by rw [grw_len]; decide)
    simp only [grw, List.getElem_cons_zero, List.getElem_cons_succ] at hd1 hd2
    rw [hrel.kind] at hd1
    rw [hext] at hd2
    clear hcs hext hrel
    generalize hgk : gs[k] = gk at *
    have HGK := Lib.hid hgk; clear hgk
    obtain ⟨gid, gkind, gext⟩ := gk
    simp only at hd1 hd2 hfew
    have hD1 := Lib.hid hd1; have hD2 := Lib.hid hd2; clear hd1 hd2
    go_upto_region 2 with (first
      | (refine wpList_load_agg (o := ⟨some 7, .load _ _, _, _, _, _⟩) rfl _ rfl agT_state X 0 rfl _ (HCS.out.kept ((Kept.refl w1).alloc _)) HL.out ?_)
      | (go_at_call 20; refine (HF.out _ (HK1.out.alloc _)).mono ?_; rintro e w' ⟨rfl, hk2⟩))
    have hk3 := (HK1.out.alloc _).trans hk2
    have d1 := hk3.cell' hD1.out
    have d2 := hk3.cell' hD2.out
    have hnew : ∀ o, (w1.alloc o).heap[(⟨w1.heap.size, 0, none⟩ : Addr).block]? = some o := fun o => heap_alloc_new w1 o
    have x0 : w'.cell? ⟨X + 1, 0, none⟩ = some (.int .i64 x.1) := hk2.cell' (by rw [← hs1]; unfold World.cell?; rw [hnew]; rfl)
    have x2 : w'.cell? ⟨X + 1, 2, none⟩ = some (.int .i64 x.2.2) := hk2.cell' (by rw [← hs1]; unfold World.cell?; rw [show ∀ o, (w1.alloc o).heap[(⟨w1.heap.size, 2, none⟩ : Addr).block]? = some o from fun o => heap_alloc_new w1 o]; rfl)
    clear hnew hk2
    have HK3 := Lib.hid hk3; clear hk3
    cases hkx : (gkind == x.1) with
    | false =>
      have hnx : (gkind != x.1) = true := by rw [bne, hkx]; rfl
      have HP' := Lib.hid (show placeG gs x = false by rw [HP.out, hkx]; rfl)
      clear HP hkx
      go_quiet (fail)
      go_wp2
      go_ret
      exact ⟨by rw [HP'.out]; rfl, HK3.out.drewN _⟩
    | true =>
      have hnx : (gkind != x.1) = false := by rw [bne, hkx]; rfl
      have HP' := Lib.hid (show placeG gs x = inN x.2.2 0 (slotsG ⟨gid, gkind, gext⟩ - 1) by rw [HP.out, hkx]; rfl)
      clear HP hkx
      cases hk2 : (gkind == 2) with
      | false =>
        have HS := Lib.hid (show slotsG ⟨gid, gkind, gext⟩ = 8 by simp [slotsG, hk2])
        go_quiet (fail)
        go_wp2_with (go_at_call 21; refine (st_in _ _ _ _).mono ?_; rintro e w2 ⟨rfl, rfl⟩)
        go_ret
        exact ⟨by rw [HP'.out, HS.out]; rfl, HK3.out.drewN _⟩
      | true =>
        have HS := Lib.hid (show slotsG ⟨gid, gkind, gext⟩ = 8 * ((gext.length : Int) - 1) by simp [slotsG, hk2])
        go_quiet (fail)
        go_wp2_with (go_at_call 21; refine (st_in _ _ _ _).mono ?_; rintro e w2 ⟨rfl, rfl⟩)
        go_ret
        exact ⟨by rw [HP'.out, HS.out]; rfl, HK3.out.drewN _⟩
end Go.Proofs.YtiijfocdjcjlaaaGreat
/- IndexFunc, ContainsFunc, not, all at []braidwork/api.Group, with any function value (XFag with the groups that the rows say). -/
namespace Go.Proofs.YtiijfocdjcjlaaaGreat
open Go.RowKit
set_option linter.unusedVariables false
set_option linter.unusedSimpArgs false
set_option maxRecDepth 100000
set_option maxHeartbeats 1000000
/-- a group's row and the group that it says -/
def Gr (w0 : World) : Type := { p : Gw × Grp // GRel w0 p.1 p.2 }
def grR {w0 : World} (x : Gr w0) : List Value := grw x.1.1
theorem grR_len {w0 : World} (x : Gr w0) : (grR x).length = 3 := rfl

theorem idx_r {σ : Type} {w0 : World} (h : σ → Gr w0 → Bool × σ) (I : σ → World → Prop) (T : Nat → Prop) (s : σ) (l : List (Gr w0)) (g : Nat) (bd caps : Array Value) (v : Value) (w : World) (hlen : l.length ≤ 4096)
    (hm : ∀ s w, I s w → RSl grR 3 w v l) (hs : I s w) (hf : FnI Tryz.prog g bd caps (fun x => .agg (grR x).toArray) h I T) :
    Calls Tryz.prog 50 #[v, .func (.func g) bd caps] w fun e w' => e = .returned (.int .i64 (idxF h s l 0).1) ∧ I (idxF h s l 0).2 w' ∧ KeptX T w w' := by
  have hent := hf.ent
  obtain ⟨oa, cap, rfl, hcap⟩ := (hm s w hs).form
  have HM := Lib.hid hm; clear hm
  have HF := Lib.hid hf; clear hf
  go_enter Tryz.func50, Tryz.ntmps50
  go_wp2
  go_loopw [8] (fun i wr => ∃ k : Nat, k ≤ l.length ∧ i = .int .i64 k ∧ ∃ s1, I s1 wr ∧ KeptX T w wr ∧ idxF h s l 0 = idxF h s1 (l.drop k) k) (fun i _ => l.length - (intOf i).toNat)
  case atStart => exact ⟨0, Nat.zero_le _, rfl, s, hs, KeptX.refl _, rfl⟩
  case round =>
    obtain ⟨k, hk, rfl, s1, hs1, hbel, hno⟩ := hrel
    have HN := Lib.hid hno; clear hno
    by_cases hlt : k < l.length
    · obtain ⟨b, off, rfl, hb, hcs⟩ := (HM.out _ _ hs1).at hlt
      have h0 := hcs 0 (by rw [grR_len]; decide)
      have h1 := hcs 1 (by rw [grR_len]; decide)
      have h2 := hcs 2 (by rw [grR_len]; decide)
      simp only [Nat.add_zero, Nat.mul_one, grR, grw, List.getElem_cons_zero, List.getElem_cons_succ] at h0 h1 h2
      clear hcs
      have hC := HF.out.call s1 l[k] _ hs1
      try dsimp only at hC
      try simp only [grR, grw] at hC
      cases hp : (h s1 l[k]).1 with
      | true =>
        have HP := Lib.hid hp
        simp only [hp] at hC
        clear hp
        go_wp2_with (refine hC.mono ?_; rintro e w' ⟨rfl, hi1, hb1⟩)
        go_ret
        exact ⟨by rw [HN.out, idxF_hit hlt HP.out]; rfl, by rw [HN.out, idxF_hit hlt HP.out]; exact hi1, hbel.trans hb1⟩
      | false =>
        have HP := Lib.hid hp
        simp only [hp] at hC
        clear hp
        go_wp2_with (refine hC.mono ?_; rintro e w' ⟨rfl, hi1, hb1⟩)
        go_roundw
        case rel => exact ⟨k + 1, by omega, by go_num, _, hi1, hbel.trans hb1, by rw [HN.out, idxF_miss hlt HP.out]⟩
        case measure => simp [intOf]; omega
    · have e := idxF_end (h := h) (s := s1) (l := l) (k := k) (by omega)
      have HE := Lib.hid e; clear e
      go_wp2
      go_ret
      exact ⟨by rw [HN.out, HE.out]; rfl, by rw [HN.out, HE.out]; exact hs1, hbel⟩
theorem con_r {σ : Type} {w0 : World} (h : σ → Gr w0 → Bool × σ) (I : σ → World → Prop) (T : Nat → Prop) (s : σ) (l : List (Gr w0)) (g : Nat) (bd caps : Array Value) (v : Value) (w : World) (hlen : l.length ≤ 4096)
    (hm : ∀ s w, I s w → RSl grR 3 w v l) (hs : I s w) (hf : FnI Tryz.prog g bd caps (fun x => .agg (grR x).toArray) h I T) :
    Calls Tryz.prog 64 #[v, .func (.func g) bd caps] w fun e w' => e = .returned (.bool (anyF h s l).1) ∧ I (anyF h s l).2 w' ∧ KeptX T w w' := by
  have hC := idx_r h I T s l g bd caps v w hlen hm hs hf
  clear hm hs hf
  go_enter Tryz.func64, Tryz.ntmps64
  go_wp2_with (go_at_call 50; refine hC.mono ?_; rintro e w' ⟨rfl, hi1, hb1⟩)
  go_ret
  exact ⟨rfl, hi1, hb1⟩
/-- the function value that stands in the first cell of a block -/
def Heldr (nb g : Nat) (bd caps : Array Value) (w : World) : Prop := w.cell? ⟨nb, 0, none⟩ = some (.func (.func g) bd caps)
theorem not1_r {σ : Type} {w0 : World} (h : σ → Gr w0 → Bool × σ) (I : σ → World → Prop) (T : Nat → Prop) (g nb : Nat) (bd caps : Array Value) (hA : ∀ s w o, I s w → I s (w.alloc o)) (hT : ¬ T nb)
    (hf : FnI Tryz.prog g bd caps (fun x => .agg (grR x).toArray) h I T) :
    FnI Tryz.prog 98 #[] #[.pointer (some ⟨nb, 0, none⟩)] (fun x => .agg (grR x).toArray) (notF h) (fun s w => I s w ∧ Heldr nb g bd caps w) T := by
  refine ⟨fun xs w1 => rfl, fun s x w1 hs => ?_⟩
  obtain ⟨hs, hh⟩ := hs
  have hent := hf.ent
  have HF := Lib.hid hf; clear hf
  have HA := Lib.hid hA; clear hA
  have hh0 := hh
  unfold Heldr at hh0
  have hlt := World.block_lt_of_cell? _ _ hh0
  have hC := fun o => HF.out.call s x _ (HA.out _ _ o hs)
  try dsimp only at hC
  try simp only [grR, grw] at hC
  show Calls Tryz.prog 98 #[.agg (grR x).toArray, .pointer (some ⟨nb, 0, none⟩)] w1 _
  have hB : ∀ o, KeptX T w1 (w1.alloc o) := fun o => KeptX.of ((Kept.refl _).alloc o)
  have HB := Lib.hid hB; clear hB
  try simp only [grR, grw]
  go_enter Tryz.func98, Tryz.ntmps98
  go_wp2_with (refine (hC _).mono ?_; rintro e w' ⟨rfl, hi1, hb1⟩)
  go_ret
  exact ⟨rfl, ⟨hi1, (HB.out _ |>.trans hb1).cell hh hT⟩, HB.out _ |>.trans hb1⟩
theorem not_r {σ : Type} {w0 : World} (h : σ → Gr w0 → Bool × σ) (I : σ → World → Prop) (T : Nat → Prop) (s : σ) (g : Nat) (bd caps : Array Value) (w : World) (hS : ∀ o, I s (w.alloc o)) :
    Calls Tryz.prog 65 #[.func (.func g) bd caps] w fun e w' => e = .returned (.func (.func 98) #[] #[.pointer (some ⟨w.heap.size, 0, none⟩)]) ∧ (I s w' ∧ Heldr w.heap.size g bd caps w') ∧ KeptX T w w' := by
  have HS := Lib.hid hS; clear hS
  have hB : ∀ o, KeptX T w (w.alloc o) := fun o => KeptX.of ((Kept.refl _).alloc o)
  have HB := Lib.hid hB; clear hB
  go_enter Tryz.func65, Tryz.ntmps65
  go_wp2
  go_ret
  refine ⟨rfl, ⟨HS.out _, ?_⟩, HB.out _⟩
  unfold Heldr
  unfold World.cell?
  rw [show ∀ o, (w.alloc o).heap[(⟨w.heap.size, 0, none⟩ : Addr).block]? = some o from fun o => heap_alloc_new w o]
  rfl
theorem all_r {σ : Type} {w0 : World} (h : σ → Gr w0 → Bool × σ) (I : σ → World → Prop) (T : Nat → Prop) (s : σ) (l : List (Gr w0)) (g : Nat) (bd caps : Array Value) (v : Value) (w : World) (hlen : l.length ≤ 4096)
    (hA : ∀ s w o, I s w → I s (w.alloc o)) (hT : ∀ b, T b → b < w.heap.size)
    (hm : ∀ s w, I s w → RSl grR 3 w v l) (hs : I s w) (hf : FnI Tryz.prog g bd caps (fun x => .agg (grR x).toArray) h I T) :
    Calls Tryz.prog 28 #[v, .func (.func g) bd caps] w fun e w' => e = .returned (.bool (allF h s l).1) ∧ I (allF h s l).2 w' ∧ KeptX T w w' := by
  have hn := not1_r h I T g w.heap.size bd caps hA (fun hx => Nat.lt_irrefl _ (hT _ hx)) hf
  have hC := fun w0 h1 => con_r (notF h) (fun s w1 => I s w1 ∧ Heldr w.heap.size g bd caps w1) T s l _ _ _ v w0 hlen (fun s w h => hm s w h.1) h1 hn
  have HC := Lib.hid hC; clear hC
  have hS : ∀ o, I s (w.alloc o) := fun o => hA _ _ _ hs
  have HS := Lib.hid hS; clear hS
  clear hm hs hf hn hA hT
  go_enter Tryz.func28, Tryz.ntmps28
  go_wp2_with (first | (go_at_call 65; refine (not_r h I T s g bd caps w HS.out).mono ?_; rintro e w' ⟨rfl, hi0, hb0⟩) | (go_at_call 64; refine (HC.out _ hi0).mono ?_; rintro e w' ⟨rfl, hi1, hb1⟩))
  go_ret
  exact ⟨rfl, hi1.1, hb0.trans hb1⟩
end Go.Proofs.YtiijfocdjcjlaaaGreat
/- IndexFunc, ContainsFunc, not, all at []braidwork/api.Extent, with any function value (gen_fam.py x). -/
namespace Go.Proofs.YtiijfocdjcjlaaaGreat
open Go.RowKit
set_option linter.unusedVariables false
set_option linter.unusedSimpArgs false
set_option maxRecDepth 100000
set_option maxHeartbeats 1000000

theorem idx_x {σ : Type} (h : σ → Ex → Bool × σ) (I : σ → World → Prop) (T : Nat → Prop) (s : σ) (l : List Ex) (g : Nat) (bd caps : Array Value) (v : Value) (w : World) (hlen : l.length ≤ 4096)
    (hm : ∀ s w, I s w → RSl pairV 2 w v l) (hs : I s w) (hf : FnI Tryz.prog g bd caps (fun x => .agg (pairV x).toArray) h I T) :
    Calls Tryz.prog 121 #[v, .func (.func g) bd caps] w fun e w' => e = .returned (.int .i64 (idxF h s l 0).1) ∧ I (idxF h s l 0).2 w' ∧ KeptX T w w' := by
  have hent := hf.ent
  obtain ⟨oa, cap, rfl, hcap⟩ := (hm s w hs).form
  have HM := Lib.hid hm; clear hm
  have HF := Lib.hid hf; clear hf
  go_enter Tryz.func121, Tryz.ntmps121
  go_wp2
  go_loopw [8] (fun i wr => ∃ k : Nat, k ≤ l.length ∧ i = .int .i64 k ∧ ∃ s1, I s1 wr ∧ KeptX T w wr ∧ idxF h s l 0 = idxF h s1 (l.drop k) k) (fun i _ => l.length - (intOf i).toNat)
  case atStart => exact ⟨0, Nat.zero_le _, rfl, s, hs, KeptX.refl _, rfl⟩
  case round =>
    obtain ⟨k, hk, rfl, s1, hs1, hbel, hno⟩ := hrel
    have HN := Lib.hid hno; clear hno
    by_cases hlt : k < l.length
    · obtain ⟨b, off, rfl, hb, hcs⟩ := (HM.out _ _ hs1).at hlt
      have h0 := hcs 0 (by rw [pairV_len]; decide)
      have h1 := hcs 1 (by rw [pairV_len]; decide)
      simp only [Nat.add_zero, Nat.mul_one, pairV, List.getElem_cons_zero, List.getElem_cons_succ] at h0 h1
      clear hcs
      have hC := HF.out.call s1 l[k] _ hs1
      try dsimp only at hC
      try simp only [pairV] at hC
      cases hp : (h s1 l[k]).1 with
      | true =>
        have HP := Lib.hid hp
        simp only [hp] at hC
        clear hp
        go_wp2_with (refine hC.mono ?_; rintro e w' ⟨rfl, hi1, hb1⟩)
        go_ret
        exact ⟨by rw [HN.out, idxF_hit hlt HP.out]; rfl, by rw [HN.out, idxF_hit hlt HP.out]; exact hi1, hbel.trans hb1⟩
      | false =>
        have HP := Lib.hid hp
        simp only [hp] at hC
        clear hp
        go_wp2_with (refine hC.mono ?_; rintro e w' ⟨rfl, hi1, hb1⟩)
        go_roundw
        case rel => exact ⟨k + 1, by omega, by go_num, _, hi1, hbel.trans hb1, by rw [HN.out, idxF_miss hlt HP.out]⟩
        case measure => simp [intOf]; omega
    · have e := idxF_end (h := h) (s := s1) (l := l) (k := k) (by omega)
      have HE := Lib.hid e; clear e
      go_wp2
      go_ret
      exact ⟨by rw [HN.out, HE.out]; rfl, by rw [HN.out, HE.out]; exact hs1, hbel⟩
theorem con_x {σ : Type} (h : σ → Ex → Bool × σ) (I : σ → World → Prop) (T : Nat → Prop) (s : σ) (l : List Ex) (g : Nat) (bd caps : Array Value) (v : Value) (w : World) (hlen : l.length ≤ 4096)
    (hm : ∀ s w, I s w → RSl pairV 2 w v l) (hs : I s w) (hf : FnI Tryz.prog g bd caps (fun x => .agg (pairV x).toArray) h I T) :
    Calls Tryz.prog 99 #[v, .func (.func g) bd caps] w fun e w' => e = .returned (.bool (anyF h s l).1) ∧ I (anyF h s l).2 w' ∧ KeptX T w w' := by
  have hC := idx_x h I T s l g bd caps v w hlen hm hs hf
  clear hm hs hf
  go_enter Tryz.func99, Tryz.ntmps99
  go_wp2_with (go_at_call 121; refine hC.mono ?_; rintro e w' ⟨rfl, hi1, hb1⟩)
  go_ret
  exact ⟨rfl, hi1, hb1⟩
/-- the function value that stands in the first cell of a block -/
def Heldx (nb g : Nat) (bd caps : Array Value) (w : World) : Prop := w.cell? ⟨nb, 0, none⟩ = some (.func (.func g) bd caps)
theorem not1_x {σ : Type} (h : σ → Ex → Bool × σ) (I : σ → World → Prop) (T : Nat → Prop) (g nb : Nat) (bd caps : Array Value) (hA : ∀ s w o, I s w → I s (w.alloc o)) (hT : ¬ T nb)
    (hf : FnI Tryz.prog g bd caps (fun x => .agg (pairV x).toArray) h I T) :
    FnI Tryz.prog 122 #[] #[.pointer (some ⟨nb, 0, none⟩)] (fun x => .agg (pairV x).toArray) (notF h) (fun s w => I s w ∧ Heldx nb g bd caps w) T := by
  refine ⟨fun xs w1 => rfl, fun s x w1 hs => ?_⟩
  obtain ⟨hs, hh⟩ := hs
  have hent := hf.ent
  have HF := Lib.hid hf; clear hf
  have HA := Lib.hid hA; clear hA
  have hh0 := hh
  unfold Heldx at hh0
  have hlt := World.block_lt_of_cell? _ _ hh0
  have hC := fun o => HF.out.call s x _ (HA.out _ _ o hs)
  try dsimp only at hC
  try simp only [pairV] at hC
  show Calls Tryz.prog 122 #[.agg (pairV x).toArray, .pointer (some ⟨nb, 0, none⟩)] w1 _
  have hB : ∀ o, KeptX T w1 (w1.alloc o) := fun o => KeptX.of ((Kept.refl _).alloc o)
  have HB := Lib.hid hB; clear hB
  try simp only [pairV]
  go_enter Tryz.func122, Tryz.ntmps122
  go_wp2_with (refine (hC _).mono ?_; rintro e w' ⟨rfl, hi1, hb1⟩)
  go_ret
  exact ⟨rfl, ⟨hi1, (HB.out _ |>.trans hb1).cell hh hT⟩, HB.out _ |>.trans hb1⟩
theorem not_x {σ : Type} (h : σ → Ex → Bool × σ) (I : σ → World → Prop) (T : Nat → Prop) (s : σ) (g : Nat) (bd caps : Array Value) (w : World) (hS : ∀ o, I s (w.alloc o)) :
    Calls Tryz.prog 100 #[.func (.func g) bd caps] w fun e w' => e = .returned (.func (.func 122) #[] #[.pointer (some ⟨w.heap.size, 0, none⟩)]) ∧ (I s w' ∧ Heldx w.heap.size g bd caps w') ∧ KeptX T w w' := by
  have HS := Lib.hid hS; clear hS
  have hB : ∀ o, KeptX T w (w.alloc o) := fun o => KeptX.of ((Kept.refl _).alloc o)
  have HB := Lib.hid hB; clear hB
  go_enter Tryz.func100, Tryz.ntmps100
  go_wp2
  go_ret
  refine ⟨rfl, ⟨HS.out _, ?_⟩, HB.out _⟩
  unfold Heldx
  unfold World.cell?
  rw [show ∀ o, (w.alloc o).heap[(⟨w.heap.size, 0, none⟩ : Addr).block]? = some o from fun o => heap_alloc_new w o]
  rfl
theorem all_x {σ : Type} (h : σ → Ex → Bool × σ) (I : σ → World → Prop) (T : Nat → Prop) (s : σ) (l : List Ex) (g : Nat) (bd caps : Array Value) (v : Value) (w : World) (hlen : l.length ≤ 4096)
    (hA : ∀ s w o, I s w → I s (w.alloc o)) (hT : ∀ b, T b → b < w.heap.size)
    (hm : ∀ s w, I s w → RSl pairV 2 w v l) (hs : I s w) (hf : FnI Tryz.prog g bd caps (fun x => .agg (pairV x).toArray) h I T) :
    Calls Tryz.prog 66 #[v, .func (.func g) bd caps] w fun e w' => e = .returned (.bool (allF h s l).1) ∧ I (allF h s l).2 w' ∧ KeptX T w w' := by
  have hn := not1_x h I T g w.heap.size bd caps hA (fun hx => Nat.lt_irrefl _ (hT _ hx)) hf
  have hC := fun w0 h1 => con_x (notF h) (fun s w1 => I s w1 ∧ Heldx w.heap.size g bd caps w1) T s l _ _ _ v w0 hlen (fun s w h => hm s w h.1) h1 hn
  have HC := Lib.hid hC; clear hC
  have hS : ∀ o, I s (w.alloc o) := fun o => hA _ _ _ hs
  have HS := Lib.hid hS; clear hS
  clear hm hs hf hn hA hT
  go_enter Tryz.func66, Tryz.ntmps66
  go_wp2_with (first | (go_at_call 100; refine (not_x h I T s g bd caps w HS.out).mono ?_; rintro e w' ⟨rfl, hi0, hb0⟩) | (go_at_call 99; refine (HC.out _ hi0).mono ?_; rintro e w' ⟨rfl, hi1, hb1⟩))
  go_ret
  exact ⟨rfl, hi1.1, hb0.trans hb1⟩
end Go.Proofs.YtiijfocdjcjlaaaGreat
/- A region that draws its order, walked in the order of its text: loads and pure operations are taken at their turn under a condition S on the world, which every other operation but one last one (s, which waits for all others) keeps. After the kit's Derived.OrdersHeld. -/
namespace Go.Proofs.YtiijfocdjcjlaaaGreat
open Go.RowKit
set_option linter.unusedVariables false
section
variable {P : Program} {ops : Array Oper} {Q : Exit → Act → World → Prop} {md : Region.Mode} {S : World → Prop} {s : Nat}

def wpAnyE (P : Program) (md : Region.Mode) (ops : Array Oper) (Q : Exit → Act → World → Prop) (S : World → Prop) (s : Nat) : Nat → Array Bool → Act → World → Prop
  | 0, listed, a, w => Region.ready md ops listed = [] ∧ Q .normal a w
  | fuel + 1, listed, a, w =>
    (Region.ready md ops listed = [] → Q .normal a w) ∧
    ∀ i ∈ Region.ready md ops listed, wpOp P ops Q i (fun a' w' => (i ≠ s → S w') ∧ wpAnyE P md ops Q S s fuel (listed.setIfInBounds i true) a' w') a w

theorem wpAny_of_E : ∀ (fuel : Nat) (listed : Array Bool) (a : Act) (w : World), wpAnyE P md ops Q S s fuel listed a w → wpAny P md ops Q fuel listed a w
  | 0, _, _, _, h => h
  | fuel + 1, _, _, _, h => ⟨h.1, fun i hi => wpOp_mono (fun a' w' h' => wpAny_of_E fuel _ a' w' h'.2) (h.2 i hi)⟩

/-- s is another one than i, and waits for it. -/
def waits (md : Region.Mode) (ops : Array Oper) (s i : Nat) : Bool :=
  s != i && (match ops[s]? with | some os => os.after.toList.any (fun e => Region.binds md e && e.on == i) | none => true)

theorem waits_not_ready {i : Nat} {listed : Array Bool} (h : waits md ops s i = true) (hi : i ∈ Region.ready md ops listed) : s ∉ Region.ready md ops listed := by
  intro hs
  obtain ⟨_, os, hos, hall⟩ := mem_ready.1 hs
  simp only [waits, hos, Bool.and_eq_true] at h
  obtain ⟨e, he, hb⟩ := List.any_eq_true.1 h.2
  simp only [Bool.and_eq_true, beq_iff_eq] at hb
  have h1 := hall e (by simpa using he) hb.1
  have h0 := (mem_ready.1 hi).1
  rw [hb.2] at h1
  rcases Nat.lt_or_ge i listed.size with h' | h'
  · simp [h'] at h0 h1; rw [h0] at h1; cases h1
  · simp [Array.getElem?_eq_none h'] at h1

theorem wpAnyE_first {i : Nat} {oi : Oper} {v : Value} (hi : ops[i]? = some oi) (hsel : ∀ (j : Nat) (o : Oper) cs b, ops[j]? = some o → o.op ≠ .select cs b)
    (hQ : ∀ c a w, Q (.panic c) (a.put oi.dst v) w → Q (.panic c) a w) (hsw : waits md ops s i = true) :
    ∀ (fuel : Nat) (listed : Array Bool) (a : Act) (w : World),
      (∀ j oj, ops[j]? = some oj → j ≠ i → listed.getD j true = false → (∀ e ∈ oj.after, Region.binds md e = true → e.on ≠ i) → oi.apart ops oj = true) →
      i ∈ Region.ready md ops listed → YieldsIf P ops S oi v a → S w →
      wpAnyE P md ops Q S s fuel (listed.setIfInBounds i true) (a.put oi.dst v) w → wpAnyE P md ops Q S s (fuel + 1) listed a w := by
  have hsi : i ≠ s := by
    intro h; subst h; simp [waits] at hsw
  intro fuel
  induction fuel with
  | zero =>
    intro listed a w _ hr hy hS H
    refine ⟨fun h => (by rw [h] at hr; cases hr), fun j hj => ?_⟩
    by_cases hji : j = i
    · subst hji; exact hy.wpOp hi hS ⟨fun _ => hS, H⟩
    · have := ready_mono hj hji
      rw [H.1] at this
      cases this
  | succ fuel ih =>
    intro listed a w hfree hr hy hS H
    refine ⟨fun h => (by rw [h] at hr; cases hr), fun j hj => ?_⟩
    by_cases hji : j = i
    · subst hji; exact hy.wpOp hi hS ⟨fun _ => hS, H⟩
    · have hjs : j ≠ s := fun e => waits_not_ready hsw hr (e ▸ hj)
      have h1 := H.2 j (ready_mono hj hji)
      obtain ⟨hjun, oj, hoj, hall⟩ := mem_ready.1 hj
      have hnot : ∀ e ∈ oj.after, Region.binds md e = true → e.on ≠ i := fun e he hb heq => by
        have h1 := hall e he hb
        have h0 := (mem_ready.1 hr).1
        rw [heq] at h1
        rcases Nat.lt_or_ge i listed.size with h' | h'
        · simp [h'] at h0 h1; rw [h0] at h1; cases h1
        · simp [Array.getElem?_eq_none h'] at h1
      have h2 := wpOp_putIf hoj (hfree j oj hoj hji hjun hnot) (fun cs b => hsel i oi cs b hi) (fun cs b => hsel j oj cs b hoj) hQ hy h1
      have hfree' : ∀ k ok, ops[k]? = some ok → k ≠ i → (listed.setIfInBounds j true).getD k true = false →
          (∀ e ∈ ok.after, Region.binds md e = true → e.on ≠ i) → oi.apart ops ok = true := fun k ok hk hki hun hno => by
        refine hfree k ok hk hki ?_ hno
        by_cases hjk : j = k
        · subst hjk; exact hjun
        · rw [getD_set_ne true hjk] at hun; exact hun
      refine wpOp_mono (fun a' w' h3 => ⟨h3.2.1, ih (listed.setIfInBounds j true) a' w' hfree' (ready_mono hr (Ne.symm hji)) h3.1 (h3.2.1 hjs) ?_⟩) h2
      rw [Array.setIfInBounds_comm _ _ hji]
      exact h3.2.2

/-- All that can be asked of the region's text when number i is taken: by the kernel. -/
def takes (md : Region.Mode) (ops : Array Oper) (listed : Array Bool) (s i : Nat) : Bool :=
  Region.noSelect ops && (Region.free md ops listed i && ((Region.ready md ops listed).contains i && waits md ops s i))

theorem wpAnyE_take {i : Nat} {oi : Oper} {v : Value} {fuel : Nat} {listed listed' : Array Bool} {a : Act} {w : World} (hi : ops[i]? = some oi)
    (hc : takes md ops listed s i = true) (hl : listed.setIfInBounds i true = listed')
    (hQ : ∀ c a w, Q (.panic c) (a.put oi.dst v) w → Q (.panic c) a w) (hS : S w) (hw : Region.wanted oi (yielded ops a.tmps) = true)
    (hy : ∀ w, S w → (execOp a.eval oi).run P w = .ok (.value v) w)
    (h : wpAnyE P md ops Q S s fuel listed' (a.put oi.dst v) w) : wpAnyE P md ops Q S s (fuel + 1) listed a w := by
  simp only [takes, Bool.and_eq_true] at hc
  subst hl
  exact wpAnyE_first hi (Region.noSelect_spec hc.1) hQ hc.2.2.2 fuel listed a w (Region.free_spec hi hc.2.1) (by simpa using hc.2.2.1) (.inl ⟨hw, hy⟩) hS h
/-- An operation whose guard says no. -/
theorem wpAnyE_skip {i : Nat} {oi : Oper} {fuel : Nat} {listed listed' : Array Bool} {a : Act} {w : World} (hi : ops[i]? = some oi)
    (hc : takes md ops listed s i = true) (hl : listed.setIfInBounds i true = listed')
    (hQ : ∀ c a w, Q (.panic c) (a.put oi.dst undef) w → Q (.panic c) a w) (hS : S w) (hw : Region.wanted oi (yielded ops a.tmps) = false)
    (h : wpAnyE P md ops Q S s fuel listed' (a.put oi.dst undef) w) : wpAnyE P md ops Q S s (fuel + 1) listed a w := by
  simp only [takes, Bool.and_eq_true] at hc
  subst hl
  exact wpAnyE_first hi (Region.noSelect_spec hc.1) hQ hc.2.2.2 fuel listed a w (Region.free_spec hi hc.2.1) (by simpa using hc.2.2.1) (.inr ⟨hw, rfl⟩) hS h

/-- Just one may come up: it is carried out. -/
theorem wpAnyE_one {i : Nat} {oi : Oper} {fuel : Nat} {listed listed' : Array Bool} {a : Act} {w : World} (hi : ops[i]? = some oi) (hr : Region.ready md ops listed = [i]) (hl : listed.setIfInBounds i true = listed')
    (hw : Region.wanted oi (yielded ops a.tmps) = true)
    (h : ∀ K : Act → World → Prop, (∀ a' w', (i ≠ s → S w') → wpAnyE P md ops Q S s fuel listed' a' w' → K a' w') → oi.wp P a w K Q) : wpAnyE P md ops Q S s (fuel + 1) listed a w := by
  subst hl
  refine ⟨fun h0 => (by rw [h0] at hr; cases hr), fun j hj => ?_⟩
  rw [hr] at hj
  obtain rfl : j = i := by simpa using hj
  unfold wpOp
  simp only [hi, hw, if_true]
  exact .inl (h _ fun a' w' h1 h2 => ⟨h1, h2⟩)

theorem wpAnyE_done {listed : Array Bool} {a : Act} {w : World} (hr : Region.ready md ops listed = []) (h : Q .normal a w) :
    ∀ fuel, wpAnyE P md ops Q S s fuel listed a w
  | 0 => ⟨hr, h⟩
  | _ + 1 => ⟨fun _ => h, by rw [hr]; simp⟩

theorem wp_region_E (S : World → Prop) (s : Nat) {id : Nat} {a : Act} {w : World} (hm : P.follows .mixedOrders = true)
    (h : wpAnyE P .any ops Q S s ops.size (Array.replicate ops.size false) a w.drew) : (Code.region id ops true).wp P Q a w :=
  wp_region_any hm (wpAny_of_E _ _ _ _ h)
/-- the post of a panic made False, where it hangs on the frame -/
def Calm (Q : Exit → Act → World → Prop) : Exit → Act → World → Prop
  | .panic _, _, _ => False
  | e, a, w => Q e a w
theorem wp_region_calm {id : Nat} {b : Bool} {a : Act} {w : World} (h : (Code.region id ops b).wp P (Calm Q) a w) : (Code.region id ops b).wp P Q a w :=
  wp_mono h fun e a w hq => by cases e <;> first | exact hq | exact hq.elim
theorem calm_put {o : Option Tmp} {v : Value} : ∀ c a w, Calm Q (.panic c) (a.put o v) w → Calm Q (.panic c) a w := fun _ _ _ h => h
theorem calm_normal {a : Act} {w : World} (h : Q .normal a w) : Calm Q .normal a w := h

end
end Go.Proofs.YtiijfocdjcjlaaaGreat
/- Rules at the operation: one cell that is set, a value that is read; reads ahead of one store. -/
namespace Go.Proofs.YtiijfocdjcjlaaaGreat
open Go.RowKit Go.ChangeMaps Go.MapKept
set_option linter.unusedVariables false
set_option linter.unusedSimpArgs false

section
variable {P : Program} {ops : Array Oper} {rest : List Oper} {o : Oper} {a : Act} {Q : Exit → Act → World → Prop} {w : World}
/-- One cell is set; the world a letter. -/
theorem wpList_set_cell (hgd : Region.wanted o (yielded ops a.tmps) = true) {T : Nat} (x y : Operand) (ho : o.op = .store T x y) (hT : (P.info? T).map (·.size) = some 1)
    (b off : Nat) (hx : a.eval x = .pointer (some ⟨b, off, none⟩)) (v : Value) (hy : a.eval y = v) (hv : v.cells = #[v]) (h1 : v.oneCell' = true)
    (cur : List Value) (t : TypeId) (hb : w.heap[b]? = some (.cells cur.toArray t (0, 0))) (hfit : off < cur.length)
    (h : ∀ w1, Wrote w w1 b (cur.set off v) t → wpList P ops Q rest (a.put o.dst undef) w1) : wpList P ops Q (o :: rest) a w := by
  refine BigFrame.wpList_want hgd fun K hK => ?_
  have hst := run_storeCells_at P b off t [v] 0 cur.toArray w hb (by simp; omega) (by simpa using h1)
  cases hq : P.info? T with
  | none => simp [hq] at hT
  | some i =>
    have hi : i.size = 1 := by simpa [hq] using hT
    unfold Oper.wp execOp
    simp only [ho, hx, hy, Instr.storeAt, Instr.sureAddr, Sem.run_bind, Sem.run_pure, Result.andThen_ok, storeVar, sizeOf, typeInfo, run_program, hq, hv, hi, List.size_toArray, List.length_cons, List.length_nil, Nat.zero_add, ne_eq, not_true_eq_false, if_false, show (#[v] : Array Value).size = 1 from rfl, show (#[v] : Array Value) = [v].toArray from rfl, hst]
    refine hK _ _ (h _ ⟨?_, ?_, ?_, rfl, rfl, rfl⟩)
    · rw [setRow_heap w b _ _ t _ hb]
      simp [List.set_eq_take_append_cons_drop, hfit]
    · intro k hk; exact setRow_other w b k _ hk
    · simp
theorem wpStill_val {K : Act → Prop} {v : Value} (hw : Region.wanted o (yielded ops a.tmps) = true) (hr : (execOp a.eval o).run P w = .ok (.value v) w) (h : wpStill P ops w K rest (a.put o.dst v)) : wpStill P ops w K (o :: rest) a := by
  unfold wpStill
  rw [if_pos hw]
  unfold Oper.still
  rw [hr]
  exact ⟨rfl, h⟩
/-- Reads first, in whatever order; then the rest in its one order: the world a letter. -/
theorem wp_still_tail {id : Nat} {l : List Oper} (n : Nat) (hm : P.follows .mixedOrders = true) (hB : Region.lexTailB .any l.toArray n = true)
    (h : ∀ w1, Kept w w1 → w1.heap = w.heap → wpStill P l.toArray w1 (fun a' => wpList P l.toArray Q (l.drop n) a' w1) (l.take n) a) : (Code.region id l.toArray true).wp P Q a w :=
  wp_region_still_tail n hm hB (h w.drew (Kept.refl w).drew rfl)
theorem But.wrote {S : Nat → Prop} {w1 : World} {g : Nat} {cs : List Value} {t : TypeId} (h : Wrote w w1 g cs t) (hs : S g) : But S w w1 :=
  ⟨h.os, h.tape, h.output, by rw [h.size]; exact Nat.le_refl _, fun k hk hn => h.oth k (fun e => hn (e ▸ hs))⟩
end

theorem size_int : (Tryz.prog.info? 3).map (·.size) = some 1 := by kernel_rfl
end Go.Proofs.YtiijfocdjcjlaaaGreat
