/- PaA: several texts in one: Base App Agg Bits Pack Sec Rec. -/
import Derived.Test.YtpeclkhppgabfaaDoorProg
import Derived.WalkKit
import Derived.WalkLawsBesides
import Derived.WalkSpells
import Derived.Outline
import Derived.Lib.Hide
import Derived.BigQuiet
import Derived.Deep.QuietTactic
import Derived.Deep.AppendLies
import Derived.Deep.MidRow
import Derived.Laws.StructEq
import Derived.Laws.CopyOwn
import Derived.Lib.SlBytesConst
/- General lemmas on memory and endings; no function of the program. -/
namespace Go.Proofs.YtpeclkhppgabfaaDoor
open Go.RowKit
set_option linter.unusedVariables false

theorem ret_eq {v v' : Value} (h : v = v') : Ending.returned v = Ending.returned v' := by rw [h]
theorem ret_int {k : IntKind} {a b : Int} (h : a = b) : Ending.returned (.int k a) = .returned (.int k b) := by rw [h]
theorem ret_bool {a b : Bool} (h : a = b) : Ending.returned (.bool a) = .returned (.bool b) := by rw [h]

/-- Nothing that was there has turned. -/
def Kept (w w' : World) : Prop := Below w.heap.size w w'
theorem Kept.refl (w : World) : Kept w w := Below.refl _ _
theorem Kept.trans {a b c : World} (h : Kept a b) (k : Kept b c) : Kept a c := Below.trans h (Below.mono k (Below.size h))
theorem Kept.alloc {a b : World} (h : Kept a b) (o : Obj) : Kept a (b.alloc o) := Below.alloc h (Below.size h) o
theorem Kept.drew {a b : World} (h : Kept a b) : Kept a b.drew := Below.drew h
theorem Kept.drewN {a b : World} (h : Kept a b) (n : Nat) : Kept a (b.drewN n) := below_drewN h n
theorem Kept.setCell {a b : World} (h : Kept a b) {p : Addr} (hp : a.heap.size ≤ p.block) (u : Value) : Kept a (b.setCell p u) := Below.setCell h hp u
theorem Kept.grown {a b c : World} {row : Option Nat} (h : Kept a b) (hg : b.grownBy c row) (hr : ∀ k, row = some k → a.heap.size ≤ k) : Kept a c := Below.grown h hg (Below.size h) hr
theorem Kept.size {a b : World} (h : Kept a b) : a.heap.size ≤ b.heap.size := Below.size h
theorem Kept.cell {a b : World} (h : Kept a b) {p : Addr} (hp : p.block < a.heap.size) : b.cell? p = a.cell? p := Below.cell h hp
theorem Kept.cell' {a b : World} (h : Kept a b) {p : Addr} {v : Value} (hc : a.cell? p = some v) : b.cell? p = some v := (h.cell (World.block_lt_of_cell? _ _ hc)).trans hc
theorem Kept.block {a b : World} (h : Kept a b) {k : Nat} {o : Obj} (hc : a.heap[k]? = some o) : b.heap[k]? = some o := (Below.block h k (Array.getElem?_eq_some_iff.1 hc).1).trans hc
theorem Kept.block_eq {a b : World} (h : Kept a b) {k : Nat} (hk : k < a.heap.size) : b.heap[k]? = a.heap[k]? := Below.block h k hk
theorem Kept.q {a b : World} (h : Kept a b) : ∀ k o, k < a.heap.size → b.cell? ⟨k, o, none⟩ = a.cell? ⟨k, o, none⟩ := fun _ _ hk => h.cell hk
theorem Kept.qf {a b : World} (h : Kept a b) : ∀ k o, k < a.heap.size → b.frozen? ⟨k, o, none⟩ = a.frozen? ⟨k, o, none⟩ := fun _ _ hk => Below.frozen h hk
theorem Kept.frozen {a b : World} (h : Kept a b) {p : Addr} (hp : p.block < a.heap.size) : b.frozen? p = a.frozen? p := Below.frozen h hp

/-- The cells from ⟨b, off⟩ on read xs. -/
def Cells (w : World) (b off : Nat) (xs : List Value) : Prop := ∀ j (h : j < xs.length), w.cell? ⟨b, off + j, none⟩ = some xs[j]
theorem Cells.kept {a b : World} {k off : Nat} {xs : List Value} (h : Cells a k off xs) (hk : Kept a b) : Cells b k off xs := fun j hj => hk.cell' (h j hj)
theorem Cells.at {w : World} {b off : Nat} {xs : List Value} (h : Cells w b off xs) (j : Nat) (hj : j < xs.length) : w.cell? ⟨b, off + j, none⟩ = some xs[j] := h j hj
theorem Cells.getD {w : World} {b off : Nat} {xs : List Value} (h : Cells w b off xs) (j : Nat) (hj : j < xs.length) : w.cell? ⟨b, off + j, none⟩ = some (xs.getD j undef) := by
  rw [h j hj, List.getD_eq_getElem?_getD, List.getElem?_eq_getElem hj]; rfl
theorem Cells.add {w : World} {b off : Nat} {xs : List Value} (h : Cells w b off xs) : ∀ j u, xs[j]? = some u → w.cell? ((⟨b, off, none⟩ : Addr).add j) = some u := by
  intro j u hu
  obtain ⟨hj, rfl⟩ := List.getElem?_eq_some_iff.1 hu
  have := h j hj
  unfold Addr.add
  split
  · rename_i h0; subst h0; simpa using this
  · exact this
theorem Cells.lt {w : World} {b off : Nat} {xs : List Value} (h : Cells w b off xs) (h0 : xs ≠ []) : b < w.heap.size := by
  have := h 0 (List.length_pos_iff.2 h0)
  exact World.block_lt_of_cell? _ _ this
theorem Cells.of_block {w : World} {b : Nat} {cs : Array Value} {t : TypeId} {fr : Nat × Nat} (hb : w.heap[b]? = some (.cells cs t fr)) : Cells w b 0 cs.toList := by
  intro j hj
  simp [World.cell?, hb] at hj ⊢
theorem Cells.new {w : World} {c : Array Value} {t : TypeId} {fr : Nat × Nat} {n : Nat} (hn : n = w.heap.size) {xs : List Value} (hx : xs = c.toList) : Cells (w.alloc (.cells c t fr)) n 0 xs := by
  subst hn hx; exact Cells.of_block (heap_alloc_new w _)
theorem Cells.of_owns {w : World} {base e size g cap n : Nat} {xs : List Value} (h : w.ownsRow base e size (.slice (some ⟨g, 0, none⟩) n cap) n xs) : Cells w g 0 xs := by
  intro j hj
  have := h.cells (g := g) rfl j xs[j] (List.getElem?_eq_getElem hj)
  unfold Addr.add at this
  split at this
  · rename_i h0; subst h0; simpa using this
  · simpa using this
/-- What a slice of one's own is made of. -/
theorem owns_form {w : World} {base e size n : Nat} {v : Value} {xs : List Value} (h : w.ownsRow base e size v n xs) :
    (v = .slice none 0 0 ∧ n = 0 ∧ xs = []) ∨ ∃ g cap, v = .slice (some ⟨g, 0, none⟩) n cap ∧ base ≤ g ∧ g < w.heap.size ∧ n ≤ cap ∧ Cells w g 0 xs := by
  rcases h.2 with ⟨rfl, rfl⟩ | ⟨g, cap, cur, rfl, hb, hg, hn, _⟩
  · exact .inl ⟨rfl, rfl, List.eq_nil_of_length_eq_zero (by simpa using h.1)⟩
  · exact .inr ⟨g, cap, rfl, hb, (Array.getElem?_eq_some_iff.1 hg).1, hn, Cells.of_owns h⟩

theorem flatMap_at {α β : Type} (f : List α) (g : α → List β) (s : Nat) (hg : ∀ x ∈ f, (g x).length = s) (k j : Nat) (hk : k < f.length) (hj : j < s) : (f.flatMap g)[k * s + j]? = (g f[k])[j]? := by
  induction f generalizing k with
  | nil => simp at hk
  | cons x f ih =>
    have hx := hg x (by simp)
    cases k with
    | zero =>
      rw [List.flatMap_cons, List.getElem?_append_left (by omega)]
      simp
    | succ k =>
      rw [List.flatMap_cons, List.getElem?_append_right (by rw [hx, Nat.succ_mul]; omega)]
      have e : (k + 1) * s + j - (g x).length = k * s + j := by rw [hx, Nat.succ_mul]; omega
      rw [e]
      simpa using ih (fun y hy => hg y (by simp [hy])) k (by simpa using hk)
theorem Cells.flat {w : World} {b off : Nat} {α : Type} {f : List α} {g : α → List Value} (h : Cells w b off (f.flatMap g)) (s : Nat) (hg : ∀ x ∈ f, (g x).length = s) (k j : Nat) (hk : k < f.length) (v : Value) (hj : (g f[k])[j]? = some v) : w.cell? ⟨b, off + k * s + j, none⟩ = some v := by
  have hjs : j < s := by
    have := (List.getElem?_eq_some_iff.1 hj).1
    rw [hg _ (List.getElem_mem hk)] at this; exact this
  have e := flatMap_at f g s hg k j hk hjs
  rw [hj] at e
  obtain ⟨hl, hv⟩ := List.getElem?_eq_some_iff.1 e
  have := h _ hl
  rw [hv] at this
  simpa [Nat.add_assoc] using this

end Go.Proofs.YtpeclkhppgabfaaDoor
/- One law for append onto a slice that is owned, or full. -/
namespace Go.Proofs.YtpeclkhppgabfaaDoor
open Go.RowKit
set_option linter.unusedVariables false

/-- A slice type t over elements e of 'size' cells and 'bytes' bytes. -/
structure ElemT (P : Program) (t e size bytes : Nat) : Prop where
  ht : P.underlying t = some (.slice e)
  i : ∃ i z, P.info? e = some i ∧ i.zero = some z ∧ i.size = size ∧ i.bytes = bytes ∧ z.cells.size = size
  pos : 0 < size

/-- A slice value of n elements that may be appended to: owned from block 'base' on, or without room behind its length. -/
def App (w : World) (base e size : Nat) (v : Value) (n : Nat) (xs : List Value) : Prop :=
  w.ownsRow base e size v n xs ∨ (xs.length = n * size ∧ ∃ ao, v = .slice ao n n ∧ (ao = none → n = 0) ∧ ∀ b, ao = some b → ∀ j u, xs[j]? = some u → w.cell? (b.add j) = some u)

/-- A slice value of m elements that is read. -/
def Src (w : World) (size : Nat) (x : Value) (m : Nat) (news : List Value) : Prop :=
  news.length = m * size ∧ ∃ ax c, x = .slice ax m c ∧ m ≤ c ∧ (ax = none → m = 0 ∧ c = 0) ∧ ∀ b, ax = some b → ∀ j u, news[j]? = some u → w.cell? (b.add j) = some u

theorem grownBy_refl (w : World) (row : Option Nat) : w.grownBy w row := ⟨rfl, rfl, rfl, Nat.le_refl _, fun _ _ _ => rfl⟩
theorem grownBy_any {w w' : World} (h : w.grownBy w' none) (row : Option Nat) : w.grownBy w' row := ⟨h.os, h.tape, h.output, h.size, fun k hk _ => h.block k hk (by simp)⟩

theorem ownsRow_base {w : World} {base base' e size n : Nat} {v : Value} {xs : List Value} (h : w.ownsRow base e size v n xs) (hb : base' ≤ base) : w.ownsRow base' e size v n xs := by
  refine ⟨h.1, ?_⟩
  rcases h.2 with h2 | ⟨g, cap, cur, hv, hg, r⟩
  · exact .inl h2
  · exact .inr ⟨g, cap, cur, hv, by omega, r⟩

theorem run_append_app {P : Program} (w : World) {t e size bytes : Nat} (T : ElemT P t e size bytes) (ty : TypeId) (base : Nat) (v : Value) (n : Nat) (xs : List Value) (hv : App w base e size v n xs)
    (x : Value) (m : Nat) (news : List Value) (hx : Src w size x m news) (h1 : ∀ u ∈ news, u.oneCell' = true)
    (h63 : n + m ≤ maxLen) (hbytes : (n + m) * bytes ≤ 140737488355328) (hbase : base ≤ w.heap.size) :
    ∃ v' w', (Builtin.append_ #[t, t] ty #[v, x]).run P w = .ok v' w' ∧ App w' base e size v' (n + m) (xs ++ news) ∧ w.grownBy w' v.ownBlock ∧ Below base w w' ∧
      ((0 < m ∨ w.ownsRow base e size v n xs) → w'.ownsRow base e size v' (n + m) (xs ++ news)) := by
  obtain ⟨ht, ⟨i, z, hi, hz, rfl, rfl, hzs⟩, hpos⟩ := T
  obtain ⟨hnl, ax, c, rfl, _, hnone, hcells⟩ := hx
  rcases hv with hown | ⟨hxl, ao, rfl, ha0, hold⟩
  · cases ax with
    | none =>
      obtain ⟨rfl, rfl⟩ := hnone rfl
      have hn : news = [] := List.eq_nil_of_length_eq_zero (by simpa using hnl)
      subst hn
      have hr := run_append_owned_none (P := P) (w := w) base t ty e i i.size ht hi v n xs hown
      simp only [Nat.add_zero, List.append_nil]
      exact ⟨v, w, hr, .inl hown, grownBy_refl _ _, Below.refl _ _, fun _ => hown⟩
    | some b =>
      obtain ⟨v', w', hr, h2, h3, _⟩ := run_append_own (P := P) w base t ty e i z i.size i.bytes ht hi hz rfl rfl hzs hpos v n xs hown b m c news hnl (hcells b rfl) h1 h63 hbytes hbase
      exact ⟨v', w', hr, .inl h2, h3, (Below.refl base w).grown h3 hbase (fun k hk => (hown.lt k hk).1), fun _ => h2⟩
  · by_cases hm : m = 0
    · subst hm
      have hn : news = [] := List.eq_nil_of_length_eq_zero (by simpa using hnl)
      subst hn
      simp only [Nat.add_zero, List.append_nil]
      refine ⟨.slice ao n n, w, ?_, .inr ⟨hxl, ao, rfl, ha0, hold⟩, grownBy_refl _ _, Below.refl _ _, fun h => by simpa using h⟩
      cases ao <;> cases ax <;> simp [Builtin.append_, run_underlying ht, sizeOf, typeInfo, hi, Builtin.lenOf, Builtin.firstCells, loadCells, loadCellsFrom, storeCells]
    · cases ax with
      | none => exact absurd (hnone rfl).1 hm
      | some b =>
        cases ao with
        | none =>
          obtain rfl := ha0 rfl
          have hx0 : xs = [] := List.eq_nil_of_length_eq_zero (by simpa using hxl)
          subst hx0
          obtain ⟨v', w', hr, h2, h3, _⟩ := run_append_own (P := P) w base t ty e i z i.size i.bytes ht hi hz rfl rfl hzs hpos (.slice none 0 0) 0 [] (World.ownsRow_nil w _ e i.size) b m c news hnl (hcells b rfl) h1 h63 hbytes hbase
          exact ⟨v', w', hr, .inl h2, h3, (Below.refl base w).grown h3 hbase (fun k hk => by simp [Value.ownBlock] at hk), fun _ => h2⟩
        | some a =>
          obtain ⟨v', w', hr, h2, h3⟩ := run_append_arg_grows (P := P) w t ty e i z i.size i.bytes ht hi hz rfl rfl hzs hpos a n n xs hxl (hold a rfl) b m c news hnl (hcells b rfl) (by omega) h63 hbytes
          exact ⟨v', w', hr, .inl (ownsRow_base h2 hbase), grownBy_any h3 _, (Below.refl base w).grown h3 hbase (fun k hk => by simp at hk), fun _ => ownsRow_base h2 hbase⟩

theorem wpList_append_app {P : Program} (w : World) {ops : Array Oper} {rest : List Oper} {o : Oper} {a : Act} {Q : Exit → Act → World → Prop} (hgd : o.guard = none) (s x : Operand) {t e size bytes : Nat}
    (ho : o.op = .call { callee := .builtin .append, args := #[s, x], argTypes := #[t, t] }) (T : ElemT P t e size bytes)
    (base : Nat) (v : Value) (n : Nat) (xs : List Value) (hs : a.eval s = v) (hv : App w base e size v n xs)
    (xv : Value) (m : Nat) (news : List Value) (hxe : a.eval x = xv) (hx : Src w size xv m news) (h1 : ∀ u ∈ news, u.oneCell' = true)
    (h63 : n + m ≤ maxLen) (hbytes : (n + m) * bytes ≤ 140737488355328) (hbase : base ≤ w.heap.size)
    (h : ∀ v' w', App w' base e size v' (n + m) (xs ++ news) → w.grownBy w' v.ownBlock → Below base w w' →
      ((0 < m ∨ w.ownsRow base e size v n xs) → w'.ownsRow base e size v' (n + m) (xs ++ news)) → wpList P ops Q rest (a.put o.dst v') w') : wpList P ops Q (o :: rest) a w := by
  refine wpList_plain hgd fun K hK => ?_
  obtain ⟨v', w', hr, h2, h3, hb, h4⟩ := run_append_app (P := P) w T o.type base v n xs hv xv m news hx h1 h63 hbytes hbase
  unfold Oper.wp execOp
  simp only [ho, resolve, invoke, builtin, Sem.run_bind, Sem.run_pure, Result.andThen_ok, List.map_toArray, List.map_cons, List.map_nil, hs, hxe, hr]
  exact hK _ _ (h v' w' h2 h3 hb h4)

theorem wp_append_app {P : Program} {w : World} {o : Oper} {a : Act} {K : Act → World → Prop} {Q : Exit → Act → World → Prop} (s x : Operand) {t e size bytes : Nat}
    (ho : o.op = .call { callee := .builtin .append, args := #[s, x], argTypes := #[t, t] }) (T : ElemT P t e size bytes)
    (base : Nat) (v : Value) (n : Nat) (xs : List Value) (hs : a.eval s = v) (hv : App w base e size v n xs)
    (xv : Value) (m : Nat) (news : List Value) (hxe : a.eval x = xv) (hx : Src w size xv m news) (h1 : ∀ u ∈ news, u.oneCell' = true)
    (h63 : n + m ≤ maxLen) (hbytes : (n + m) * bytes ≤ 140737488355328) (hbase : base ≤ w.heap.size)
    (h : ∀ v' w', App w' base e size v' (n + m) (xs ++ news) → w.grownBy w' v.ownBlock → Below base w w' →
      ((0 < m ∨ w.ownsRow base e size v n xs) → w'.ownsRow base e size v' (n + m) (xs ++ news)) → K (a.put o.dst v') w') : o.wp P a w K Q := by
  obtain ⟨v', w', hr, h2, h3, hb, h4⟩ := run_append_app (P := P) w T o.type base v n xs hv xv m news hx h1 h63 hbytes hbase
  unfold Oper.wp execOp
  simp only [ho, resolve, invoke, builtin, Sem.run_bind, Sem.run_pure, Result.andThen_ok, List.map_toArray, List.map_cons, List.map_nil, hs, hxe, hr]
  exact h v' w' h2 h3 hb h4

theorem step_is_bi {P : Program} {w : World} {ops : Array Oper} {o : Oper} {a : Act} {K : Act → World → Prop} {Q : Exit → Act → World → Prop} {E : Prop} (b : Builtin) (args : Array Operand) (ats : Array TypeId)
    (ho : o.op = .call { callee := .builtin b, args := args, argTypes := ats }) (h : if Region.wanted o (yielded ops a.tmps) = true then Oper.wp P o a w K Q else E) : if Region.wanted o (yielded ops a.tmps) = true then Oper.wp P o a w K Q else E := h
theorem step_append_app {P : Program} {w : World} {ops : Array Oper} {o : Oper} {a : Act} {K : Act → World → Prop} {Q : Exit → Act → World → Prop} {E : Prop} (hgd : o.guard = none) (s x : Operand) {t e size bytes : Nat}
    (ho : o.op = .call { callee := .builtin .append, args := #[s, x], argTypes := #[t, t] }) (T : ElemT P t e size bytes)
    (base : Nat) (v : Value) (n : Nat) (xs : List Value) (hs : a.eval s = v) (hv : App w base e size v n xs)
    (xv : Value) (m : Nat) (news : List Value) (hxe : a.eval x = xv) (hx : Src w size xv m news) (h1 : ∀ u ∈ news, u.oneCell' = true)
    (h63 : n + m ≤ maxLen) (hbytes : (n + m) * bytes ≤ 140737488355328) (hbase : base ≤ w.heap.size)
    (h : ∀ v' w', App w' base e size v' (n + m) (xs ++ news) → w.grownBy w' v.ownBlock → Below base w w' →
      ((0 < m ∨ w.ownsRow base e size v n xs) → w'.ownsRow base e size v' (n + m) (xs ++ news)) → K (a.put o.dst v') w') :
    if Region.wanted o (yielded ops a.tmps) = true then Oper.wp P o a w K Q else E := by
  have hw : Region.wanted o (yielded ops a.tmps) = true := by simp [Region.wanted, hgd]
  rw [if_pos hw]
  obtain ⟨v', w', hr, h2, h3, hb, h4⟩ := run_append_app (P := P) w T o.type base v n xs hv xv m news hx h1 h63 hbytes hbase
  unfold Oper.wp execOp
  simp only [ho, resolve, invoke, builtin, Sem.run_bind, Sem.run_pure, Result.andThen_ok, List.map_toArray, List.map_cons, List.map_nil, hs, hxe, hr]
  exact h v' w' h2 h3 hb h4

/-- append of nothing to a full slice: the slice itself -/
theorem wpList_append_zero {P : Program} (w : World) {ops : Array Oper} {rest : List Oper} {o : Oper} {a : Act} {Q : Exit → Act → World → Prop} (hgd : o.guard = none) (s x : Operand) {t e size bytes : Nat}
    (ho : o.op = .call { callee := .builtin .append, args := #[s, x], argTypes := #[t, t] }) (T : ElemT P t e size bytes)
    (ao ax : Option Addr) (n c : Nat) (hs : a.eval s = .slice ao n n) (hxe : a.eval x = .slice ax 0 c)
    (h63 : n ≤ maxLen) (h : wpList P ops Q rest (a.put o.dst (.slice ao n n)) w) : wpList P ops Q (o :: rest) a w := by
  obtain ⟨ht, ⟨i, z, hi, hz, rfl, rfl, hzs⟩, hpos⟩ := T
  refine wpList_plain hgd fun K hK => ?_
  have hr : (Builtin.append_ #[t, t] o.type #[.slice ao n n, .slice ax 0 c]).run P w = .ok (.slice ao n n) w := by
    cases ao <;> cases ax <;> simp [Builtin.append_, run_underlying ht, sizeOf, typeInfo, hi, Builtin.lenOf, Builtin.firstCells, loadCells, loadCellsFrom, storeCells]
  unfold Oper.wp execOp
  simp only [ho, resolve, invoke, builtin, Sem.run_bind, Sem.run_pure, Result.andThen_ok, List.map_toArray, List.map_cons, List.map_nil, hs, hxe, hr]
  exact hK _ _ h

theorem Src.of_cells {w : World} {b off n size c : Nat} {xs : List Value} (h : Cells w b off xs) (hl : xs.length = n * size) (hc : n ≤ c) : Src w size (.slice (some ⟨b, off, none⟩) n c) n xs :=
  ⟨hl, _, c, rfl, hc, by simp, fun b' hb' j u hu => by cases hb'; exact h.add j u hu⟩
theorem Src.nil {w : World} {size : Nat} : Src w size (.slice none 0 0) 0 [] := ⟨by simp, none, 0, rfl, Nat.le_refl _, by simp, by simp⟩
theorem Src.of_app {w : World} {base e size n : Nat} {v : Value} {xs : List Value} (h : App w base e size v n xs) : Src w size v n xs := by
  rcases h with h | ⟨hl, ao, rfl, h0, hc⟩
  · refine ⟨h.1, ?_⟩
    rcases owns_form h with ⟨rfl, rfl, rfl⟩ | ⟨g, cap, rfl, _, _, hn, hc⟩
    · exact ⟨none, 0, rfl, Nat.le_refl _, by simp, by simp⟩
    · exact ⟨_, cap, rfl, hn, by simp, fun b' hb' j u hu => by cases hb'; exact hc.add j u hu⟩
  · exact ⟨hl, ao, n, rfl, Nat.le_refl _, fun h => ⟨h0 h, h0 h⟩, hc⟩
theorem Src.kept {a b : World} {size : Nat} {x : Value} {m : Nat} {news : List Value} (h : Src a size x m news) (hk : Kept a b) : Src b size x m news := by
  obtain ⟨hl, ax, c, rfl, hmc, hn, hc⟩ := h
  exact ⟨hl, ax, c, rfl, hmc, hn, fun b hb j u hu => hk.cell' (hc b hb j u hu)⟩
theorem Src.cells {w : World} {size b off n c : Nat} {xs : List Value} (h : Src w size (.slice (some ⟨b, off, none⟩) n c) n xs) : Cells w b off xs := by
  obtain ⟨hl, ax, c', hv, _, hn, hc⟩ := h
  cases hv
  intro j hj
  have := hc _ rfl j xs[j] (List.getElem?_eq_getElem hj)
  unfold Addr.add at this
  split at this
  · rename_i h0; subst h0; simpa using this
  · exact this
theorem Src.one {w : World} {v : Value} {e : Nat} : Src (w.alloc (.cells #[v] e)) 1 (.slice (some ⟨w.heap.size, 0, none⟩) 1 1) 1 [v] :=
  Src.of_cells (fun j hj => by simp at hj; subst hj; simp) (by simp) (Nat.le_refl _)
/-- A row made by 'E{..}': owned. -/
theorem App.kept {a b : World} {base e size n : Nat} {v : Value} {xs : List Value} (h : App a base e size v n xs) (hk : Kept a b) : App b base e size v n xs := by
  rcases h with h | ⟨hl, ao, rfl, h0, hc⟩
  · refine .inl ⟨h.1, ?_⟩
    rcases h.2 with h2 | ⟨g, cap, cur, hv, hg, hh, r⟩
    · exact .inl h2
    · exact .inr ⟨g, cap, cur, hv, hg, hk.block hh, r⟩
  · exact .inr ⟨hl, ao, rfl, h0, fun b hb j u hu => hk.cell' (hc b hb j u hu)⟩
theorem ownsRow_kept {a b : World} {base e size n : Nat} {v : Value} {xs : List Value} (h : a.ownsRow base e size v n xs) (hk : Kept a b) : b.ownsRow base e size v n xs := by
  refine ⟨h.1, ?_⟩
  rcases h.2 with h2 | ⟨g, cap, cur, hv, hg, hh, r⟩
  · exact .inl h2
  · exact .inr ⟨g, cap, cur, hv, hg, hk.block hh, r⟩
theorem Kept.below {a b c : World} {base : Nat} (h : Kept a b) (hb : a.heap.size ≤ base) (hg : Below base b c) : Kept a c := Below.trans h (hg.mono hb)

theorem App.full {w : World} {base e size n c : Nat} {x : Option Addr} {xs : List Value} (h : Src w size (.slice x n c) n xs) : App w base e size (.slice x n n) n xs := by
  obtain ⟨hl, ax, c', hv, _, hn, hc⟩ := h
  cases hv
  exact .inr ⟨hl, x, rfl, fun h => (hn h).1, hc⟩
theorem App.empty (w : World) (base e size : Nat) : App w base e size (.slice none 0 0) 0 [] := .inl (World.ownsRow_nil w base e size)

end Go.Proofs.YtpeclkhppgabfaaDoor
/- Whole aggregates (sectors and the like): made, loaded, stored, compared, without going through their cells one by one. -/
namespace Go.Proofs.YtpeclkhppgabfaaDoor
open Go.RowKit
set_option linter.unusedVariables false

/-- An aggregate type of n cells. -/
structure AggT (P : Program) (t n : Nat) : Prop where
  d : ∃ d, P.underlying t = some d ∧ d.isRow = true
  sz : (P.info? t).map (·.size) = some n

/-- w1 is w but for block g, which holds these cells. -/
structure Wrote (w w1 : World) (g : Nat) (cs : List Value) (t : TypeId) : Prop where
  blk : w1.heap[g]? = some (.cells cs.toArray t (0, 0))
  oth : ∀ k, k ≠ g → w1.heap[k]? = w.heap[k]?
  size : w1.heap.size = w.heap.size
  os : w1.os = w.os
  tape : w1.tape = w.tape
  output : w1.output = w.output
theorem Wrote.kept {a w w1 : World} {g : Nat} {cs : List Value} {t : TypeId} (h : Wrote w w1 g cs t) (hk : Kept a w) (hg : a.heap.size ≤ g) : Kept a w1 :=
  Below.trans hk ⟨h.os, h.tape, h.output, by rw [h.size]; exact Nat.le_refl _, fun k hk => h.oth k (by omega)⟩
theorem Wrote.grown {w w1 : World} {g : Nat} {cs : List Value} {t : TypeId} (h : Wrote w w1 g cs t) : w.grownBy w1 (some g) :=
  ⟨h.os, h.tape, h.output, by rw [h.size]; exact Nat.le_refl _, fun k _ hk => h.oth k (by simpa using hk)⟩
theorem Wrote.cells {w w1 : World} {g : Nat} {cs : List Value} {t : TypeId} (h : Wrote w w1 g cs t) : Cells w1 g 0 cs := by
  simpa using Cells.of_block h.blk

theorem splice_all {α : Type} (L cs : List α) (h : cs.length = L.length) : splice L 0 cs = cs := by simp [splice, h]
theorem Wrote.all {w w1 : World} {g : Nat} {cur cs : List Value} {t : TypeId} (h : Wrote w w1 g (splice cur 0 cs) t) (hl : cs.length = cur.length) : Wrote w w1 g cs t := by rw [splice_all _ _ hl] at h; exact h

theorem rangeAt_of_cells {w : World} {b off : Nat} {xs : List Value} (h : Cells w b off xs) : w.rangeAt b off xs := by
  intro j v hv
  obtain ⟨hj, rfl⟩ := List.getElem?_eq_some_iff.1 hv
  exact h j hj

section
variable {P : Program} {ops : Array Oper} {rest : List Oper} {o : Oper} {a : Act} {w : World} {Q : Exit → Act → World → Prop}

/-- To stand still at a builtin's call, at a load, at a store. -/
theorem stop_bi (b : Builtin) (args : Array Operand) (ats : Array TypeId) (ho : o.op = .call { callee := .builtin b, args := args, argTypes := ats }) (h : wpList P ops Q (o :: rest) a w) : wpList P ops Q (o :: rest) a w := h
theorem stop_load (T : TypeId) (x : Operand) (ho : o.op = .load T x) (h : wpList P ops Q (o :: rest) a w) : wpList P ops Q (o :: rest) a w := h
theorem stop_store (T : TypeId) (x y : Operand) (ho : o.op = .store T x y) (h : wpList P ops Q (o :: rest) a w) : wpList P ops Q (o :: rest) a w := h

/-- A new variable of an aggregate type: zeros, the world a letter. -/
theorem wpList_alloc_abs (hgd : o.guard = none) (T : TypeId) (ho : o.op = .alloc T) (zs : List Value) (hz : ∀ w, (zeroValue T).run P w = .ok (.agg zs.toArray) w)
    (h : ∀ w1, Hid (w1.heap[w.heap.size]? = some (.cells zs.toArray T (0, 0))) → w.heap.size < w1.heap.size → Hid (w1.heap.size = w.heap.size + 1) → Kept w w1 → wpList P ops Q rest (a.put o.dst (.pointer (some ⟨w.heap.size, 0, none⟩))) w1) : wpList P ops Q (o :: rest) a w := by
  refine wpList_plain hgd fun K hK => ?_
  unfold Oper.wp execOp
  simp only [ho, Instr.alloc, newVar, newRow, Sem.run_bind, hz, Result.andThen_ok, Sem.run_pure, run_newObj_alloc, Value.cells]
  exact hK _ _ (h _ (Lib.hid (heap_alloc_new w _)) (by simp) (Lib.hid (World.size_alloc _ _)) ((Kept.refl _).alloc _))

theorem wpList_load_agg (hgd : o.guard = none) {T n : Nat} (x : Operand) (ho : o.op = .load T x) (hT : AggT P T n)
    (b off : Nat) (hx : a.eval x = .pointer (some ⟨b, off, none⟩)) (xs : List Value) (hc : Cells w b off xs) (hl : xs.length = n)
    (h : wpList P ops Q rest (a.put o.dst (.agg xs.toArray)) w) : wpList P ops Q (o :: rest) a w := by
  obtain ⟨⟨d, hd1, hd2⟩, hs⟩ := hT
  exact wpList_load_mid hgd T x ho b off hx xs d (rangeAt_of_cells hc) hd1 hd2 (by rw [hs, hl]) h

/-- The same where the operation has a guard that lets it run. -/
theorem wpList_load_aggW {T n : Nat} (x : Operand) (ho : o.op = .load T x) (hT : AggT P T n)
    (b off : Nat) (hx : a.eval x = .pointer (some ⟨b, off, none⟩)) (xs : List Value) (hc : Cells w b off xs) (hl : xs.length = n)
    (hw : Region.wanted o (yielded ops a.tmps) = true)
    (h : wpList P ops Q rest (a.put o.dst (.agg xs.toArray)) w) : wpList P ops Q (o :: rest) a w := by
  obtain ⟨⟨d, hd1, hd2⟩, hs⟩ := hT
  refine wpList_step fun K hK => ?_
  rw [if_pos hw]
  exact wp_load_mid T x ho b off hx xs d (rangeAt_of_cells hc) hd1 hd2 (by rw [hs, hl]) (hK _ _ h)

theorem wpList_store_agg (hgd : o.guard = none) {T n : Nat} (x y : Operand) (ho : o.op = .store T x y) (hT : AggT P T n)
    (b off : Nat) (hx : a.eval x = .pointer (some ⟨b, off, none⟩)) (xs : List Value) (hy : a.eval y = .agg xs.toArray) (hl : xs.length = n) (h1 : ∀ v ∈ xs, v.oneCell' = true)
    (cur : List Value) (t : TypeId) (hb : w.heap[b]? = some (.cells cur.toArray t (0, 0))) (hfit : off + n ≤ cur.length)
    (h : ∀ w1, Wrote w w1 b (splice cur off xs) t → wpList P ops Q rest (a.put o.dst undef) w1) : wpList P ops Q (o :: rest) a w := by
  refine wpList_plain hgd fun K hK => ?_
  have hst := run_storeCells_at P b off t xs 0 cur.toArray w hb (by simpa [hl] using hfit) h1
  obtain ⟨_, hs⟩ := hT
  cases hq : P.info? T with
  | none => simp [hq] at hs
  | some i =>
    have hi : i.size = n := by simpa [hq] using hs
    unfold Oper.wp execOp
    simp only [ho, hx, hy, Instr.storeAt, Instr.sureAddr, Sem.run_bind, Sem.run_pure, Result.andThen_ok, storeVar, sizeOf, typeInfo, run_program, hq, Value.cells, List.size_toArray, hi, hl, ne_eq, not_true_eq_false, if_false, hst]
    refine hK _ _ (h _ ⟨?_, ?_, ?_, rfl, rfl, rfl⟩)
    · rw [setRow_heap w b _ _ t _ hb]
      subst hl; simp [splice]
    · intro k hk; exact setRow_other w b k _ hk
    · simp

end

/-- 'a[lo:]' of an array behind a pointer, of elements of one cell. -/
theorem run_sliceAt_from {P : Program} (w : World) (t e n : Nat) (ht : P.underlying t = some (.array n e)) (hsz : (P.info? e).map (·.size) = some 1) (b off lo : Nat) (hlo : lo < n) :
    (Instr.sliceAt t (.pointer (some ⟨b, off, none⟩)) (some (.int .i64 (lo : Int))) none none).run P w = .ok (.slice (some ⟨b, off + lo, none⟩) (n - lo) (n - lo)) w := by
  cases hi : P.info? e with
  | none => simp [hi] at hsz
  | some i =>
    have h1 : i.size = 1 := by simpa [hi] using hsz
    have h2 : (0 : Int) ≤ (lo : Int) ∧ (lo : Int) ≤ (n : Int) := by omega
    have h3 : ¬ n = lo := by omega
    have h4 : (Instr.sliceBound (.int .i64 (lo : Int)) n .sliceB).run P w = .ok lo w := by
      simp only [Instr.sliceBound, asIntOf, Sem.run_bind, Sem.run_pure, Result.andThen_ok]
      rw [if_pos h2]; rfl
    simp [Instr.sliceAt, Instr.sureAddr, run_underlying ht, Instr.sliceBounds, h4, sizeOf, typeInfo, hi, h1, h3, Addr.add_lit]

theorem run_equalIn_ints {P : Program} (w : World) (d : Nat) (t e : TypeId) (n : Nat) (k : IntKind) (ht : P.underlying t = some (.array n e)) (he : P.underlying e = some (.int k)) (hsz : ∀ w, (sizeOf e).run P w = .ok 1 w)
    (xs ys : List Int) (hx : xs.length = n) (hy : ys.length = n) :
    (Op.equalIn (d + 2) t (.agg (xs.map (Value.int k)).toArray) (.agg (ys.map (Value.int k)).toArray)).run P w = .ok (xs == ys) w := by
  have hall : ((List.range' 0 n 1).all fun i => xs.getD i 0 == ys.getD i 0) = (xs == ys) := by
    rw [Bool.eq_iff_iff, List.all_eq_true, beq_iff_eq]
    constructor
    · intro h
      apply List.ext_getElem (by omega)
      intro i h1 h2
      have := h i (by rw [List.mem_range'_1]; omega)
      simpa [List.getD, h1, h2] using this
    · intro h i _; subst h; simp
  rw [← hall, Op.equalIn]
  simp only [Sem.run_bind, run_underlying ht, Result.andThen_ok, hsz, Std.Legacy.Range.forIn_eq_forIn_range', Std.Legacy.Range.size, Nat.sub_zero, Nat.add_sub_cancel, Nat.div_one]
  have hl : ∀ i ∈ List.range' 0 n 1, i < n := fun i hi => by simpa using (List.mem_range'_1.1 hi).2
  generalize List.range' 0 n 1 = l at hl ⊢
  clear hall
  induction l with
  | nil => simp
  | cons i l ih =>
    have hi : i < n := hl i (by simp)
    have px : (part e (xs.map (Value.int k)).toArray (i * 1)).run P w = .ok (.int k (xs.getD i 0)) w := by
      simp [part, isAgg, run_underlying he, List.getD, List.getElem?_eq_getElem (show i < xs.length by omega)]
    have py : (part e (ys.map (Value.int k)).toArray (i * 1)).run P w = .ok (.int k (ys.getD i 0)) w := by
      simp [part, isAgg, run_underlying he, List.getD, List.getElem?_eq_getElem (show i < ys.length by omega)]
    have pe : (Op.equalIn (d + 1) e (.int k (xs.getD i 0)) (.int k (ys.getD i 0))).run P w = .ok (xs.getD i 0 == ys.getD i 0) w :=
      run_equalIn_int w d e k k _ _ he
    simp only [List.forIn_cons, Sem.run_bind, px, py, pe, Result.andThen_ok, List.all_cons]
    cases hb : (xs.getD i 0 == ys.getD i 0)
    · simp
    · simp only [Bool.not_true, Bool.false_eq_true, if_false, Sem.run_pure, Result.andThen_ok, Bool.true_and]
      exact ih fun j hj => hl j (by simp [hj])

end Go.Proofs.YtpeclkhppgabfaaDoor
/- Bits of int. -/
namespace Go.Proofs.YtpeclkhppgabfaaDoor
open Go.RowKit
set_option linter.unusedVariables false

theorem ofInt_nat64 (a : Nat) (h : a < 9223372036854775808) : (BitVec.ofInt 64 (a : Int)).toNat = a := by
  rw [BitVec.toNat_ofInt]; omega

theorem i64_or_nat (a b : Nat) (ha : a < 9223372036854775808) (hb : b < 9223372036854775808) : bits .or .i64 (a : Int) (b : Int) = ((a ||| b : Nat) : Int) := by
  have hx : a ||| b < 2 ^ 63 := Nat.or_lt_two_pow (by omega) (by omega)
  show IntKind.i64.wrap ((BitVec.ofInt 64 (a : Int) ||| BitVec.ofInt 64 (b : Int)).toNat : Int) = _
  rw [BitVec.toNat_or, ofInt_nat64 a ha, ofInt_nat64 b hb, IntKind.wrap_i64]
  omega

theorem i64_shl8_or (y x : Int) (h1 : 0 ≤ y) (h2 : y < 1099511627776) (h3 : 0 ≤ x) (h4 : x ≤ 255) : bits .or .i64 (y * 256) x = y * 256 + x := by
  obtain ⟨Y, rfl⟩ := Int.eq_ofNat_of_zero_le h1
  obtain ⟨X, rfl⟩ := Int.eq_ofNat_of_zero_le h3
  have : ((Y : Int) * 256) = ((Y * 256 : Nat) : Int) := by omega
  rw [this, i64_or_nat _ _ (by omega) (by omega), nat_join 8 _ _ (by omega) (by omega)]
  omega

theorem i64_and_mask (n : Int) (k : Nat) (hk : k ≤ 62) : bits .and .i64 n (2 ^ k - 1) = n % 2 ^ k := by
  show IntKind.i64.wrap ((BitVec.ofInt 64 n &&& BitVec.ofInt 64 (2 ^ k - 1)).toNat : Int) = _
  have hp : 2 ^ k ≤ 2 ^ 62 := Nat.pow_le_pow_right (by decide) hk
  have hp0 : 0 < 2 ^ k := Nat.two_pow_pos k
  have e1 : ((2 : Int) ^ k - 1) = ((2 ^ k - 1 : Nat) : Int) := by
    have : ((2 ^ k : Nat) : Int) = (2 : Int) ^ k := by norm_cast
    omega
  rw [BitVec.toNat_and, e1, ofInt_nat64 _ (by omega), Nat.and_two_pow_sub_one_eq_mod, BitVec.toNat_ofInt, IntKind.wrap_i64]
  have hd : ((2 : Int) ^ k) ∣ 18446744073709551616 := ⟨2 ^ (64 - k), by rw [← Int.pow_add]; rw [show k + (64 - k) = 64 from by omega]; rfl⟩
  have e2 : (((n % ((2 ^ 64 : Nat) : Int)).toNat % 2 ^ k : Nat) : Int) = n % 2 ^ k := by
    have h0 : 0 ≤ n % ((2 ^ 64 : Nat) : Int) := Int.emod_nonneg _ (by decide)
    rw [Int.natCast_emod, Int.toNat_of_nonneg h0]
    have : ((2 ^ k : Nat) : Int) = (2 : Int) ^ k := by norm_cast
    rw [this]
    exact Int.emod_emod_of_dvd n hd
  rw [e2]
  have h1 : 0 ≤ n % 2 ^ k := Int.emod_nonneg _ (by have : ((2 ^ k : Nat) : Int) = (2 : Int) ^ k := by norm_cast
                                                   omega)
  have h2 : n % 2 ^ k < 2 ^ k := Int.emod_lt_of_pos _ (by have : ((2 ^ k : Nat) : Int) = (2 : Int) ^ k := by norm_cast
                                                          omega)
  have h3 : ((2 ^ k : Nat) : Int) = (2 : Int) ^ k := by norm_cast
  omega

end Go.Proofs.YtpeclkhppgabfaaDoor
/- pack.may, pack.Put, pack.Get. -/
namespace Go.Proofs.YtpeclkhppgabfaaDoor
open Go.RowKit
set_option linter.unusedVariables false

theorem ty_bytes : ElemT Tryd.prog 25 5 1 1 := by
  obtain ⟨i, h1, h2, h3, h4⟩ := info_parts (P := Tryd.prog) (e := 5) (z := .int .u8 0) (size := 1) (bytes := 1) (by kernel_rfl)
  exact ⟨by kernel_rfl, ⟨i, _, h1, h2, h3, h4, by rfl⟩, by decide⟩

/-- may v be written in width bytes? -/
def mayPut (v width : Int) : Bool := decide (1 ≤ width) && (decide (width ≤ 6) && (decide (0 ≤ v) && (v / 2 ^ (8 * width).toNat == 0)))
theorem mayPut_iff (v width : Int) : mayPut v width = true ↔ 1 ≤ width ∧ width ≤ 6 ∧ 0 ≤ v ∧ v < 2 ^ (8 * width).toNat := by
  have hp : (0 : Int) < 2 ^ (8 * width).toNat := Int.pow_pos (by decide)
  simp only [mayPut, Bool.and_eq_true, decide_eq_true_eq, beq_iff_eq]
  constructor
  · rintro ⟨a, b, c, d⟩
    refine ⟨a, b, c, ?_⟩
    have := Int.lt_ediv_add_one_mul_self v hp
    rw [d] at this; simpa using this
  · rintro ⟨a, b, c, d⟩
    exact ⟨a, b, c, Int.ediv_eq_zero_of_lt c d⟩

set_option maxHeartbeats 400000 in
theorem pack_may (v width : Int) (w : World) :
    Calls Tryd.prog 85 #[.int .i64 v, .int .i64 width] w fun e w' => e = .returned (.bool (mayPut v width)) ∧ w = w' := by
  go_enter Tryd.func85, Tryd.ntmps85
  go_wp2
  · go_ret
    refine ⟨ret_bool ?_, rfl⟩
    simp [mayPut, *]
  · go_ret
    refine ⟨ret_bool ?_, rfl⟩
    have : ¬ 0 ≤ v := by omega
    simp [mayPut, this]
  · go_ret
    refine ⟨ret_bool ?_, rfl⟩
    have : ¬ width ≤ 6 := by omega
    simp [mayPut, this]
  · go_ret
    refine ⟨ret_bool ?_, rfl⟩
    have : ¬ 1 ≤ width := by omega
    simp [mayPut, this]

/-- the k lowest bytes of v, the highest first -/
def beBytes (v : Int) : Nat → List Int
  | 0 => []
  | k + 1 => (v / 2 ^ (8 * k)) % 256 :: beBytes v k
theorem beBytes_length (v : Int) (k : Nat) : (beBytes v k).length = k := by induction k <;> simp_all [beBytes]
def u8s (l : List Int) : List Value := l.map (.int .u8)
theorem u8s_length (l : List Int) : (u8s l).length = l.length := by simp [u8s]
theorem u8s_append (l k : List Int) : u8s (l ++ k) = u8s l ++ u8s k := by simp [u8s]
theorem u8s_one (l : List Int) : ∀ u ∈ u8s l, u.oneCell' = true := by
  intro u hu
  simp only [u8s, List.mem_map] at hu
  obtain ⟨n, _, rfl⟩ := hu
  rfl

theorem pack_may_t (v width : Int) (w : World) (h : mayPut v width = true) :
    Calls Tryd.prog 85 #[.int .i64 v, .int .i64 width] w fun e w' => e = .returned (.bool true) ∧ w = w' :=
  (pack_may v width w).mono fun e w' ⟨he, hw⟩ => ⟨by rw [he, h], hw⟩
theorem pack_may_f (v width : Int) (w : World) (h : mayPut v width = false) :
    Calls Tryd.prog 85 #[.int .i64 v, .int .i64 width] w fun e w' => e = .returned (.bool false) ∧ w = w' :=
  (pack_may v width w).mono fun e w' ⟨he, hw⟩ => ⟨by rw [he, h], hw⟩

set_option maxHeartbeats 800000 in
set_option maxRecDepth 100000 in
theorem pack_PutN (sv : Value) (bs : List Int) (v : Int) (W : Nat) (w : World) (hs : Src w 1 sv bs.length (u8s bs)) (hlen : bs.length ≤ 2147483648) (hm : mayPut v W = true) :
    Calls Tryd.prog 68 #[sv, .int .i64 v, .int .i64 W] w fun e w' =>
      ∃ sv', e = .returned sv' ∧ w'.ownsRow w.heap.size 5 1 sv' (bs.length + W) (u8s (bs ++ beBytes v W)) ∧ Kept w w' := by
  obtain ⟨w1, w6, v0, vp⟩ := (mayPut_iff v W).1 hm
  have hs0 := hs
  obtain ⟨hl, ax, c, rfl, hlc, hnone, hc⟩ := hs
  have HM := Lib.hid hm; clear hm
  have HN := Lib.hid hnone; clear hnone
  have HC := Lib.hid hc; clear hc
  have HS := Lib.hid hs0; clear hs0
  clear hl vp
  go_enter Tryd.func68, Tryd.ntmps68
  go_wp2_with (go_at_call 85; refine (pack_may_t _ _ _ HM.out).mono ?_; rintro e w' ⟨rfl, rfl⟩)
  clear HM
  go_loopw [0, 7] (fun b i wr => ∃ k : Nat, ∃ pre, k ≤ W ∧ i = .int .i64 ((k : Int) - 1) ∧ pre.length + k = W ∧ pre ++ beBytes v k = beBytes v W ∧ App wr w.heap.size 5 1 b (bs.length + pre.length) (u8s (bs ++ pre)) ∧
    (k < W → wr.ownsRow w.heap.size 5 1 b (bs.length + pre.length) (u8s (bs ++ pre))) ∧ Kept w wr) (fun _ i _ => (intOf i + 1).toNat)
  case atStart => exact ⟨W, [], Nat.le_refl _, rfl, by simp, by simp, by simpa using App.full HS.out, fun h => by omega, Kept.refl _⟩
  case round =>
    obtain ⟨k, pre, hk, rfl, hpl, hpre, happ, hown, hbel⟩ := hrel
    have HP := Lib.hid hpre; clear hpre
    have HO := Lib.hid hown; clear hown
    have hsz := hbel.size
    rcases k with _ | k
    · go_wp2
      go_ret
      have hpl' : pre.length = W := by omega
      have hp := HP.out
      simp only [beBytes, List.append_nil] at hp
      subst hp
      rw [hpl'] at HO
      exact ⟨_, rfl, HO.out (by omega), hbel⟩
    · have ka : ∀ o, Kept wr (wr.alloc o) := fun o => (Kept.refl _).alloc o
      have hb1 := beBytes_length v k
      go_wp2_with (at_builtin; refine (id ?roundEnd))
      refine wpList_append_app _ rfl _ _ rfl ty_bytes w.heap.size u0 (bs.length + pre.length) (u8s (bs ++ pre)) rfl (happ.kept (ka _)) _ 1 [.int .u8 (v / 2 ^ (8 * k) % 256)] rfl Src.one (by intro u hu; simp at hu; subst hu; rfl) (by simp only [maxLen]; omega) (by omega) (by simp; omega) ?nx
      intro v' w' happ' _ hb' hown'
      have e1 : u8s (bs ++ pre) ++ [.int .u8 (v / 2 ^ (8 * k) % 256)] = u8s (bs ++ (pre ++ [v / 2 ^ (8 * k) % 256])) := by simp [u8s]
      have e2 : bs.length + pre.length + 1 = bs.length + (pre ++ [v / 2 ^ (8 * k) % 256]).length := by simp; omega
      rw [e1, e2] at happ' hown'
      have HA := Lib.hid happ'; clear happ'
      have HB := Lib.hid hown'; clear hown'
      clear e1 e2 happ HO HC HS HN
      have hk2 : Kept w w' := (hbel.trans (ka _)).below (Nat.le_refl _) hb'
      clear hb'
      go_wp2
      go_roundw
      case rel => exact ⟨k, pre ++ [v / 2 ^ (8 * k) % 256], by omega, by go_num, by simp; omega, by rw [← HP.out]; simp [beBytes], HA.out, fun _ => HB.out (.inl (by omega)), hk2⟩
      case measure => simp [intOf] <;> omega

theorem pack_Put (sv : Value) (bs : List Int) (v width : Int) (w : World) (hs : Src w 1 sv bs.length (u8s bs)) (hlen : bs.length ≤ 2147483648) (hm : mayPut v width = true) :
    Calls Tryd.prog 68 #[sv, .int .i64 v, .int .i64 width] w fun e w' =>
      ∃ sv', e = .returned sv' ∧ w'.ownsRow w.heap.size 5 1 sv' (bs ++ beBytes v width.toNat).length (u8s (bs ++ beBytes v width.toNat)) ∧ Kept w w' := by
  obtain ⟨w1, _⟩ := (mayPut_iff v width).1 hm
  obtain ⟨W, rfl⟩ := Int.eq_ofNat_of_zero_le (show 0 ≤ width by omega)
  refine (pack_PutN sv bs v W w hs hlen hm).mono fun e w' ⟨sv', he, ho, hk⟩ => ⟨sv', he, ?_, hk⟩
  rw [List.length_append, beBytes_length]; exact ho

/-- the number that bytes say, the highest first -/
def beVal (l : List Int) : Int := l.foldl (fun a c => a * 256 + c) 0
theorem beVal_snoc (l : List Int) (c : Int) : beVal (l ++ [c]) = beVal l * 256 + c := by simp [beVal]
def IsByte (c : Int) : Prop := 0 ≤ c ∧ c ≤ 255
theorem beVal_bd (l : List Int) (h : ∀ c ∈ l, IsByte c) : 0 ≤ beVal l ∧ beVal l < 256 ^ l.length := by
  suffices ∀ (r : List Int), (∀ c ∈ r, IsByte c) → 0 ≤ beVal r.reverse ∧ beVal r.reverse < 256 ^ r.length by
    have := this l.reverse (fun c hc => h c (by simpa using hc)); simpa using this
  intro r
  induction r with
  | nil => intro _; simp [beVal]
  | cons c r ih =>
    intro h
    have ih' := ih (fun c hc => h c (by simp [hc]))
    have hc := h c (by simp)
    obtain ⟨a, b⟩ := hc
    rw [List.reverse_cons, beVal_snoc, List.length_cons, Int.pow_succ]
    omega

theorem getD_u8s (bs : List Int) (k : Nat) (h : k < bs.length) : (u8s bs)[k]? = some (.int .u8 (bs.getD k 0)) := by
  simp [u8s, h]

set_option maxHeartbeats 800000 in
set_option maxRecDepth 100000 in
theorem pack_GetN (b off n c : Nat) (bs : List Int) (W : Nat) (w : World) (hb : ∀ x ∈ bs, IsByte x) (hs : Cells w b off (u8s bs)) (hl : bs.length = n) (hnc : n ≤ c) (hn : n ≤ 2147483648) (h1 : 1 ≤ W) (h6 : W ≤ 6) (hW : W ≤ n) :
    Calls Tryd.prog 70 #[.slice (some ⟨b, off, none⟩) n c, .int .i64 W] w fun e w' => e = .returned (.tuple #[.int .i64 (beVal (bs.take W)), .bool true]) ∧ w = w' := by
  have HS := Lib.hid hs; clear hs
  have HL := Lib.hid hl; clear hl
  have hw1 : ¬ ((W : Int) < 1) := by omega
  have hw2 : ¬ ((6 : Int) < W) := by omega
  have hw3 : ¬ ((n : Int) < W) := by omega
  go_enter Tryd.func70, Tryd.ntmps70
  go_wp2
  go_loop [6, 25] (fun v i => ∃ k : Nat, k ≤ W ∧ i = .int .i64 k ∧ v = .int .i64 (beVal (bs.take k))) (fun _ i => W - (intOf i).toNat)
  case atStart => exact ⟨0, Nat.zero_le _, rfl, rfl⟩
  case round =>
    obtain ⟨k, hk, rfl, rfl⟩ := hrel
    by_cases hlt : k < W
    · have hkl : k < bs.length := by rw [HL.out]; omega
      have hc : w.cell? ⟨b, off + k, none⟩ = some (.int .u8 bs[k]) := by
        have := HS.out k (by rw [u8s_length]; exact hkl)
        simpa [u8s] using this
      have hby := hb bs[k] (List.getElem_mem hkl)
      have hv := beVal_bd (bs.take k) (fun c hc => hb c (List.mem_of_mem_take hc))
      have hsn : beVal (bs.take (k + 1)) = beVal (bs.take k) * 256 + bs[k] := by
        rw [List.take_succ_eq_append_getElem hkl, beVal_snoc]
      have hp : (256 : Int) ^ (bs.take k).length ≤ 256 ^ 5 := by
        have : (bs.take k).length ≤ 5 := by simp; omega
        exact_mod_cast Nat.pow_le_pow_right (by decide) this
      have HV := Lib.hid hsn; clear hsn
      generalize bs[k] = x at *
      generalize beVal (bs.take k) = y at *
      obtain ⟨hx0, hx1⟩ := hby
      obtain ⟨hy0, hy1⟩ := hv
      have hy2 : y < 1099511627776 := by
        have : (256 : Int) ^ 5 = 1099511627776 := by decide
        omega
      clear hy1 hp
      go_wp2
      rw [i64_shl8_or y x hy0 hy2 hx0 hx1]
      go_round
      case rel => exact ⟨k + 1, by omega, by go_num, by rw [HV.out]⟩
      case measure => simp [intOf]; omega
    · obtain rfl : k = W := by omega
      go_wp2
      go_ret2
      exact ⟨rfl, rfl⟩

theorem pack_Get (b off n c : Nat) (bs : List Int) (width : Int) (w : World) (hb : ∀ x ∈ bs, IsByte x) (hs : Cells w b off (u8s bs)) (hl : bs.length = n) (hnc : n ≤ c) (hn : n ≤ 2147483648) (h1 : 1 ≤ width) (h6 : width ≤ 6) (hW : width ≤ n) :
    Calls Tryd.prog 70 #[.slice (some ⟨b, off, none⟩) n c, .int .i64 width] w fun e w' => e = .returned (.tuple #[.int .i64 (beVal (bs.take width.toNat)), .bool true]) ∧ w = w' := by
  obtain ⟨W, rfl⟩ := Int.eq_ofNat_of_zero_le (show 0 ≤ width by omega)
  exact pack_GetN b off n c bs W w hb hs hl hnc hn (by omega) (by omega) (by omega)

end Go.Proofs.YtpeclkhppgabfaaDoor
/- Sectors. -/
namespace Go.Proofs.YtpeclkhppgabfaaDoor
open Go.RowKit
set_option linter.unusedVariables false

/-- a sector of these bytes -/
def secV (bs : List Int) : Value := .agg (u8s bs).toArray
/-- the sector of noughts -/
def zeroB : List Int := List.replicate 64 0
theorem conv_const (w : World) (C : Array Value) (n c : Nat) :
    (convert 25 25 (.slice (some ⟨w.heap.size, 0, none⟩) n c)).run Tryd.prog (w.alloc (.cells C 5)) = .ok (.slice (some ⟨w.heap.size, 0, none⟩) n c) (w.alloc (.cells C 5 (C.size, C.size + 1))) :=
  Lib.run_convert_bytes_const (P := Tryd.prog) w 25 5 C n c Tryd.underlying25 Tryd.underlying5
theorem zeroB_length : zeroB.length = 64 := by simp [zeroB]
theorem ty_sec : AggT Tryd.prog 39 64 := ⟨⟨_, (show Tryd.prog.underlying 39 = some (.array 64 5) by kernel_rfl), rfl⟩, by kernel_rfl⟩
theorem zero_sec : ∀ w, (zeroValue 39).run Tryd.prog w = .ok (.agg (u8s zeroB).toArray) w := fun w => by
  have h1 : (Tryd.prog.info? 39).map (·.zero) = some (some (.agg (u8s zeroB).toArray)) := by kernel_rfl
  cases hi : Tryd.prog.info? 39 with
  | none => simp [hi] at h1
  | some i =>
    have hz : i.zero = some (.agg (u8s zeroB).toArray) := by simpa [hi] using h1
    simp [zeroValue, typeInfo, hi, hz]
theorem run_equal_sec (xs ys : List Int) (hx : xs.length = 64) (hy : ys.length = 64) (w : World) :
    (Op.equalIn 10000 39 (secV xs) (secV ys)).run Tryd.prog w = .ok (xs == ys) w :=
  run_equalIn_ints w 9998 39 5 64 .u8 (by kernel_rfl) (by kernel_rfl) (fun w => by
    obtain ⟨i, h1, _, h3, _⟩ := info_parts (P := Tryd.prog) (e := 5) (z := .int .u8 0) (size := 1) (bytes := 1) (by kernel_rfl)
    simp [sizeOf, typeInfo, h1, h3]) xs ys hx hy
theorem run_equal_secA (xs ys : List Int) (hx : xs.length = 64) (hy : ys.length = 64) (w : World) :
    (Op.equalIn 10000 39 (.agg (u8s xs).toArray) (.agg (u8s ys).toArray)).run Tryd.prog w = .ok (xs == ys) w := run_equal_sec xs ys hx hy w
theorem eqg_sec : Tryd.prog.eqGuardType Tryd.prog.depth 39 = false := by kernel_rfl
theorem u8s_oneA (l : List Int) : (u8s l).toArray.all (·.oneCell') = true := by
  rw [Array.all_eq_true_iff_forall_mem]; intro x hx; exact u8s_one l x (by simpa using hx)
/-- a function whose results are a sector's variable and a number -/
theorem results_sec {fn : Func} {p q : Tmp} (h : fn.results = #[.cell p 39, .tmp q]) (tmps : Array Value) (w : World) (b : Nat) (bs : List Int)
    (hp : tmps.getD p undef = .pointer (some ⟨b, 0, none⟩)) (hc : Cells w b 0 (u8s bs)) (hl : bs.length = 64) :
    (results fn tmps).run Tryd.prog w = .ok (.tuple #[secV bs, tmps.getD q undef]) w := by
  obtain ⟨⟨d, hd1, hd2⟩, hs⟩ := ty_sec
  have hp' : tmps[p]?.getD undef = .pointer (some ⟨b, 0, none⟩) := by simpa using hp
  have hr := run_loadVar_mid (P := Tryd.prog) w b 0 39 (u8s bs) d (rangeAt_of_cells hc) hd1 hd2 (by rw [hs, u8s_length, hl])
  simp [results, h, hp', asAddr, hr, secV]

end Go.Proofs.YtpeclkhppgabfaaDoor
/- Records in plain Lean: their parts, what a part says, how they are joined. -/
namespace Go.Proofs.YtpeclkhppgabfaaDoor
set_option linter.unusedVariables false
set_option linter.unusedSimpArgs false

/-- how many sectors so many bytes take -/
def partsN (n : Nat) : Nat := if 2120 < n then 0 else max 1 ((n + 52) / 53)
structure Tag where
  gen : Int
  num : Int
  part : Int
  parts : Int
  len : Int
deriving DecidableEq
/-- a part -/
def partB (gen num i n : Int) (b : List Int) : List Int :=
  let x := beBytes gen 4 ++ beBytes num 4 ++ [i % 256, n % 256, (b.length : Int) % 256] ++ b
  x ++ List.replicate (64 - x.length) 0
def pieceB (b : List Int) (i : Nat) : List Int := (b.drop (i * 53)).take 53
def splitB (gen num : Int) (b : List Int) : List (List Int) := (List.range (partsN b.length)).map fun (i : Nat) => partB gen num (i : Int) (partsN b.length : Int) (pieceB b i)
/-- what a sector says, as it stands -/
def tagRaw (s : List Int) : Tag := ⟨beVal (s.take 4), beVal ((s.drop 4).take 4), s.getD 8 0, s.getD 9 0, s.getD 10 0⟩
def tagBad (s : List Int) (t : Tag) : Bool :=
  decide (t.parts < 1) || decide (40 < t.parts) || decide (t.parts ≤ t.part) || decide (53 < t.len) ||
  (decide (t.part + 1 ≠ t.parts) && decide (t.len < 53)) || (decide (t.part + 1 = t.parts) && (decide (1 < t.parts) && decide (t.len = 0))) ||
  (s.drop (11 + t.len.toNat)).any fun c => decide (c ≠ 0)
def tagOf (s : List Int) : Option Tag := if tagBad s (tagRaw s) then none else some (tagRaw s)
def isPart (o : Option Tag) (gen num : Int) (i n : Nat) : Bool := match o with | none => false | some t => decide (t = ⟨gen, num, (i : Int), (n : Int), t.len⟩)
def joinB (gen num : Int) (l : List (List Int)) : Option (List Int) :=
  if l.length = 0 then none
  else if (List.range l.length).all fun (i : Nat) => isPart (tagOf (l.getD i [])) gen num i l.length then some (l.flatMap fun s => (s.drop 11).take (s.getD 10 0).toNat) else none
theorem partsN_pos {n : Nat} (h : n ≤ 2120) : 1 ≤ partsN n ∧ partsN n ≤ 40 ∧ n ≤ partsN n * 53 ∧ (partsN n - 1) * 53 ≤ n ∧ (1 < partsN n → (partsN n - 1) * 53 < n) := by
  unfold partsN
  rw [if_neg (by omega)]
  omega
theorem pieceB_len (b : List Int) (i : Nat) : (pieceB b i).length = min 53 (b.length - i * 53) := by simp [pieceB]
theorem partB_len (gen num i n : Int) {b : List Int} (h : b.length ≤ 53) : (partB gen num i n b).length = 64 := by
  unfold partB
  simp only [List.length_append, beBytes_length, List.length_cons, List.length_nil, List.length_replicate]
  omega
theorem beVal4' (v : Int) (h0 : 0 ≤ v) (h : v < 4294967296) : beVal (beBytes v 4) = v := by simp [beVal, beBytes]; omega
theorem beBytes_isB (v : Int) (n : Nat) : ∀ x ∈ beBytes v n, IsByte x := by
  induction n with
  | zero => intro x hx; simp [beBytes] at hx
  | succ k ih =>
    intro x hx
    rw [beBytes, List.mem_cons] at hx
    rcases hx with rfl | hx
    · exact ⟨by omega, by omega⟩
    · exact ih x hx
theorem partB_cons (gen num i n : Int) (b : List Int) : partB gen num i n b = beBytes gen 4 ++ (beBytes num 4 ++ ((i % 256) :: (n % 256) :: ((b.length : Int) % 256) :: (b ++ List.replicate (64 - (11 + b.length)) 0))) := by
  unfold partB
  simp only [List.length_append, beBytes_length, List.length_cons, List.length_nil, List.append_assoc, List.cons_append, List.nil_append]
  rw [show 4 + (4 + (b.length + 1 + 1 + 1)) = 11 + b.length by omega]
theorem flatMap_same {α β : Type} {l : List α} {f g : α → List β} (h : ∀ x ∈ l, f x = g x) : l.flatMap f = l.flatMap g := by
  induction l with
  | nil => rfl
  | cons a l ih => rw [List.flatMap_cons, List.flatMap_cons, h a (by simp), ih (fun x hx => h x (by simp [hx]))]
theorem drop_beBytes (v : Int) (l : List Int) (k : Nat) : (beBytes v 4 ++ l).drop (4 + k) = l.drop k := by
  rw [← List.drop_drop, List.drop_left' (beBytes_length v 4)]
theorem partB_drop (gen num i n : Int) (b : List Int) : (partB gen num i n b).drop 11 = b ++ List.replicate (64 - (11 + b.length)) 0 := by
  rw [partB_cons, show 11 = 4 + (4 + 3) by rfl, drop_beBytes, drop_beBytes]; rfl
theorem partB_at (gen num i n : Int) (b : List Int) (k : Nat) : (partB gen num i n b).getD (8 + k) 0 = ((i % 256) :: (n % 256) :: ((b.length : Int) % 256) :: (b ++ List.replicate (64 - (11 + b.length)) 0)).getD k 0 := by
  rw [partB_cons, List.getD_eq_getElem?_getD, List.getD_eq_getElem?_getD, List.getElem?_append_right (by rw [beBytes_length]; omega), List.getElem?_append_right (by rw [beBytes_length, beBytes_length]; omega), beBytes_length, beBytes_length]
  congr 2
  omega
theorem partB_raw {gen num : Int} {i n : Nat} {b : List Int} (hg : 0 ≤ gen ∧ gen < 4294967296) (hn : 0 ≤ num ∧ num < 4294967296) (hi : i < n) (h40 : n ≤ 40) (hb : b.length ≤ 53) : tagRaw (partB gen num i n b) = ⟨gen, num, i, n, b.length⟩ := by
  unfold tagRaw
  have h8 := partB_at gen num i n b 0
  have h9 := partB_at gen num i n b 1
  have h10 := partB_at gen num i n b 2
  simp only [Nat.add_zero, Nat.reduceAdd] at h8 h9 h10
  rw [h8, h9, h10]
  have ht : (partB gen num i n b).take 4 = beBytes gen 4 := by rw [partB_cons]; exact List.take_left' (beBytes_length gen 4)
  have hd : ((partB gen num i n b).drop 4).take 4 = beBytes num 4 := by
    rw [partB_cons, List.drop_left' (beBytes_length gen 4)]; exact List.take_left' (beBytes_length num 4)
  rw [ht, hd, beVal4' gen hg.1 hg.2, beVal4' num hn.1 hn.2]
  simp only [List.getD_cons_zero, List.getD_cons_succ]
  congr 1 <;> omega
theorem partB_tag {gen num : Int} {i n : Nat} {b : List Int} (hg : 0 ≤ gen ∧ gen < 4294967296) (hn : 0 ≤ num ∧ num < 4294967296) (hi : i < n) (h40 : n ≤ 40) (hb : b.length ≤ 53) (h1 : i + 1 ≠ n → b.length = 53) (h2 : i + 1 = n → 1 < n → 0 < b.length) : tagOf (partB gen num i n b) = some ⟨gen, num, i, n, b.length⟩ := by
  have hr := partB_raw hg hn hi h40 hb
  have hbad : tagBad (partB gen num i n b) ⟨gen, num, i, n, b.length⟩ = false := by
    unfold tagBad
    have hz : ((partB gen num i n b).drop (11 + ((b.length : Int)).toNat)).any (fun c => decide (c ≠ 0)) = false := by
      rw [← List.drop_drop, partB_drop, Int.toNat_natCast, List.drop_left]
      simp
    simp only [hz, Bool.or_false]
    simp only [Bool.or_eq_false_iff, Bool.and_eq_false_iff, decide_eq_false_iff_not]
    refine ⟨⟨⟨⟨⟨by omega, by omega⟩, by omega⟩, by omega⟩, ?_⟩, ?_⟩
    · by_cases e : i + 1 = n
      · left; omega
      · right; have := h1 e; omega
    · by_cases e : i + 1 = n
      · right
        by_cases e1 : 1 < n
        · right; have := h2 e e1; omega
        · left; omega
      · left; omega
  unfold tagOf
  rw [hr, hbad]
  rfl
theorem partB_byte {gen num i n : Int} {b : List Int} (h : ∀ x ∈ b, IsByte x) : ∀ x ∈ partB gen num i n b, IsByte x := by
  intro x hx
  rw [partB_cons] at hx
  simp only [List.mem_append, List.mem_cons, List.mem_replicate] at hx
  rcases hx with hx | hx | rfl | rfl | rfl | hx | ⟨_, rfl⟩
  · exact beBytes_isB _ _ x hx
  · exact beBytes_isB _ _ x hx
  · exact ⟨by omega, by omega⟩
  · exact ⟨by omega, by omega⟩
  · exact ⟨by omega, by omega⟩
  · exact h x hx
  · exact ⟨by omega, by omega⟩
theorem splitB_len (gen num : Int) (b : List Int) : (splitB gen num b).length = partsN b.length := by simp [splitB]
theorem splitB_at (gen num : Int) (b : List Int) {i : Nat} (h : i < partsN b.length) : (splitB gen num b).getD i [] = partB gen num (i : Int) (partsN b.length : Int) (pieceB b i) := by
  rw [List.getD_eq_getElem?_getD, List.getElem?_eq_getElem (by rw [splitB_len]; exact h)]
  simp [splitB]
theorem splitB_tag {gen num : Int} {b : List Int} (hg : 0 ≤ gen ∧ gen < 4294967296) (hn : 0 ≤ num ∧ num < 4294967296) (hb : b.length ≤ 2120) {i : Nat} (h : i < partsN b.length) : tagOf ((splitB gen num b).getD i []) = some ⟨gen, num, i, partsN b.length, (pieceB b i).length⟩ := by
  obtain ⟨p1, p2, p3, p4, p5⟩ := partsN_pos hb
  have hl := pieceB_len b i
  have hm1 : i * 53 ≤ (partsN b.length - 1) * 53 := Nat.mul_le_mul_right _ (by omega)
  rw [splitB_at gen num b h]
  refine partB_tag hg hn h p2 (by omega) (fun e => ?_) (fun e e1 => ?_)
  · have : (i + 1) * 53 ≤ (partsN b.length - 1) * 53 := Nat.mul_le_mul_right _ (by omega)
    omega
  · have := p5 e1
    rw [show partsN b.length - 1 = i by omega] at this
    omega
/-- what was split is joined -/
theorem join_split {gen num : Int} {b : List Int} (hg : 0 ≤ gen ∧ gen < 4294967296) (hn : 0 ≤ num ∧ num < 4294967296) (hb : b.length ≤ 2120) : joinB gen num (splitB gen num b) = some b := by
  obtain ⟨p1, p2, p3, p4, p5⟩ := partsN_pos hb
  unfold joinB
  rw [splitB_len, if_neg (by omega), if_pos]
  · congr 1
    have hm : (splitB gen num b).flatMap (fun s => (s.drop 11).take (s.getD 10 0).toNat) = (List.range (partsN b.length)).flatMap (pieceB b) := by
      unfold splitB
      rw [List.flatMap_map]
      refine flatMap_same fun i hi => ?_
      have hl := pieceB_len b i
      have h10 := partB_at gen num (i : Int) (partsN b.length : Int) (pieceB b i) 2
      simp only [Nat.reduceAdd, List.getD_cons_succ, List.getD_cons_zero] at h10
      rw [h10, partB_drop, show ((((pieceB b i).length : Int)) % 256).toNat = (pieceB b i).length by omega, List.take_left]
    rw [hm]
    have key : ∀ k, (List.range k).flatMap (pieceB b) = b.take (k * 53) := by
      intro k
      induction k with
      | zero => simp
      | succ k ih =>
        rw [List.range_succ, List.flatMap_append, ih, List.flatMap_cons, List.flatMap_nil, List.append_nil, Nat.succ_mul, List.take_add]
        rfl
    rw [key, List.take_of_length_le p3]
  · rw [List.all_eq_true]
    intro i hi
    rw [List.mem_range] at hi
    rw [splitB_tag hg hn hb hi]
    simp [isPart]
end Go.Proofs.YtpeclkhppgabfaaDoor
