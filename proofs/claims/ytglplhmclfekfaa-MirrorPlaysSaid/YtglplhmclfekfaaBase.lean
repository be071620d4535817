/- General lemmas on memory and endings; no function of the program. -/
import Derived.Test.YtglplhmclfekfaaProg
import Derived.WalkKit
import Derived.WalkLawsBesides
import Derived.WalkSpells
import Derived.Outline
import Derived.Lib.Hide
import Derived.BigQuiet
import Derived.Deep.QuietTactic
import Derived.Deep.AppendLies
namespace Go.Proofs.Ytglplhmclfekfaa
open Go.RowKit
set_option linter.unusedVariables false

theorem ret_eq {v v' : Value} (h : v = v') : Ending.returned v = Ending.returned v' := by rw [h]
theorem ret_int {k : IntKind} {a b : Int} (h : a = b) : Ending.returned (.int k a) = .returned (.int k b) := by rw [h]
theorem ret_bool {a b : Bool} (h : a = b) : Ending.returned (.bool a) = .returned (.bool b) := by rw [h]

/-- Nothing that was there has turned. -/
def Kept (w w' : World) : Prop := Below w.heap.size w w'
theorem Kept.refl (w : World) : Kept w w := Below.refl _ _
theorem Kept.trans {a b c : World} (h : Kept a b) (k : Kept b c) : Kept a c := Below.trans h (Below.mono k (Below.size h))
theorem Kept.alloc {a b : World} (h : Kept a b) (o : Obj) : Kept a (b.alloc o) := Below.alloc h (Below.size h) o
theorem Kept.drew {a b : World} (h : Kept a b) : Kept a b.drew := Below.drew h
theorem Kept.drewN {a b : World} (h : Kept a b) (n : Nat) : Kept a (b.drewN n) := below_drewN h n
theorem Kept.setCell {a b : World} (h : Kept a b) {p : Addr} (hp : a.heap.size ≤ p.block) (u : Value) : Kept a (b.setCell p u) := Below.setCell h hp u
theorem Kept.grown {a b c : World} {row : Option Nat} (h : Kept a b) (hg : b.grownBy c row) (hr : ∀ k, row = some k → a.heap.size ≤ k) : Kept a c := Below.grown h hg (Below.size h) hr
theorem Kept.size {a b : World} (h : Kept a b) : a.heap.size ≤ b.heap.size := Below.size h
theorem Kept.cell {a b : World} (h : Kept a b) {p : Addr} (hp : p.block < a.heap.size) : b.cell? p = a.cell? p := Below.cell h hp
theorem Kept.cell' {a b : World} (h : Kept a b) {p : Addr} {v : Value} (hc : a.cell? p = some v) : b.cell? p = some v := (h.cell (World.block_lt_of_cell? _ _ hc)).trans hc
theorem Kept.block {a b : World} (h : Kept a b) {k : Nat} {o : Obj} (hc : a.heap[k]? = some o) : b.heap[k]? = some o := (Below.block h k (Array.getElem?_eq_some_iff.1 hc).1).trans hc
theorem Kept.block_eq {a b : World} (h : Kept a b) {k : Nat} (hk : k < a.heap.size) : b.heap[k]? = a.heap[k]? := Below.block h k hk
theorem Kept.q {a b : World} (h : Kept a b) : ∀ k o, k < a.heap.size → b.cell? ⟨k, o, none⟩ = a.cell? ⟨k, o, none⟩ := fun _ _ hk => h.cell hk
theorem Kept.qf {a b : World} (h : Kept a b) : ∀ k o, k < a.heap.size → b.frozen? ⟨k, o, none⟩ = a.frozen? ⟨k, o, none⟩ := fun _ _ hk => Below.frozen h hk
theorem Kept.frozen {a b : World} (h : Kept a b) {p : Addr} (hp : p.block < a.heap.size) : b.frozen? p = a.frozen? p := Below.frozen h hp

/-- The cells from ⟨b, off⟩ on read xs. -/
def Cells (w : World) (b off : Nat) (xs : List Value) : Prop := ∀ j (h : j < xs.length), w.cell? ⟨b, off + j, none⟩ = some xs[j]
theorem Cells.kept {a b : World} {k off : Nat} {xs : List Value} (h : Cells a k off xs) (hk : Kept a b) : Cells b k off xs := fun j hj => hk.cell' (h j hj)
theorem Cells.at {w : World} {b off : Nat} {xs : List Value} (h : Cells w b off xs) (j : Nat) (hj : j < xs.length) : w.cell? ⟨b, off + j, none⟩ = some xs[j] := h j hj
theorem Cells.getD {w : World} {b off : Nat} {xs : List Value} (h : Cells w b off xs) (j : Nat) (hj : j < xs.length) : w.cell? ⟨b, off + j, none⟩ = some (xs.getD j undef) := by
  rw [h j hj, List.getD_eq_getElem?_getD, List.getElem?_eq_getElem hj]; rfl
theorem Cells.add {w : World} {b off : Nat} {xs : List Value} (h : Cells w b off xs) : ∀ j u, xs[j]? = some u → w.cell? ((⟨b, off, none⟩ : Addr).add j) = some u := by
  intro j u hu
  obtain ⟨hj, rfl⟩ := List.getElem?_eq_some_iff.1 hu
  have := h j hj
  unfold Addr.add
  split
  · rename_i h0; subst h0; simpa using this
  · exact this
theorem Cells.lt {w : World} {b off : Nat} {xs : List Value} (h : Cells w b off xs) (h0 : xs ≠ []) : b < w.heap.size := by
  have := h 0 (List.length_pos_iff.2 h0)
  exact World.block_lt_of_cell? _ _ this
theorem Cells.of_block {w : World} {b : Nat} {cs : Array Value} {t : TypeId} {fr : Nat × Nat} (hb : w.heap[b]? = some (.cells cs t fr)) : Cells w b 0 cs.toList := by
  intro j hj
  simp [World.cell?, hb] at hj ⊢
theorem Cells.new {w : World} {c : Array Value} {t : TypeId} {fr : Nat × Nat} {n : Nat} (hn : n = w.heap.size) {xs : List Value} (hx : xs = c.toList) : Cells (w.alloc (.cells c t fr)) n 0 xs := by
  subst hn hx; exact Cells.of_block (heap_alloc_new w _)
theorem Cells.of_owns {w : World} {base e size g cap n : Nat} {xs : List Value} (h : w.ownsRow base e size (.slice (some ⟨g, 0, none⟩) n cap) n xs) : Cells w g 0 xs := by
  intro j hj
  have := h.cells (g := g) rfl j xs[j] (List.getElem?_eq_getElem hj)
  unfold Addr.add at this
  split at this
  · rename_i h0; subst h0; simpa using this
  · simpa using this
/-- What a slice of one's own is made of. -/
theorem owns_form {w : World} {base e size n : Nat} {v : Value} {xs : List Value} (h : w.ownsRow base e size v n xs) :
    (v = .slice none 0 0 ∧ n = 0 ∧ xs = []) ∨ ∃ g cap, v = .slice (some ⟨g, 0, none⟩) n cap ∧ base ≤ g ∧ g < w.heap.size ∧ n ≤ cap ∧ Cells w g 0 xs := by
  rcases h.2 with ⟨rfl, rfl⟩ | ⟨g, cap, cur, rfl, hb, hg, hn, _⟩
  · exact .inl ⟨rfl, rfl, List.eq_nil_of_length_eq_zero (by simpa using h.1)⟩
  · exact .inr ⟨g, cap, rfl, hb, (Array.getElem?_eq_some_iff.1 hg).1, hn, Cells.of_owns h⟩

theorem flatMap_at {α β : Type} (f : List α) (g : α → List β) (s : Nat) (hg : ∀ x ∈ f, (g x).length = s) (k j : Nat) (hk : k < f.length) (hj : j < s) : (f.flatMap g)[k * s + j]? = (g f[k])[j]? := by
  induction f generalizing k with
  | nil => simp at hk
  | cons x f ih =>
    have hx := hg x (by simp)
    cases k with
    | zero =>
      rw [List.flatMap_cons, List.getElem?_append_left (by omega)]
      simp
    | succ k =>
      rw [List.flatMap_cons, List.getElem?_append_right (by rw [hx, Nat.succ_mul]; omega)]
      have e : (k + 1) * s + j - (g x).length = k * s + j := by rw [hx, Nat.succ_mul]; omega
      rw [e]
      simpa using ih (fun y hy => hg y (by simp [hy])) k (by simpa using hk)
theorem Cells.flat {w : World} {b off : Nat} {α : Type} {f : List α} {g : α → List Value} (h : Cells w b off (f.flatMap g)) (s : Nat) (hg : ∀ x ∈ f, (g x).length = s) (k j : Nat) (hk : k < f.length) (v : Value) (hj : (g f[k])[j]? = some v) : w.cell? ⟨b, off + k * s + j, none⟩ = some v := by
  have hjs : j < s := by
    have := (List.getElem?_eq_some_iff.1 hj).1
    rw [hg _ (List.getElem_mem hk)] at this; exact this
  have e := flatMap_at f g s hg k j hk hjs
  rw [hj] at e
  obtain ⟨hl, hv⟩ := List.getElem?_eq_some_iff.1 e
  have := h _ hl
  rw [hv] at this
  simpa [Nat.add_assoc] using this

end Go.Proofs.Ytglplhmclfekfaa
