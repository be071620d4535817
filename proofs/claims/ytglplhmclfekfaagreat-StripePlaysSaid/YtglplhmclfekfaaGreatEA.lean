/- EA: several texts in one: Base Map App Frame Agg Rule Bits Pack Sec Dka Dkb Dkd. -/
import Derived.Test.YtglplhmclfekfaaGreatProg
import Derived.WalkKit
import Derived.WalkLawsBesides
import Derived.WalkSpells
import Derived.Outline
import Derived.Lib.Hide
import Derived.BigQuiet
import Derived.Deep.QuietTactic
import Derived.Deep.AppendLies
import Derived.Maps.Own
import Derived.Maps.OwnOps
import Derived.Deep.MidRow
import Derived.Laws.StructEq
import Derived.Laws.CopyOwn
import Derived.StillTailTactics
import Derived.Lib.SlBytesConst
/- General lemmas on memory and endings; no function of the program. -/
namespace Go.Proofs.YtglplhmclfekfaaGreat
open Go.RowKit
set_option linter.unusedVariables false

theorem ret_eq {v v' : Value} (h : v = v') : Ending.returned v = Ending.returned v' := by rw [h]
theorem ret_int {k : IntKind} {a b : Int} (h : a = b) : Ending.returned (.int k a) = .returned (.int k b) := by rw [h]
theorem ret_bool {a b : Bool} (h : a = b) : Ending.returned (.bool a) = .returned (.bool b) := by rw [h]

/-- Nothing that was there has turned. -/
def Kept (w w' : World) : Prop := Below w.heap.size w w'
theorem Kept.refl (w : World) : Kept w w := Below.refl _ _
theorem Kept.trans {a b c : World} (h : Kept a b) (k : Kept b c) : Kept a c := Below.trans h (Below.mono k (Below.size h))
theorem Kept.alloc {a b : World} (h : Kept a b) (o : Obj) : Kept a (b.alloc o) := Below.alloc h (Below.size h) o
theorem Kept.drew {a b : World} (h : Kept a b) : Kept a b.drew := Below.drew h
theorem Kept.drewN {a b : World} (h : Kept a b) (n : Nat) : Kept a (b.drewN n) := below_drewN h n
theorem Kept.setCell {a b : World} (h : Kept a b) {p : Addr} (hp : a.heap.size ≤ p.block) (u : Value) : Kept a (b.setCell p u) := Below.setCell h hp u
theorem Kept.grown {a b c : World} {row : Option Nat} (h : Kept a b) (hg : b.grownBy c row) (hr : ∀ k, row = some k → a.heap.size ≤ k) : Kept a c := Below.grown h hg (Below.size h) hr
theorem Kept.size {a b : World} (h : Kept a b) : a.heap.size ≤ b.heap.size := Below.size h
theorem Kept.cell {a b : World} (h : Kept a b) {p : Addr} (hp : p.block < a.heap.size) : b.cell? p = a.cell? p := Below.cell h hp
theorem Kept.cell' {a b : World} (h : Kept a b) {p : Addr} {v : Value} (hc : a.cell? p = some v) : b.cell? p = some v := (h.cell (World.block_lt_of_cell? _ _ hc)).trans hc
theorem Kept.block {a b : World} (h : Kept a b) {k : Nat} {o : Obj} (hc : a.heap[k]? = some o) : b.heap[k]? = some o := (Below.block h k (Array.getElem?_eq_some_iff.1 hc).1).trans hc
theorem Kept.block_eq {a b : World} (h : Kept a b) {k : Nat} (hk : k < a.heap.size) : b.heap[k]? = a.heap[k]? := Below.block h k hk
theorem Kept.q {a b : World} (h : Kept a b) : ∀ k o, k < a.heap.size → b.cell? ⟨k, o, none⟩ = a.cell? ⟨k, o, none⟩ := fun _ _ hk => h.cell hk
theorem Kept.qf {a b : World} (h : Kept a b) : ∀ k o, k < a.heap.size → b.frozen? ⟨k, o, none⟩ = a.frozen? ⟨k, o, none⟩ := fun _ _ hk => Below.frozen h hk
theorem Kept.frozen {a b : World} (h : Kept a b) {p : Addr} (hp : p.block < a.heap.size) : b.frozen? p = a.frozen? p := Below.frozen h hp

/-- The cells from ⟨b, off⟩ on read xs. -/
def Cells (w : World) (b off : Nat) (xs : List Value) : Prop := ∀ j (h : j < xs.length), w.cell? ⟨b, off + j, none⟩ = some xs[j]
theorem Cells.kept {a b : World} {k off : Nat} {xs : List Value} (h : Cells a k off xs) (hk : Kept a b) : Cells b k off xs := fun j hj => hk.cell' (h j hj)
theorem Cells.at {w : World} {b off : Nat} {xs : List Value} (h : Cells w b off xs) (j : Nat) (hj : j < xs.length) : w.cell? ⟨b, off + j, none⟩ = some xs[j] := h j hj
theorem Cells.getD {w : World} {b off : Nat} {xs : List Value} (h : Cells w b off xs) (j : Nat) (hj : j < xs.length) : w.cell? ⟨b, off + j, none⟩ = some (xs.getD j undef) := by
  rw [h j hj, List.getD_eq_getElem?_getD, List.getElem?_eq_getElem hj]; rfl
theorem Cells.add {w : World} {b off : Nat} {xs : List Value} (h : Cells w b off xs) : ∀ j u, xs[j]? = some u → w.cell? ((⟨b, off, none⟩ : Addr).add j) = some u := by
  intro j u hu
  obtain ⟨hj, rfl⟩ := List.getElem?_eq_some_iff.1 hu
  have := h j hj
  unfold Addr.add
  split
  · rename_i h0; subst h0; simpa using this
  · exact this
theorem Cells.lt {w : World} {b off : Nat} {xs : List Value} (h : Cells w b off xs) (h0 : xs ≠ []) : b < w.heap.size := by
  have := h 0 (List.length_pos_iff.2 h0)
  exact World.block_lt_of_cell? _ _ this
theorem Cells.of_block {w : World} {b : Nat} {cs : Array Value} {t : TypeId} {fr : Nat × Nat} (hb : w.heap[b]? = some (.cells cs t fr)) : Cells w b 0 cs.toList := by
  intro j hj
  simp [World.cell?, hb] at hj ⊢
theorem Cells.new {w : World} {c : Array Value} {t : TypeId} {fr : Nat × Nat} {n : Nat} (hn : n = w.heap.size) {xs : List Value} (hx : xs = c.toList) : Cells (w.alloc (.cells c t fr)) n 0 xs := by
  subst hn hx; exact Cells.of_block (heap_alloc_new w _)
theorem Cells.of_owns {w : World} {base e size g cap n : Nat} {xs : List Value} (h : w.ownsRow base e size (.slice (some ⟨g, 0, none⟩) n cap) n xs) : Cells w g 0 xs := by
  intro j hj
  have := h.cells (g := g) rfl j xs[j] (List.getElem?_eq_getElem hj)
  unfold Addr.add at this
  split at this
  · rename_i h0; subst h0; simpa using this
  · simpa using this
/-- What a slice of one's own is made of. -/
theorem owns_form {w : World} {base e size n : Nat} {v : Value} {xs : List Value} (h : w.ownsRow base e size v n xs) :
    (v = .slice none 0 0 ∧ n = 0 ∧ xs = []) ∨ ∃ g cap, v = .slice (some ⟨g, 0, none⟩) n cap ∧ base ≤ g ∧ g < w.heap.size ∧ n ≤ cap ∧ Cells w g 0 xs := by
  rcases h.2 with ⟨rfl, rfl⟩ | ⟨g, cap, cur, rfl, hb, hg, hn, _⟩
  · exact .inl ⟨rfl, rfl, List.eq_nil_of_length_eq_zero (by simpa using h.1)⟩
  · exact .inr ⟨g, cap, rfl, hb, (Array.getElem?_eq_some_iff.1 hg).1, hn, Cells.of_owns h⟩

theorem flatMap_at {α β : Type} (f : List α) (g : α → List β) (s : Nat) (hg : ∀ x ∈ f, (g x).length = s) (k j : Nat) (hk : k < f.length) (hj : j < s) : (f.flatMap g)[k * s + j]? = (g f[k])[j]? := by
  induction f generalizing k with
  | nil => simp at hk
  | cons x f ih =>
    have hx := hg x (by simp)
    cases k with
    | zero =>
      rw [List.flatMap_cons, List.getElem?_append_left (by omega)]
      simp
    | succ k =>
      rw [List.flatMap_cons, List.getElem?_append_right (by rw [hx, Nat.succ_mul]; omega)]
      have e : (k + 1) * s + j - (g x).length = k * s + j := by rw [hx, Nat.succ_mul]; omega
      rw [e]
      simpa using ih (fun y hy => hg y (by simp [hy])) k (by simpa using hk)
theorem Cells.flat {w : World} {b off : Nat} {α : Type} {f : List α} {g : α → List Value} (h : Cells w b off (f.flatMap g)) (s : Nat) (hg : ∀ x ∈ f, (g x).length = s) (k j : Nat) (hk : k < f.length) (v : Value) (hj : (g f[k])[j]? = some v) : w.cell? ⟨b, off + k * s + j, none⟩ = some v := by
  have hjs : j < s := by
    have := (List.getElem?_eq_some_iff.1 hj).1
    rw [hg _ (List.getElem_mem hk)] at this; exact this
  have e := flatMap_at f g s hg k j hk hjs
  rw [hj] at e
  obtain ⟨hl, hv⟩ := List.getElem?_eq_some_iff.1 e
  have := h _ hl
  rw [hv] at this
  simpa [Nat.add_assoc] using this

end Go.Proofs.YtglplhmclfekfaaGreat
/- Maps with int keys: what a block that is a map reads as, and the operations on it. -/
namespace Go.Proofs.YtglplhmclfekfaaGreat
open Go.RowKit Go.ChangeMaps Go.MapKept
set_option linter.unusedVariables false
set_option linter.unusedSimpArgs false

def keyIs (n : Int) (e : MapEntry) : Bool := match e.key with | .int .i64 m => n == m | _ => false
/-- the keys are ints, each once -/
structure IntKeys (es : List MapEntry) : Prop where
  int : ∀ e ∈ es, ∃ n, e.key = .int .i64 n
  once : es.Pairwise fun a b => a.key ≠ b.key
def lookE (es : List MapEntry) (n : Int) : Option Value := (es.find? (keyIs n)).map (·.val)
/-- Block b of w is a map with int keys that reads as f, of at most m entries. -/
def IMap (w : World) (b m : Nat) (f : Int → Option Value) : Prop :=
  ∃ es clock, w.heap[b]? = some (.map es clock) ∧ IntKeys es.toList ∧ es.size ≤ m ∧ (∀ n, f n = lookE es.toList n) ∧ MapKept.Stamped es clock

theorem IMap.lt {w : World} {b m : Nat} {f : Int → Option Value} (h : IMap w b m f) : b < w.heap.size := by
  obtain ⟨es, c, hb, _⟩ := h
  exact (Array.getElem?_eq_some_iff.1 hb).1
theorem IMap.same {w w' : World} {b m : Nat} {f : Int → Option Value} (h : IMap w b m f) (hb : w'.heap[b]? = w.heap[b]?) : IMap w' b m f := by
  obtain ⟨es, c, h1, h2⟩ := h
  exact ⟨es, c, hb.trans h1, h2⟩
theorem IMap.kept {w w' : World} {b m : Nat} {f : Int → Option Value} (h : IMap w b m f) (hk : Kept w w') : IMap w' b m f := h.same (hk.block_eq h.lt)
theorem IMap.made (w : World) : IMap (w.alloc (.map #[] 0)) w.heap.size 0 (fun _ => none) :=
  ⟨#[], 0, heap_alloc_new w _, ⟨by simp, by simp⟩, by simp, fun n => by simp [lookE], MapKept.stamped_empty _⟩

theorem keyIs_iff {n : Int} {e : MapEntry} : keyIs n e = true ↔ e.key = .int .i64 n := by
  unfold keyIs
  split
  · rename_i m h; rw [h, beq_iff_eq]; constructor
    · intro e; rw [e]
    · intro e; injection e with _ e; exact e.symm
  · rename_i h
    constructor
    · intro h'; cases h'
    · intro h'; exact absurd h' (h n)
theorem findNow_int (n : Int) : ∀ (es : List MapEntry) (i : Nat), (∀ e ∈ es, ∃ m, e.key = .int .i64 m) →
    Instr.findNow (.int .i64) (.int .i64 n) es i = some ((es.findIdx? (keyIs n)).bind fun j => (es[j]?).map fun e => (i + j, e.val))
  | [], i, _ => rfl
  | e :: es, i, h => by
    obtain ⟨m, hm⟩ := h e (by simp)
    have ih := findNow_int n es (i + 1) (fun x hx => h x (by simp [hx]))
    unfold Instr.findNow
    rw [hm]
    simp only [Instr.sameNow, ↓reduceIte, List.findIdx?_cons, keyIs, hm]
    by_cases hn : (n == m) = true
    · simp [hn]
    · simp only [hn]
      rw [ih]
      cases hf : es.findIdx? (keyIs n) with
      | none => simp
      | some j => simp [Nat.add_comm, Nat.add_left_comm]

section
variable {P : Program} {w : World} {b m : Nat} {f : Int → Option Value} {t k e : TypeId}

theorem run_findKey (hk : P.underlying k = some (.int .i64)) (n : Int) (es : List MapEntry) (hi : IntKeys es) (w : World) :
    (Instr.findKey k (.int .i64 n) es).run P w = .ok ((es.findIdx? (keyIs n)).bind fun j => (es[j]?).map fun e => (j, e.val)) w := by
  have h := findNow_int n es 0 hi.int
  simp only [Nat.zero_add] at h
  simp [Instr.findKey, run_underlying hk, h, Result.andThen]
theorem run_checkKey (hk : P.underlying k = some (.int .i64)) (n : Int) (em : Bool) (w : World) : (Instr.checkKey em 10000 k (.int .i64 n)).run P w = .ok () w := by
  unfold Instr.checkKey
  simp [run_underlying hk, Result.andThen]
theorem find_idx (es : List MapEntry) (n : Int) : ((es.findIdx? (keyIs n)).bind fun j => (es[j]?).map fun e => (j, e.val)) = match es.findIdx? (keyIs n), es.find? (keyIs n) with | some j, some e => some (j, e.val) | _, _ => none := by
  cases hf : es.findIdx? (keyIs n) with
  | none => simp
  | some j =>
    obtain ⟨hj, hp, hb⟩ := List.findIdx?_eq_some_iff_getElem.1 hf
    have : es.find? (keyIs n) = some es[j] := by
      rw [List.find?_eq_some_iff_getElem]
      exact ⟨hp, j, hj, rfl, fun i hi => by simpa using hb i hi⟩
    simp [this, hj]
theorem find_cases (es : List MapEntry) (n : Int) : (es.findIdx? (keyIs n) = none ∧ es.find? (keyIs n) = none ∧ (∀ e ∈ es, keyIs n e = false)) ∨ ∃ j, ∃ hj : j < es.length, es.findIdx? (keyIs n) = some j ∧ es.find? (keyIs n) = some es[j] ∧ keyIs n es[j] = true := by
  cases hf : es.findIdx? (keyIs n) with
  | none =>
    refine .inl ⟨rfl, ?_, ?_⟩
    · rw [List.find?_eq_none]; intro x hx; rw [List.findIdx?_eq_none_iff] at hf; simpa using hf x hx
    · intro e he; rw [List.findIdx?_eq_none_iff] at hf; exact hf e he
  | some j =>
    obtain ⟨hj, hp, hb⟩ := List.findIdx?_eq_some_iff_getElem.1 hf
    refine .inr ⟨j, hj, rfl, ?_, hp⟩
    rw [List.find?_eq_some_iff_getElem]
    exact ⟨hp, j, hj, rfl, fun i hi => by simpa using hb i hi⟩

/-- m[k], m[k] with ok -/
theorem IMap.lookup (h : IMap w b m f) (ht : P.underlying t = some (.map k e)) (hk : P.underlying k = some (.int .i64)) {z : Value} (hz : ∀ w, (zeroValue e).run P w = .ok z w) (n : Int) (ok : Bool) :
    (Instr.lookup t (.map (some b)) (.int .i64 n) ok).run P w = .ok (if ok then .tuple #[(f n).getD z, .bool (f n).isSome] else (f n).getD z) w := by
  obtain ⟨es, c, hb, hi, _, hf, _⟩ := h
  have hfk := run_findKey hk n es.toList hi w
  rw [hf n]
  rcases find_cases es.toList n with ⟨h1, h2, _⟩ | ⟨j, hj, h1, h2, _⟩
  · rw [h1] at hfk
    simp [Instr.lookup, run_underlying ht, MapKept.run_getObj_map hb, run_checkKey hk, hfk, lookE, h2, hz, Result.andThen]
  · rw [h1] at hfk
    rw [Option.bind_some, List.getElem?_eq_getElem hj] at hfk
    simp only [Option.map_some] at hfk
    simp only [Instr.lookup, lookE, h2]
    simp only [Sem.run_bind, run_underlying ht, Result.andThen_ok, MapKept.run_getObj_map hb, run_checkKey hk, hfk, Sem.run_pure, Option.map_some, Option.getD_some, Option.isSome_some]
theorem run_lookup_nil (ht : P.underlying t = some (.map k e)) (hk : P.underlying k = some (.int .i64)) {z : Value} (hz : ∀ w, (zeroValue e).run P w = .ok z w) (n : Int) (ok : Bool) :
    (Instr.lookup t (.map none) (.int .i64 n) ok).run P w = .ok (if ok then .tuple #[z, .bool false] else z) w := by
  have hfk := run_findKey hk n [] ⟨by simp, by simp⟩ w
  simp [Instr.lookup, run_underlying ht, run_checkKey hk, hfk, hz, Result.andThen]

def upd (f : Int → Option Value) (n : Int) (v : Value) : Int → Option Value := fun x => if x = n then some v else f x
def del (f : Int → Option Value) (n : Int) : Int → Option Value := fun x => if x = n then none else f x

theorem IntKeys.push {es : List MapEntry} (h : IntKeys es) (n : Int) (v : Value) (c : Nat) (hn : ∀ e ∈ es, keyIs n e = false) : IntKeys (es ++ [⟨.int .i64 n, v, c⟩]) := by
  refine ⟨fun e he => ?_, ?_⟩
  · rcases List.mem_append.1 he with h' | h'
    · exact h.int e h'
    · simp at h'; subst h'; exact ⟨n, rfl⟩
  · rw [List.pairwise_append]
    refine ⟨h.once, by simp, fun a ha b hb => ?_⟩
    simp at hb; subst hb
    intro hh
    have := hn a ha
    rw [Bool.eq_false_iff] at this
    exact this (keyIs_iff.2 hh)

theorem find_append_new (es : List MapEntry) (n x : Int) (v : Value) (c : Nat) (hn : ∀ e ∈ es, keyIs n e = false) : lookE (es ++ [⟨.int .i64 n, v, c⟩]) x = if x = n then some v else lookE es x := by
  unfold lookE
  rw [List.find?_append]
  by_cases hx : x = n
  · subst hx
    have : es.find? (keyIs x) = none := by rw [List.find?_eq_none]; intro e he; simp [hn e he]
    simp [this, keyIs]
  · have : ([⟨.int .i64 n, v, c⟩] : List MapEntry).find? (keyIs x) = none := by simp [keyIs, hx]
    simp [this, hx]

theorem IntKeys.set {es : List MapEntry} (h : IntKeys es) (j : Nat) (hj : j < es.length) (e' : MapEntry) (he : e'.key = es[j].key) : IntKeys (es.set j e') := by
  refine ⟨fun e hm => ?_, ?_⟩
  · rcases List.mem_or_eq_of_mem_set hm with h' | h'
    · exact h.int e h'
    · subst h'; rw [he]; exact h.int _ (List.getElem_mem hj)
  · have h1 : (es.map (·.key)).Pairwise (· ≠ ·) := by rw [List.pairwise_map]; exact h.once
    have h2 : (es.set j e').map (·.key) = es.map (·.key) := by
      rw [List.map_set, he]
      exact List.ext_getElem (by simp) fun i h1 h2 => by
        simp only [List.getElem_set, List.getElem_map]
        split
        · rename_i hij; subst hij; rfl
        · rfl
    rw [← h2, List.pairwise_map] at h1
    exact h1

theorem key_at {es : List MapEntry} (h : IntKeys es) {i j : Nat} (hi : i < es.length) (hj : j < es.length) (hk : es[i].key = es[j].key) : i = j := by
  have := h.once
  rw [List.pairwise_iff_getElem] at this
  rcases Nat.lt_trichotomy i j with hl | hl | hl
  · exact absurd hk (this i j hi hj hl)
  · exact hl
  · exact absurd hk.symm (this j i hj hi hl)

theorem find_key {es : List MapEntry} (h : IntKeys es) {j : Nat} (hj : j < es.length) {n : Int} (hk : keyIs n es[j] = true) : es.find? (keyIs n) = some es[j] := by
  rw [List.find?_eq_some_iff_getElem]
  refine ⟨hk, j, hj, rfl, fun i hi => ?_⟩
  simp only [Bool.not_eq_true', Bool.eq_false_iff]
  intro hh
  have := key_at h (by omega) hj ((keyIs_iff.1 hh).trans (keyIs_iff.1 hk).symm)
  omega

theorem find_set {es : List MapEntry} (h : IntKeys es) {j : Nat} (hj : j < es.length) {n : Int} (hk : keyIs n es[j] = true) (v : Value) (x : Int) :
    lookE (es.set j ⟨.int .i64 n, v, es[j].born⟩) x = if x = n then some v else lookE es x := by
  have hs := h.set j hj ⟨.int .i64 n, v, es[j].born⟩ (keyIs_iff.1 hk).symm
  unfold lookE
  by_cases hx : x = n
  · subst hx
    have := find_key hs (j := j) (by simpa using hj) (n := x) (by simp [keyIs])
    rw [this]; simp
  · rw [if_neg hx]
    rcases find_cases es x with ⟨_, h2, h3⟩ | ⟨i, hi, _, h2, h4⟩
    · rw [h2, List.find?_eq_none.2]
      · intro e he
        rcases List.mem_or_eq_of_mem_set he with h' | h'
        · simp [h3 e h']
        · subst h'; simp [keyIs, hx]
    · have hij : i ≠ j := by
        intro e; subst e
        have a := keyIs_iff.1 h4; have b := keyIs_iff.1 hk
        rw [a] at b; injection b with _ b; exact hx b
      have h5 : (es.set j ⟨.int .i64 n, v, es[j].born⟩)[i]'(by simpa using hi) = es[i] := by rw [List.getElem_set_ne (Ne.symm hij)]
      rw [h2, find_key hs (j := i) (by simpa using hi) (by rw [h5]; exact h4), h5]

/-- m[k] = v -/
theorem IMap.update (h : IMap w b m f) (ht : P.underlying t = some (.map k e)) (hk : P.underlying k = some (.int .i64)) (n : Int) (v : Value) :
    ∃ w', (Instr.mapUpdate t (.map (some b)) (.int .i64 n) v).run P w = .ok () w' ∧ IMap w' b (m + 1) (upd f n v) ∧ (∃ o, w' = setBlock w b o) := by
  obtain ⟨es, c, hb, hi, hm, hf, hst⟩ := h
  have hfk := run_findKey hk n es.toList hi w
  rcases find_cases es.toList n with ⟨h1, h2, h3⟩ | ⟨j, hj, h1, h2, h4⟩
  · rw [h1] at hfk
    refine ⟨setBlock w b (.map (es.push ⟨.int .i64 n, v, c⟩) (c + 1)), ?_, ⟨es.push ⟨.int .i64 n, v, c⟩, c + 1, heap_setBlock_same hb _, ?_, by simp; omega, fun x => ?_, ?_⟩, _, rfl⟩
    · simp [Instr.mapUpdate, run_underlying ht, MapKept.run_getObj_map hb, run_checkKey hk, hfk, MapKept.run_setObj_map _ hb, Result.andThen, setBlock]
    · rw [Array.toList_push]; exact hi.push n v c h3
    · rw [Array.toList_push, find_append_new _ _ _ _ _ h3]; unfold upd; rw [hf x]
    · refine MapKept.stamped_push hst fun x hx hk => ?_
      have := h3 x hx
      rw [Bool.eq_false_iff] at this
      exact this (keyIs_iff.2 hk)
  · rw [h1] at hfk
    rw [Option.bind_some, List.getElem?_eq_getElem hj] at hfk
    simp only [Option.map_some] at hfk
    have hja : j < es.size := by simpa using hj
    have hkey : es[j].key = .int .i64 n := by have := keyIs_iff.1 h4; simpa using this
    have hks : (Instr.keyThatStays (.int .i64 n) (.int .i64 n)).run P w = .ok (.int .i64 n) w := by
      simp [Instr.keyThatStays, Instr.sameBits]
    have hmod : es.modify j (fun e => { e with key := .int .i64 n, val := v }) = es.setIfInBounds j ⟨.int .i64 n, v, es[j].born⟩ := by
      apply Array.ext
      · simp
      · intro i h1 h2
        rw [Array.getElem_modify, Array.getElem_setIfInBounds (by simpa using h1)]
        split
        · rename_i hij; subst hij; rfl
        · rfl
    refine ⟨setBlock w b (.map (es.setIfInBounds j ⟨.int .i64 n, v, es[j].born⟩) c), ?_, ⟨_, c, heap_setBlock_same hb _, ?_, by simp; omega, fun x => ?_, ?_⟩, _, rfl⟩
    · simp only [Instr.mapUpdate, Sem.run_bind, run_underlying ht, Result.andThen_ok, MapKept.run_getObj_map hb, run_checkKey hk, hfk]
      rw [show ((es[j]?).map (·.key)).getD (.int .i64 n) = .int .i64 n from by simp [hja, hkey]]
      simp only [hks, Result.andThen_ok, hmod, MapKept.run_setObj_map _ hb, setBlock]
    · rw [Array.toList_setIfInBounds]; exact hi.set j hj _ (by simpa using hkey.symm)
    · rw [Array.toList_setIfInBounds]
      have := find_set hi hj h4 v x
      simp only [Array.getElem_toList] at this
      rw [this]; unfold upd; rw [hf x]
    · rw [← hmod]
      refine MapKept.stamped_modify hst _ _ (fun _ _ => rfl) fun e he hj2 => ?_
      rw [Array.getElem?_eq_getElem hja, Option.some.injEq] at hj2
      rw [← hj2]; exact hkey.symm

theorem IntKeys.erase {es : List MapEntry} (h : IntKeys es) (j : Nat) : IntKeys (es.eraseIdx j) :=
  ⟨fun e he => h.int e (List.mem_of_mem_eraseIdx he), h.once.sublist (List.eraseIdx_sublist _ _)⟩
theorem find_erase {es : List MapEntry} (h : IntKeys es) {j : Nat} (hj : j < es.length) {n : Int} (hk : keyIs n es[j] = true) (x : Int) :
    lookE (es.eraseIdx j) x = if x = n then none else lookE es x := by
  unfold lookE
  have hmem : ∀ e ∈ es.eraseIdx j, keyIs n e = false := by
    intro e he
    rw [Bool.eq_false_iff]; intro hh
    obtain ⟨i, hi, he2⟩ := List.getElem_of_mem he
    rw [List.getElem_eraseIdx] at he2
    split at he2
    · have := key_at h (i := i) (j := j) (by omega) hj (by rw [he2]; exact (keyIs_iff.1 hh).trans (keyIs_iff.1 hk).symm)
      omega
    · have hl : i + 1 < es.length := by rw [List.length_eraseIdx] at hi; split at hi <;> omega
      have := key_at h (i := i + 1) (j := j) hl hj (by rw [he2]; exact (keyIs_iff.1 hh).trans (keyIs_iff.1 hk).symm)
      omega
  by_cases hx : x = n
  · subst hx
    rw [if_pos rfl, List.find?_eq_none.2]
    · rfl
    · intro e he; simp [hmem e he]
  · rw [if_neg hx]
    rcases find_cases es x with ⟨_, h2, h3⟩ | ⟨i, hi, _, h2, h4⟩
    · rw [h2, List.find?_eq_none.2]
      intro e he; simp [h3 e (List.mem_of_mem_eraseIdx he)]
    · have hij : i ≠ j := by
        intro e; subst e
        have a := keyIs_iff.1 h4; have b := keyIs_iff.1 hk
        rw [a] at b; injection b with _ b; exact hx b
      have hm : es[i] ∈ es.eraseIdx j := by
        rw [List.mem_eraseIdx_iff_getElem]
        exact ⟨i, hi, hij, rfl⟩
      obtain ⟨i', hi', he'⟩ := List.getElem_of_mem hm
      rw [h2, find_key (h.erase j) (j := i') hi' (by rw [he']; exact h4), he']
/-- delete(m, k) -/
theorem IMap.delete {ty : TypeId} (h : IMap w b m f) (ht : P.underlying t = some (.map k e)) (hk : P.underlying k = some (.int .i64)) (n : Int) :
    ∃ w', (Builtin.delete_ #[t, k] ty #[.map (some b), .int .i64 n]).run P w = .ok (.tuple #[]) w' ∧ IMap w' b m (del f n) ∧ (∃ o, w' = setBlock w b o) := by
  obtain ⟨es, c, hb, hi, hm, hf, hst⟩ := h
  have hfk := run_findKey hk n es.toList hi w
  rcases find_cases es.toList n with ⟨h1, h2, h3⟩ | ⟨j, hj, h1, h2, h4⟩
  · rw [h1] at hfk
    refine ⟨setBlock w b (.map es c), ?_, ⟨es, c, heap_setBlock_same hb _, hi, hm, fun x => ?_, hst⟩, _, rfl⟩
    · simp [Builtin.delete_, run_underlying ht, MapKept.run_getObj_map hb, run_checkKey hk, hfk, MapKept.run_setObj_map _ hb, Result.andThen, setBlock]
    · unfold del
      split
      · rename_i hx; subst hx; simp [lookE, h2]
      · exact hf x
  · rw [h1] at hfk
    rw [Option.bind_some, List.getElem?_eq_getElem hj] at hfk
    simp only [Option.map_some] at hfk
    have hja : j < es.size := by simpa using hj
    have hl : (es.eraseIdxIfInBounds j).toList = es.toList.eraseIdx j := by simp
    refine ⟨setBlock w b (.map (es.eraseIdxIfInBounds j) c), ?_, ⟨_, c, heap_setBlock_same hb _, by rw [hl]; exact hi.erase j, ?_, fun x => ?_, MapKept.stamped_erase hst j⟩, _, rfl⟩
    · simp only [Builtin.delete_, Sem.run_bind, run_underlying ht, Result.andThen_ok, MapKept.run_getObj_map hb, run_checkKey hk, hfk, Sem.run_pure, MapKept.run_setObj_map _ hb, setBlock, List.getElem?_toArray, List.getElem?_cons_zero, List.getElem?_cons_succ]
    · rw [← Array.length_toList, hl, List.length_eraseIdx, Array.length_toList]; split <;> omega
    · rw [hl, find_erase hi hj h4]; unfold del; rw [hf x]
end

end Go.Proofs.YtglplhmclfekfaaGreat
/- One law for append onto a slice that is owned, or full. -/
namespace Go.Proofs.YtglplhmclfekfaaGreat
open Go.RowKit
set_option linter.unusedVariables false

/-- A slice type t over elements e of 'size' cells and 'bytes' bytes. -/
structure ElemT (P : Program) (t e size bytes : Nat) : Prop where
  ht : P.underlying t = some (.slice e)
  i : ∃ i z, P.info? e = some i ∧ i.zero = some z ∧ i.size = size ∧ i.bytes = bytes ∧ z.cells.size = size
  pos : 0 < size

/-- A slice value of n elements that may be appended to: owned from block 'base' on, or without room behind its length. -/
def App (w : World) (base e size : Nat) (v : Value) (n : Nat) (xs : List Value) : Prop :=
  w.ownsRow base e size v n xs ∨ (xs.length = n * size ∧ ∃ ao, v = .slice ao n n ∧ (ao = none → n = 0) ∧ ∀ b, ao = some b → ∀ j u, xs[j]? = some u → w.cell? (b.add j) = some u)

/-- A slice value of m elements that is read. -/
def Src (w : World) (size : Nat) (x : Value) (m : Nat) (news : List Value) : Prop :=
  news.length = m * size ∧ ∃ ax c, x = .slice ax m c ∧ m ≤ c ∧ (ax = none → m = 0 ∧ c = 0) ∧ ∀ b, ax = some b → ∀ j u, news[j]? = some u → w.cell? (b.add j) = some u

theorem grownBy_refl (w : World) (row : Option Nat) : w.grownBy w row := ⟨rfl, rfl, rfl, Nat.le_refl _, fun _ _ _ => rfl⟩
theorem grownBy_any {w w' : World} (h : w.grownBy w' none) (row : Option Nat) : w.grownBy w' row := ⟨h.os, h.tape, h.output, h.size, fun k hk _ => h.block k hk (by simp)⟩

theorem ownsRow_base {w : World} {base base' e size n : Nat} {v : Value} {xs : List Value} (h : w.ownsRow base e size v n xs) (hb : base' ≤ base) : w.ownsRow base' e size v n xs := by
  refine ⟨h.1, ?_⟩
  rcases h.2 with h2 | ⟨g, cap, cur, hv, hg, r⟩
  · exact .inl h2
  · exact .inr ⟨g, cap, cur, hv, by omega, r⟩

theorem run_append_app {P : Program} (w : World) {t e size bytes : Nat} (T : ElemT P t e size bytes) (ty : TypeId) (base : Nat) (v : Value) (n : Nat) (xs : List Value) (hv : App w base e size v n xs)
    (x : Value) (m : Nat) (news : List Value) (hx : Src w size x m news) (h1 : ∀ u ∈ news, u.oneCell' = true)
    (h63 : n + m ≤ maxLen) (hbytes : (n + m) * bytes ≤ 140737488355328) (hbase : base ≤ w.heap.size) :
    ∃ v' w', (Builtin.append_ #[t, t] ty #[v, x]).run P w = .ok v' w' ∧ App w' base e size v' (n + m) (xs ++ news) ∧ w.grownBy w' v.ownBlock ∧ Below base w w' ∧
      ((0 < m ∨ w.ownsRow base e size v n xs) → w'.ownsRow base e size v' (n + m) (xs ++ news)) := by
  obtain ⟨ht, ⟨i, z, hi, hz, rfl, rfl, hzs⟩, hpos⟩ := T
  obtain ⟨hnl, ax, c, rfl, _, hnone, hcells⟩ := hx
  rcases hv with hown | ⟨hxl, ao, rfl, ha0, hold⟩
  · cases ax with
    | none =>
      obtain ⟨rfl, rfl⟩ := hnone rfl
      have hn : news = [] := List.eq_nil_of_length_eq_zero (by simpa using hnl)
      subst hn
      have hr := run_append_owned_none (P := P) (w := w) base t ty e i i.size ht hi v n xs hown
      simp only [Nat.add_zero, List.append_nil]
      exact ⟨v, w, hr, .inl hown, grownBy_refl _ _, Below.refl _ _, fun _ => hown⟩
    | some b =>
      obtain ⟨v', w', hr, h2, h3, _⟩ := run_append_own (P := P) w base t ty e i z i.size i.bytes ht hi hz rfl rfl hzs hpos v n xs hown b m c news hnl (hcells b rfl) h1 h63 hbytes hbase
      exact ⟨v', w', hr, .inl h2, h3, (Below.refl base w).grown h3 hbase (fun k hk => (hown.lt k hk).1), fun _ => h2⟩
  · by_cases hm : m = 0
    · subst hm
      have hn : news = [] := List.eq_nil_of_length_eq_zero (by simpa using hnl)
      subst hn
      simp only [Nat.add_zero, List.append_nil]
      refine ⟨.slice ao n n, w, ?_, .inr ⟨hxl, ao, rfl, ha0, hold⟩, grownBy_refl _ _, Below.refl _ _, fun h => by simpa using h⟩
      cases ao <;> cases ax <;> simp [Builtin.append_, run_underlying ht, sizeOf, typeInfo, hi, Builtin.lenOf, Builtin.firstCells, loadCells, loadCellsFrom, storeCells]
    · cases ax with
      | none => exact absurd (hnone rfl).1 hm
      | some b =>
        cases ao with
        | none =>
          obtain rfl := ha0 rfl
          have hx0 : xs = [] := List.eq_nil_of_length_eq_zero (by simpa using hxl)
          subst hx0
          obtain ⟨v', w', hr, h2, h3, _⟩ := run_append_own (P := P) w base t ty e i z i.size i.bytes ht hi hz rfl rfl hzs hpos (.slice none 0 0) 0 [] (World.ownsRow_nil w _ e i.size) b m c news hnl (hcells b rfl) h1 h63 hbytes hbase
          exact ⟨v', w', hr, .inl h2, h3, (Below.refl base w).grown h3 hbase (fun k hk => by simp [Value.ownBlock] at hk), fun _ => h2⟩
        | some a =>
          obtain ⟨v', w', hr, h2, h3⟩ := run_append_arg_grows (P := P) w t ty e i z i.size i.bytes ht hi hz rfl rfl hzs hpos a n n xs hxl (hold a rfl) b m c news hnl (hcells b rfl) (by omega) h63 hbytes
          exact ⟨v', w', hr, .inl (ownsRow_base h2 hbase), grownBy_any h3 _, (Below.refl base w).grown h3 hbase (fun k hk => by simp at hk), fun _ => ownsRow_base h2 hbase⟩

theorem wpList_append_app {P : Program} (w : World) {ops : Array Oper} {rest : List Oper} {o : Oper} {a : Act} {Q : Exit → Act → World → Prop} (hgd : o.guard = none) (s x : Operand) {t e size bytes : Nat}
    (ho : o.op = .call { callee := .builtin .append, args := #[s, x], argTypes := #[t, t] }) (T : ElemT P t e size bytes)
    (base : Nat) (v : Value) (n : Nat) (xs : List Value) (hs : a.eval s = v) (hv : App w base e size v n xs)
    (xv : Value) (m : Nat) (news : List Value) (hxe : a.eval x = xv) (hx : Src w size xv m news) (h1 : ∀ u ∈ news, u.oneCell' = true)
    (h63 : n + m ≤ maxLen) (hbytes : (n + m) * bytes ≤ 140737488355328) (hbase : base ≤ w.heap.size)
    (h : ∀ v' w', App w' base e size v' (n + m) (xs ++ news) → w.grownBy w' v.ownBlock → Below base w w' →
      ((0 < m ∨ w.ownsRow base e size v n xs) → w'.ownsRow base e size v' (n + m) (xs ++ news)) → wpList P ops Q rest (a.put o.dst v') w') : wpList P ops Q (o :: rest) a w := by
  refine wpList_plain hgd fun K hK => ?_
  obtain ⟨v', w', hr, h2, h3, hb, h4⟩ := run_append_app (P := P) w T o.type base v n xs hv xv m news hx h1 h63 hbytes hbase
  unfold Oper.wp execOp
  simp only [ho, resolve, invoke, builtin, Sem.run_bind, Sem.run_pure, Result.andThen_ok, List.map_toArray, List.map_cons, List.map_nil, hs, hxe, hr]
  exact hK _ _ (h v' w' h2 h3 hb h4)

theorem wp_append_app {P : Program} {w : World} {o : Oper} {a : Act} {K : Act → World → Prop} {Q : Exit → Act → World → Prop} (s x : Operand) {t e size bytes : Nat}
    (ho : o.op = .call { callee := .builtin .append, args := #[s, x], argTypes := #[t, t] }) (T : ElemT P t e size bytes)
    (base : Nat) (v : Value) (n : Nat) (xs : List Value) (hs : a.eval s = v) (hv : App w base e size v n xs)
    (xv : Value) (m : Nat) (news : List Value) (hxe : a.eval x = xv) (hx : Src w size xv m news) (h1 : ∀ u ∈ news, u.oneCell' = true)
    (h63 : n + m ≤ maxLen) (hbytes : (n + m) * bytes ≤ 140737488355328) (hbase : base ≤ w.heap.size)
    (h : ∀ v' w', App w' base e size v' (n + m) (xs ++ news) → w.grownBy w' v.ownBlock → Below base w w' →
      ((0 < m ∨ w.ownsRow base e size v n xs) → w'.ownsRow base e size v' (n + m) (xs ++ news)) → K (a.put o.dst v') w') : o.wp P a w K Q := by
  obtain ⟨v', w', hr, h2, h3, hb, h4⟩ := run_append_app (P := P) w T o.type base v n xs hv xv m news hx h1 h63 hbytes hbase
  unfold Oper.wp execOp
  simp only [ho, resolve, invoke, builtin, Sem.run_bind, Sem.run_pure, Result.andThen_ok, List.map_toArray, List.map_cons, List.map_nil, hs, hxe, hr]
  exact h v' w' h2 h3 hb h4

theorem step_is_bi {P : Program} {w : World} {ops : Array Oper} {o : Oper} {a : Act} {K : Act → World → Prop} {Q : Exit → Act → World → Prop} {E : Prop} (b : Builtin) (args : Array Operand) (ats : Array TypeId)
    (ho : o.op = .call { callee := .builtin b, args := args, argTypes := ats }) (h : if Region.wanted o (yielded ops a.tmps) = true then Oper.wp P o a w K Q else E) : if Region.wanted o (yielded ops a.tmps) = true then Oper.wp P o a w K Q else E := h
theorem step_append_app {P : Program} {w : World} {ops : Array Oper} {o : Oper} {a : Act} {K : Act → World → Prop} {Q : Exit → Act → World → Prop} {E : Prop} (hgd : o.guard = none) (s x : Operand) {t e size bytes : Nat}
    (ho : o.op = .call { callee := .builtin .append, args := #[s, x], argTypes := #[t, t] }) (T : ElemT P t e size bytes)
    (base : Nat) (v : Value) (n : Nat) (xs : List Value) (hs : a.eval s = v) (hv : App w base e size v n xs)
    (xv : Value) (m : Nat) (news : List Value) (hxe : a.eval x = xv) (hx : Src w size xv m news) (h1 : ∀ u ∈ news, u.oneCell' = true)
    (h63 : n + m ≤ maxLen) (hbytes : (n + m) * bytes ≤ 140737488355328) (hbase : base ≤ w.heap.size)
    (h : ∀ v' w', App w' base e size v' (n + m) (xs ++ news) → w.grownBy w' v.ownBlock → Below base w w' →
      ((0 < m ∨ w.ownsRow base e size v n xs) → w'.ownsRow base e size v' (n + m) (xs ++ news)) → K (a.put o.dst v') w') :
    if Region.wanted o (yielded ops a.tmps) = true then Oper.wp P o a w K Q else E := by
  have hw : Region.wanted o (yielded ops a.tmps) = true := by simp [Region.wanted, hgd]
  rw [if_pos hw]
  obtain ⟨v', w', hr, h2, h3, hb, h4⟩ := run_append_app (P := P) w T o.type base v n xs hv xv m news hx h1 h63 hbytes hbase
  unfold Oper.wp execOp
  simp only [ho, resolve, invoke, builtin, Sem.run_bind, Sem.run_pure, Result.andThen_ok, List.map_toArray, List.map_cons, List.map_nil, hs, hxe, hr]
  exact h v' w' h2 h3 hb h4

/-- append of nothing to a full slice: the slice itself -/
theorem wpList_append_zero {P : Program} (w : World) {ops : Array Oper} {rest : List Oper} {o : Oper} {a : Act} {Q : Exit → Act → World → Prop} (hgd : o.guard = none) (s x : Operand) {t e size bytes : Nat}
    (ho : o.op = .call { callee := .builtin .append, args := #[s, x], argTypes := #[t, t] }) (T : ElemT P t e size bytes)
    (ao ax : Option Addr) (n c : Nat) (hs : a.eval s = .slice ao n n) (hxe : a.eval x = .slice ax 0 c)
    (h63 : n ≤ maxLen) (h : wpList P ops Q rest (a.put o.dst (.slice ao n n)) w) : wpList P ops Q (o :: rest) a w := by
  obtain ⟨ht, ⟨i, z, hi, hz, rfl, rfl, hzs⟩, hpos⟩ := T
  refine wpList_plain hgd fun K hK => ?_
  have hr : (Builtin.append_ #[t, t] o.type #[.slice ao n n, .slice ax 0 c]).run P w = .ok (.slice ao n n) w := by
    cases ao <;> cases ax <;> simp [Builtin.append_, run_underlying ht, sizeOf, typeInfo, hi, Builtin.lenOf, Builtin.firstCells, loadCells, loadCellsFrom, storeCells]
  unfold Oper.wp execOp
  simp only [ho, resolve, invoke, builtin, Sem.run_bind, Sem.run_pure, Result.andThen_ok, List.map_toArray, List.map_cons, List.map_nil, hs, hxe, hr]
  exact hK _ _ h

theorem Src.of_cells {w : World} {b off n size c : Nat} {xs : List Value} (h : Cells w b off xs) (hl : xs.length = n * size) (hc : n ≤ c) : Src w size (.slice (some ⟨b, off, none⟩) n c) n xs :=
  ⟨hl, _, c, rfl, hc, by simp, fun b' hb' j u hu => by cases hb'; exact h.add j u hu⟩
theorem Src.nil {w : World} {size : Nat} : Src w size (.slice none 0 0) 0 [] := ⟨by simp, none, 0, rfl, Nat.le_refl _, by simp, by simp⟩
theorem Src.of_app {w : World} {base e size n : Nat} {v : Value} {xs : List Value} (h : App w base e size v n xs) : Src w size v n xs := by
  rcases h with h | ⟨hl, ao, rfl, h0, hc⟩
  · refine ⟨h.1, ?_⟩
    rcases owns_form h with ⟨rfl, rfl, rfl⟩ | ⟨g, cap, rfl, _, _, hn, hc⟩
    · exact ⟨none, 0, rfl, Nat.le_refl _, by simp, by simp⟩
    · exact ⟨_, cap, rfl, hn, by simp, fun b' hb' j u hu => by cases hb'; exact hc.add j u hu⟩
  · exact ⟨hl, ao, n, rfl, Nat.le_refl _, fun h => ⟨h0 h, h0 h⟩, hc⟩
theorem Src.kept {a b : World} {size : Nat} {x : Value} {m : Nat} {news : List Value} (h : Src a size x m news) (hk : Kept a b) : Src b size x m news := by
  obtain ⟨hl, ax, c, rfl, hmc, hn, hc⟩ := h
  exact ⟨hl, ax, c, rfl, hmc, hn, fun b hb j u hu => hk.cell' (hc b hb j u hu)⟩
theorem Src.cells {w : World} {size b off n c : Nat} {xs : List Value} (h : Src w size (.slice (some ⟨b, off, none⟩) n c) n xs) : Cells w b off xs := by
  obtain ⟨hl, ax, c', hv, _, hn, hc⟩ := h
  cases hv
  intro j hj
  have := hc _ rfl j xs[j] (List.getElem?_eq_getElem hj)
  unfold Addr.add at this
  split at this
  · rename_i h0; subst h0; simpa using this
  · exact this
theorem Src.one {w : World} {v : Value} {e : Nat} : Src (w.alloc (.cells #[v] e)) 1 (.slice (some ⟨w.heap.size, 0, none⟩) 1 1) 1 [v] :=
  Src.of_cells (fun j hj => by simp at hj; subst hj; simp) (by simp) (Nat.le_refl _)
/-- A row made by 'E{..}': owned. -/
theorem App.kept {a b : World} {base e size n : Nat} {v : Value} {xs : List Value} (h : App a base e size v n xs) (hk : Kept a b) : App b base e size v n xs := by
  rcases h with h | ⟨hl, ao, rfl, h0, hc⟩
  · refine .inl ⟨h.1, ?_⟩
    rcases h.2 with h2 | ⟨g, cap, cur, hv, hg, hh, r⟩
    · exact .inl h2
    · exact .inr ⟨g, cap, cur, hv, hg, hk.block hh, r⟩
  · exact .inr ⟨hl, ao, rfl, h0, fun b hb j u hu => hk.cell' (hc b hb j u hu)⟩
theorem ownsRow_kept {a b : World} {base e size n : Nat} {v : Value} {xs : List Value} (h : a.ownsRow base e size v n xs) (hk : Kept a b) : b.ownsRow base e size v n xs := by
  refine ⟨h.1, ?_⟩
  rcases h.2 with h2 | ⟨g, cap, cur, hv, hg, hh, r⟩
  · exact .inl h2
  · exact .inr ⟨g, cap, cur, hv, hg, hk.block hh, r⟩
theorem Kept.below {a b c : World} {base : Nat} (h : Kept a b) (hb : a.heap.size ≤ base) (hg : Below base b c) : Kept a c := Below.trans h (hg.mono hb)

theorem App.full {w : World} {base e size n c : Nat} {x : Option Addr} {xs : List Value} (h : Src w size (.slice x n c) n xs) : App w base e size (.slice x n n) n xs := by
  obtain ⟨hl, ax, c', hv, _, hn, hc⟩ := h
  cases hv
  exact .inr ⟨hl, x, rfl, fun h => (hn h).1, hc⟩
theorem App.empty (w : World) (base e size : Nat) : App w base e size (.slice none 0 0) 0 [] := .inl (World.ownsRow_nil w base e size)

end Go.Proofs.YtglplhmclfekfaaGreat
/- What a call leaves as it was: all but the blocks that S names. Places where the walk stops. Rules for maps with int keys. -/
namespace Go.Proofs.YtglplhmclfekfaaGreat
open Go.RowKit Go.ChangeMaps Go.MapKept
set_option linter.unusedVariables false
set_option linter.unusedSimpArgs false

structure Stop (p : Prop) : Prop where
  out : p
theorem stop_at {P : Program} {ops : Array Oper} {Q : Exit → Act → World → Prop} {rest : List Oper} {o : Oper} {a : Act} {w : World} (h : Stop (wpList P ops Q (o :: rest) a w)) : wpList P ops Q (o :: rest) a w := h.out

/-- Nothing but what S names, and what is new, has turned. -/
structure But (S : Nat → Prop) (w w' : World) : Prop where
  os : w'.os = w.os
  tape : w'.tape = w.tape
  output : w'.output = w.output
  size : w.heap.size ≤ w'.heap.size
  block : ∀ k, k < w.heap.size → ¬ S k → w'.heap[k]? = w.heap[k]?

theorem But.refl (S : Nat → Prop) (w : World) : But S w w := ⟨rfl, rfl, rfl, Nat.le_refl _, fun _ _ _ => rfl⟩
theorem But.trans' {S S' : Nat → Prop} {a b c : World} (h : But S a b) (k : But S' b c) (hs : ∀ i, S' i → S i ∨ a.heap.size ≤ i) : But S a c :=
  ⟨k.os.trans h.os, k.tape.trans h.tape, k.output.trans h.output, Nat.le_trans h.size k.size, fun i hi hn =>
    (k.block i (Nat.lt_of_lt_of_le hi h.size) (fun h' => by rcases hs i h' with h'' | h''; exact hn h''; omega)).trans (h.block i hi hn)⟩
theorem But.trans {S : Nat → Prop} {a b c : World} (h : But S a b) (k : But S b c) : But S a c := h.trans' k fun _ h => .inl h
theorem But.mono {S S' : Nat → Prop} {a b : World} (h : But S a b) (hs : ∀ i, S i → S' i) : But S' a b := ⟨h.os, h.tape, h.output, h.size, fun i hi hn => h.block i hi (fun h' => hn (hs i h'))⟩
theorem But.kept {S : Nat → Prop} {a b : World} (h : Kept a b) : But S a b := ⟨h.os, h.tape, h.output, h.size, fun i hi _ => Below.block h i hi⟩
theorem But.keep {S : Nat → Prop} {a b c : World} (h : But S a b) (k : Kept b c) : But S a c := h.trans (But.kept k)
theorem But.below {S : Nat → Prop} {base : Nat} {a b : World} (h : But S a b) (hs : ∀ i, S i → base ≤ i) (hb : base ≤ a.heap.size) : Below base a b :=
  ⟨h.os, h.tape, h.output, h.size, fun i hi => h.block i (by omega) (fun h' => by have := hs i h'; omega)⟩
theorem But.to_kept {S : Nat → Prop} {w a b : World} (hk : Kept w a) (h : But S a b) (hs : ∀ i, S i → w.heap.size ≤ i) : Kept w b := Below.trans hk (h.below hs hk.size)
theorem But.alloc {S : Nat → Prop} {a b : World} (h : But S a b) (o : Obj) : But S a (b.alloc o) := h.keep ((Kept.refl _).alloc o)
theorem But.drew {S : Nat → Prop} {a b : World} (h : But S a b) : But S a b.drew := h.keep (Kept.refl _).drew
theorem But.drewN {S : Nat → Prop} {a b : World} (h : But S a b) (n : Nat) : But S a (b.drewN n) := h.keep ((Kept.refl _).drewN n)
theorem setBlock_oth (w : World) (k i : Nat) (o : Obj) (h : i ≠ k) : (setBlock w k o).heap[i]? = w.heap[i]? := by
  simp [setBlock, Array.getElem?_setIfInBounds, Ne.symm h]
theorem But.setBlock {S : Nat → Prop} {a b : World} (h : But S a b) {k : Nat} (o : Obj) (hk : S k ∨ a.heap.size ≤ k) : But S a (setBlock b k o) := by
  refine ⟨h.os, h.tape, h.output, by simpa [ChangeMaps.setBlock] using h.size, fun i hi hn => ?_⟩
  have hne : i ≠ k := by
    intro e; subst e; rcases hk with hk | hk
    · exact hn hk
    · omega
  rw [setBlock_oth _ _ _ _ hne]
  exact h.block i hi hn
theorem But.setCell {S : Nat → Prop} {a b : World} (h : But S a b) {p : Addr} (u : Value) (hk : S p.block ∨ a.heap.size ≤ p.block) : But S a (b.setCell p u) := by
  refine ⟨h.os, h.tape, h.output, by simpa [World.setCell] using h.size, fun i hi hn => ?_⟩
  have hne : p.block ≠ i := by
    intro e; subst e; rcases hk with hk | hk
    · exact hn hk
    · omega
  rw [heap_setCell_other _ _ _ _ (Ne.symm hne)]
  exact h.block i hi hn
theorem But.grown {S : Nat → Prop} {a b c : World} {row : Option Nat} (h : But S a b) (hg : b.grownBy c row) (hr : ∀ k, row = some k → S k ∨ a.heap.size ≤ k) : But S a c :=
  h.trans' (S' := fun k => row = some k) ⟨hg.os, hg.tape, hg.output, hg.size, fun k hk hn => hg.block k hk (fun e => hn e.symm)⟩ fun i hi => hr i hi
theorem But.cell {S : Nat → Prop} {a b : World} (h : But S a b) {p : Addr} {v : Value} (hn : ¬ S p.block) (hc : a.cell? p = some v) : b.cell? p = some v :=
  (World.cell?_of_block (h.block _ (World.block_lt_of_cell? _ _ hc) hn)).trans hc
theorem But.blk {S : Nat → Prop} {a b : World} (h : But S a b) {k : Nat} {o : Obj} (hn : ¬ S k) (hc : a.heap[k]? = some o) : b.heap[k]? = some o :=
  (h.block k (Array.getElem?_eq_some_iff.1 hc).1 hn).trans hc
theorem But.imap {S : Nat → Prop} {a b : World} (h : But S a b) {k m : Nat} {f : Int → Option Value} (hn : ¬ S k) (hi : IMap a k m f) : IMap b k m f := hi.same (h.block k hi.lt hn)

section
variable {P : Program} {ops : Array Oper} {rest : List Oper} {o : Oper} {a : Act} {w : World} {Q : Exit → Act → World → Prop} {t k e : TypeId} {z : Value} {b c : Nat} {f : Int → Option Value}

theorem exec_lookup (m x : Operand) (ok : Bool) (ho : o.op = .lookup t m x ok) (ht : P.underlying t = some (.map k e)) (hk : P.underlying k = some (.int .i64)) (hz : ∀ w, (zeroValue e).run P w = .ok z w)
    (hm : a.eval m = .map (some b)) (n : Int) (hx : a.eval x = .int .i64 n) (h : IMap w b c f) :
    (execOp a.eval o).run P w = .ok (.value (if ok then .tuple #[(f n).getD z, .bool (f n).isSome] else (f n).getD z)) w := by
  have hr := h.lookup ht hk hz n ok
  unfold execOp
  simp only [ho, Sem.run_bind, hm, hx, hr, Result.andThen_ok, Sem.run_pure]
theorem wpList_lookup_im (hgd : Region.wanted o (yielded ops a.tmps) = true) (m x : Operand) (ok : Bool) (ho : o.op = .lookup t m x ok) (ht : P.underlying t = some (.map k e)) (hk : P.underlying k = some (.int .i64)) (hz : ∀ w, (zeroValue e).run P w = .ok z w)
    (hm : a.eval m = .map (some b)) (n : Int) (hx : a.eval x = .int .i64 n) (hi : IMap w b c f) (v : Value) (hv : (if ok then .tuple #[(f n).getD z, .bool (f n).isSome] else (f n).getD z) = v)
    (h : wpList P ops Q rest (a.put o.dst v) w) : wpList P ops Q (o :: rest) a w := by
  refine BigFrame.wpList_want hgd fun K hK => ?_
  have hr := exec_lookup m x ok ho ht hk hz hm n hx hi
  unfold Oper.wp
  rw [hr, hv]
  exact hK _ _ h
theorem wpList_update_im (hgd : Region.wanted o (yielded ops a.tmps) = true) (m x y : Operand) (ho : o.op = .mapUpdate t m x y) (ht : P.underlying t = some (.map k e)) (hk : P.underlying k = some (.int .i64))
    (hm : a.eval m = .map (some b)) (n : Int) (hx : a.eval x = .int .i64 n) (v : Value) (hy : a.eval y = v) (hi : IMap w b c f)
    (h : ∀ o', IMap (setBlock w b o') b (c + 1) (upd f n v) → wpList P ops Q rest (a.put o.dst undef) (setBlock w b o')) : wpList P ops Q (o :: rest) a w := by
  refine BigFrame.wpList_want hgd fun K hK => ?_
  obtain ⟨w', hr, hi', o', rfl⟩ := hi.update (t := t) (e := e) ht hk n v
  unfold Oper.wp execOp
  simp only [ho, Sem.run_bind, hm, hx, hy, hr, Result.andThen_ok, Sem.run_pure]
  exact hK _ _ (h o' hi')
theorem wp_update_im {K : Act → World → Prop} (m x y : Operand) (ho : o.op = .mapUpdate t m x y) (ht : P.underlying t = some (.map k e)) (hk : P.underlying k = some (.int .i64))
    (hm : a.eval m = .map (some b)) (n : Int) (hx : a.eval x = .int .i64 n) (v : Value) (hy : a.eval y = v) (hi : IMap w b c f)
    (h : ∀ o', IMap (setBlock w b o') b (c + 1) (upd f n v) → K (a.put o.dst undef) (setBlock w b o')) : o.wp P a w K Q := by
  obtain ⟨w', hr, hi', o', rfl⟩ := hi.update (t := t) (e := e) ht hk n v
  unfold Oper.wp execOp
  simp only [ho, Sem.run_bind, hm, hx, hy, hr, Result.andThen_ok, Sem.run_pure]
  exact h o' hi'
theorem wpList_delete_im (hgd : Region.wanted o (yielded ops a.tmps) = true) (m x : Operand) (ho : o.op = .call { callee := .builtin .delete, args := #[m, x], argTypes := #[t, k] }) (ht : P.underlying t = some (.map k e)) (hk : P.underlying k = some (.int .i64))
    (hm : a.eval m = .map (some b)) (n : Int) (hx : a.eval x = .int .i64 n) (hi : IMap w b c f)
    (h : ∀ o', IMap (setBlock w b o') b c (del f n) → wpList P ops Q rest (a.put o.dst (.tuple #[])) (setBlock w b o')) : wpList P ops Q (o :: rest) a w := by
  refine BigFrame.wpList_want hgd fun K hK => ?_
  obtain ⟨w', hr, hi', o', rfl⟩ := hi.delete (t := t) (e := e) (ty := o.type) ht hk n
  unfold Oper.wp execOp
  simp only [ho, resolve, invoke, builtin, Sem.run_bind, Sem.run_pure, Result.andThen_ok, List.map_toArray, List.map_cons, List.map_nil, hm, hx, hr]
  exact hK _ _ (h o' hi')
end

theorem zero_slice (w : World) : (zeroValue 80).run Tryz.prog w = .ok (.slice none 0 0) w := by kernel_rfl
def ints (l : List Int) : List Value := l.map (.int .i64)
theorem ints_length (l : List Int) : (ints l).length = l.length := by simp [ints]
end Go.Proofs.YtglplhmclfekfaaGreat
/- Whole aggregates (sectors and the like): made, loaded, stored, compared, without going through their cells one by one. -/
namespace Go.Proofs.YtglplhmclfekfaaGreat
open Go.RowKit
set_option linter.unusedVariables false

/-- An aggregate type of n cells. -/
structure AggT (P : Program) (t n : Nat) : Prop where
  d : ∃ d, P.underlying t = some d ∧ d.isRow = true
  sz : (P.info? t).map (·.size) = some n

/-- w1 is w but for block g, which holds these cells. -/
structure Wrote (w w1 : World) (g : Nat) (cs : List Value) (t : TypeId) : Prop where
  blk : w1.heap[g]? = some (.cells cs.toArray t (0, 0))
  oth : ∀ k, k ≠ g → w1.heap[k]? = w.heap[k]?
  size : w1.heap.size = w.heap.size
  os : w1.os = w.os
  tape : w1.tape = w.tape
  output : w1.output = w.output
theorem Wrote.kept {a w w1 : World} {g : Nat} {cs : List Value} {t : TypeId} (h : Wrote w w1 g cs t) (hk : Kept a w) (hg : a.heap.size ≤ g) : Kept a w1 :=
  Below.trans hk ⟨h.os, h.tape, h.output, by rw [h.size]; exact Nat.le_refl _, fun k hk => h.oth k (by omega)⟩
theorem Wrote.grown {w w1 : World} {g : Nat} {cs : List Value} {t : TypeId} (h : Wrote w w1 g cs t) : w.grownBy w1 (some g) :=
  ⟨h.os, h.tape, h.output, by rw [h.size]; exact Nat.le_refl _, fun k _ hk => h.oth k (by simpa using hk)⟩
theorem Wrote.cells {w w1 : World} {g : Nat} {cs : List Value} {t : TypeId} (h : Wrote w w1 g cs t) : Cells w1 g 0 cs := by
  simpa using Cells.of_block h.blk

theorem splice_all {α : Type} (L cs : List α) (h : cs.length = L.length) : splice L 0 cs = cs := by simp [splice, h]
theorem Wrote.all {w w1 : World} {g : Nat} {cur cs : List Value} {t : TypeId} (h : Wrote w w1 g (splice cur 0 cs) t) (hl : cs.length = cur.length) : Wrote w w1 g cs t := by rw [splice_all _ _ hl] at h; exact h

theorem rangeAt_of_cells {w : World} {b off : Nat} {xs : List Value} (h : Cells w b off xs) : w.rangeAt b off xs := by
  intro j v hv
  obtain ⟨hj, rfl⟩ := List.getElem?_eq_some_iff.1 hv
  exact h j hj

section
variable {P : Program} {ops : Array Oper} {rest : List Oper} {o : Oper} {a : Act} {w : World} {Q : Exit → Act → World → Prop}

/-- To stand still at a builtin's call, at a load, at a store. -/
theorem stop_bi (b : Builtin) (args : Array Operand) (ats : Array TypeId) (ho : o.op = .call { callee := .builtin b, args := args, argTypes := ats }) (h : wpList P ops Q (o :: rest) a w) : wpList P ops Q (o :: rest) a w := h
theorem stop_load (T : TypeId) (x : Operand) (ho : o.op = .load T x) (h : wpList P ops Q (o :: rest) a w) : wpList P ops Q (o :: rest) a w := h
theorem stop_store (T : TypeId) (x y : Operand) (ho : o.op = .store T x y) (h : wpList P ops Q (o :: rest) a w) : wpList P ops Q (o :: rest) a w := h

/-- A new variable of an aggregate type: zeros, the world a letter. -/
theorem wpList_alloc_abs (hgd : o.guard = none) (T : TypeId) (ho : o.op = .alloc T) (zs : List Value) (hz : ∀ w, (zeroValue T).run P w = .ok (.agg zs.toArray) w)
    (h : ∀ w1, Hid (w1.heap[w.heap.size]? = some (.cells zs.toArray T (0, 0))) → w.heap.size < w1.heap.size → Hid (w1.heap.size = w.heap.size + 1) → Kept w w1 → wpList P ops Q rest (a.put o.dst (.pointer (some ⟨w.heap.size, 0, none⟩))) w1) : wpList P ops Q (o :: rest) a w := by
  refine wpList_plain hgd fun K hK => ?_
  unfold Oper.wp execOp
  simp only [ho, Instr.alloc, newVar, newRow, Sem.run_bind, hz, Result.andThen_ok, Sem.run_pure, run_newObj_alloc, Value.cells]
  exact hK _ _ (h _ (Lib.hid (heap_alloc_new w _)) (by simp) (Lib.hid (World.size_alloc _ _)) ((Kept.refl _).alloc _))

theorem wpList_load_agg (hgd : o.guard = none) {T n : Nat} (x : Operand) (ho : o.op = .load T x) (hT : AggT P T n)
    (b off : Nat) (hx : a.eval x = .pointer (some ⟨b, off, none⟩)) (xs : List Value) (hc : Cells w b off xs) (hl : xs.length = n)
    (h : wpList P ops Q rest (a.put o.dst (.agg xs.toArray)) w) : wpList P ops Q (o :: rest) a w := by
  obtain ⟨⟨d, hd1, hd2⟩, hs⟩ := hT
  exact wpList_load_mid hgd T x ho b off hx xs d (rangeAt_of_cells hc) hd1 hd2 (by rw [hs, hl]) h

/-- The same where the operation has a guard that lets it run. -/
theorem wpList_load_aggW {T n : Nat} (x : Operand) (ho : o.op = .load T x) (hT : AggT P T n)
    (b off : Nat) (hx : a.eval x = .pointer (some ⟨b, off, none⟩)) (xs : List Value) (hc : Cells w b off xs) (hl : xs.length = n)
    (hw : Region.wanted o (yielded ops a.tmps) = true)
    (h : wpList P ops Q rest (a.put o.dst (.agg xs.toArray)) w) : wpList P ops Q (o :: rest) a w := by
  obtain ⟨⟨d, hd1, hd2⟩, hs⟩ := hT
  refine wpList_step fun K hK => ?_
  rw [if_pos hw]
  exact wp_load_mid T x ho b off hx xs d (rangeAt_of_cells hc) hd1 hd2 (by rw [hs, hl]) (hK _ _ h)

theorem wpList_store_agg (hgd : o.guard = none) {T n : Nat} (x y : Operand) (ho : o.op = .store T x y) (hT : AggT P T n)
    (b off : Nat) (hx : a.eval x = .pointer (some ⟨b, off, none⟩)) (xs : List Value) (hy : a.eval y = .agg xs.toArray) (hl : xs.length = n) (h1 : ∀ v ∈ xs, v.oneCell' = true)
    (cur : List Value) (t : TypeId) (hb : w.heap[b]? = some (.cells cur.toArray t (0, 0))) (hfit : off + n ≤ cur.length)
    (h : ∀ w1, Wrote w w1 b (splice cur off xs) t → wpList P ops Q rest (a.put o.dst undef) w1) : wpList P ops Q (o :: rest) a w := by
  refine wpList_plain hgd fun K hK => ?_
  have hst := run_storeCells_at P b off t xs 0 cur.toArray w hb (by simpa [hl] using hfit) h1
  obtain ⟨_, hs⟩ := hT
  cases hq : P.info? T with
  | none => simp [hq] at hs
  | some i =>
    have hi : i.size = n := by simpa [hq] using hs
    unfold Oper.wp execOp
    simp only [ho, hx, hy, Instr.storeAt, Instr.sureAddr, Sem.run_bind, Sem.run_pure, Result.andThen_ok, storeVar, sizeOf, typeInfo, run_program, hq, Value.cells, List.size_toArray, hi, hl, ne_eq, not_true_eq_false, if_false, hst]
    refine hK _ _ (h _ ⟨?_, ?_, ?_, rfl, rfl, rfl⟩)
    · rw [setRow_heap w b _ _ t _ hb]
      subst hl; simp [splice]
    · intro k hk; exact setRow_other w b k _ hk
    · simp

end

/-- 'a[lo:]' of an array behind a pointer, of elements of one cell. -/
theorem run_sliceAt_from {P : Program} (w : World) (t e n : Nat) (ht : P.underlying t = some (.array n e)) (hsz : (P.info? e).map (·.size) = some 1) (b off lo : Nat) (hlo : lo < n) :
    (Instr.sliceAt t (.pointer (some ⟨b, off, none⟩)) (some (.int .i64 (lo : Int))) none none).run P w = .ok (.slice (some ⟨b, off + lo, none⟩) (n - lo) (n - lo)) w := by
  cases hi : P.info? e with
  | none => simp [hi] at hsz
  | some i =>
    have h1 : i.size = 1 := by simpa [hi] using hsz
    have h2 : (0 : Int) ≤ (lo : Int) ∧ (lo : Int) ≤ (n : Int) := by omega
    have h3 : ¬ n = lo := by omega
    have h4 : (Instr.sliceBound (.int .i64 (lo : Int)) n .sliceB).run P w = .ok lo w := by
      simp only [Instr.sliceBound, asIntOf, Sem.run_bind, Sem.run_pure, Result.andThen_ok]
      rw [if_pos h2]; rfl
    simp [Instr.sliceAt, Instr.sureAddr, run_underlying ht, Instr.sliceBounds, h4, sizeOf, typeInfo, hi, h1, h3, Addr.add_lit]

theorem run_equalIn_ints {P : Program} (w : World) (d : Nat) (t e : TypeId) (n : Nat) (k : IntKind) (ht : P.underlying t = some (.array n e)) (he : P.underlying e = some (.int k)) (hsz : ∀ w, (sizeOf e).run P w = .ok 1 w)
    (xs ys : List Int) (hx : xs.length = n) (hy : ys.length = n) :
    (Op.equalIn (d + 2) t (.agg (xs.map (Value.int k)).toArray) (.agg (ys.map (Value.int k)).toArray)).run P w = .ok (xs == ys) w := by
  have hall : ((List.range' 0 n 1).all fun i => xs.getD i 0 == ys.getD i 0) = (xs == ys) := by
    rw [Bool.eq_iff_iff, List.all_eq_true, beq_iff_eq]
    constructor
    · intro h
      apply List.ext_getElem (by omega)
      intro i h1 h2
      have := h i (by rw [List.mem_range'_1]; omega)
      simpa [List.getD, h1, h2] using this
    · intro h i _; subst h; simp
  rw [← hall, Op.equalIn]
  simp only [Sem.run_bind, run_underlying ht, Result.andThen_ok, hsz, Std.Legacy.Range.forIn_eq_forIn_range', Std.Legacy.Range.size, Nat.sub_zero, Nat.add_sub_cancel, Nat.div_one]
  have hl : ∀ i ∈ List.range' 0 n 1, i < n := fun i hi => by simpa using (List.mem_range'_1.1 hi).2
  generalize List.range' 0 n 1 = l at hl ⊢
  clear hall
  induction l with
  | nil => simp
  | cons i l ih =>
    have hi : i < n := hl i (by simp)
    have px : (part e (xs.map (Value.int k)).toArray (i * 1)).run P w = .ok (.int k (xs.getD i 0)) w := by
      simp [part, isAgg, run_underlying he, List.getD, List.getElem?_eq_getElem (show i < xs.length by omega)]
    have py : (part e (ys.map (Value.int k)).toArray (i * 1)).run P w = .ok (.int k (ys.getD i 0)) w := by
      simp [part, isAgg, run_underlying he, List.getD, List.getElem?_eq_getElem (show i < ys.length by omega)]
    have pe : (Op.equalIn (d + 1) e (.int k (xs.getD i 0)) (.int k (ys.getD i 0))).run P w = .ok (xs.getD i 0 == ys.getD i 0) w :=
      run_equalIn_int w d e k k _ _ he
    simp only [List.forIn_cons, Sem.run_bind, px, py, pe, Result.andThen_ok, List.all_cons]
    cases hb : (xs.getD i 0 == ys.getD i 0)
    · simp
    · simp only [Bool.not_true, Bool.false_eq_true, if_false, Sem.run_pure, Result.andThen_ok, Bool.true_and]
      exact ih fun j hj => hl j (by simp [hj])

end Go.Proofs.YtglplhmclfekfaaGreat
/- Rules at the operation: one cell that is set, a value that is read; reads ahead of one store. -/
namespace Go.Proofs.YtglplhmclfekfaaGreat
open Go.RowKit Go.ChangeMaps Go.MapKept
set_option linter.unusedVariables false
set_option linter.unusedSimpArgs false

section
variable {P : Program} {ops : Array Oper} {rest : List Oper} {o : Oper} {a : Act} {Q : Exit → Act → World → Prop} {w : World}
/-- One cell is set; the world a letter. -/
theorem wpList_set_cell (hgd : Region.wanted o (yielded ops a.tmps) = true) {T : Nat} (x y : Operand) (ho : o.op = .store T x y) (hT : (P.info? T).map (·.size) = some 1)
    (b off : Nat) (hx : a.eval x = .pointer (some ⟨b, off, none⟩)) (v : Value) (hy : a.eval y = v) (hv : v.cells = #[v]) (h1 : v.oneCell' = true)
    (cur : List Value) (t : TypeId) (hb : w.heap[b]? = some (.cells cur.toArray t (0, 0))) (hfit : off < cur.length)
    (h : ∀ w1, Wrote w w1 b (cur.set off v) t → wpList P ops Q rest (a.put o.dst undef) w1) : wpList P ops Q (o :: rest) a w := by
  refine BigFrame.wpList_want hgd fun K hK => ?_
  have hst := run_storeCells_at P b off t [v] 0 cur.toArray w hb (by simp; omega) (by simpa using h1)
  cases hq : P.info? T with
  | none => simp [hq] at hT
  | some i =>
    have hi : i.size = 1 := by simpa [hq] using hT
    unfold Oper.wp execOp
    simp only [ho, hx, hy, Instr.storeAt, Instr.sureAddr, Sem.run_bind, Sem.run_pure, Result.andThen_ok, storeVar, sizeOf, typeInfo, run_program, hq, hv, hi, List.size_toArray, List.length_cons, List.length_nil, Nat.zero_add, ne_eq, not_true_eq_false, if_false, show (#[v] : Array Value).size = 1 from rfl, show (#[v] : Array Value) = [v].toArray from rfl, hst]
    refine hK _ _ (h _ ⟨?_, ?_, ?_, rfl, rfl, rfl⟩)
    · rw [setRow_heap w b _ _ t _ hb]
      simp [List.set_eq_take_append_cons_drop, hfit]
    · intro k hk; exact setRow_other w b k _ hk
    · simp
theorem wpStill_val {K : Act → Prop} {v : Value} (hw : Region.wanted o (yielded ops a.tmps) = true) (hr : (execOp a.eval o).run P w = .ok (.value v) w) (h : wpStill P ops w K rest (a.put o.dst v)) : wpStill P ops w K (o :: rest) a := by
  unfold wpStill
  rw [if_pos hw]
  unfold Oper.still
  rw [hr]
  exact ⟨rfl, h⟩
/-- Reads first, in whatever order; then the rest in its one order: the world a letter. -/
theorem wp_still_tail {id : Nat} {l : List Oper} (n : Nat) (hm : P.follows .mixedOrders = true) (hB : Region.lexTailB .any l.toArray n = true)
    (h : ∀ w1, Kept w w1 → w1.heap = w.heap → wpStill P l.toArray w1 (fun a' => wpList P l.toArray Q (l.drop n) a' w1) (l.take n) a) : (Code.region id l.toArray true).wp P Q a w :=
  wp_region_still_tail n hm hB (h w.drew (Kept.refl w).drew rfl)
theorem But.wrote {S : Nat → Prop} {w1 : World} {g : Nat} {cs : List Value} {t : TypeId} (h : Wrote w w1 g cs t) (hs : S g) : But S w w1 :=
  ⟨h.os, h.tape, h.output, by rw [h.size]; exact Nat.le_refl _, fun k hk hn => h.oth k (fun e => hn (e ▸ hs))⟩
end

theorem size_int : (Tryz.prog.info? 3).map (·.size) = some 1 := by kernel_rfl
end Go.Proofs.YtglplhmclfekfaaGreat
/- Bits of int. -/
namespace Go.Proofs.YtglplhmclfekfaaGreat
open Go.RowKit
set_option linter.unusedVariables false

theorem ofInt_nat64 (a : Nat) (h : a < 9223372036854775808) : (BitVec.ofInt 64 (a : Int)).toNat = a := by
  rw [BitVec.toNat_ofInt]; omega

theorem i64_or_nat (a b : Nat) (ha : a < 9223372036854775808) (hb : b < 9223372036854775808) : bits .or .i64 (a : Int) (b : Int) = ((a ||| b : Nat) : Int) := by
  have hx : a ||| b < 2 ^ 63 := Nat.or_lt_two_pow (by omega) (by omega)
  show IntKind.i64.wrap ((BitVec.ofInt 64 (a : Int) ||| BitVec.ofInt 64 (b : Int)).toNat : Int) = _
  rw [BitVec.toNat_or, ofInt_nat64 a ha, ofInt_nat64 b hb, IntKind.wrap_i64]
  omega

theorem i64_shl8_or (y x : Int) (h1 : 0 ≤ y) (h2 : y < 1099511627776) (h3 : 0 ≤ x) (h4 : x ≤ 255) : bits .or .i64 (y * 256) x = y * 256 + x := by
  obtain ⟨Y, rfl⟩ := Int.eq_ofNat_of_zero_le h1
  obtain ⟨X, rfl⟩ := Int.eq_ofNat_of_zero_le h3
  have : ((Y : Int) * 256) = ((Y * 256 : Nat) : Int) := by omega
  rw [this, i64_or_nat _ _ (by omega) (by omega), nat_join 8 _ _ (by omega) (by omega)]
  omega

theorem i64_and_mask (n : Int) (k : Nat) (hk : k ≤ 62) : bits .and .i64 n (2 ^ k - 1) = n % 2 ^ k := by
  show IntKind.i64.wrap ((BitVec.ofInt 64 n &&& BitVec.ofInt 64 (2 ^ k - 1)).toNat : Int) = _
  have hp : 2 ^ k ≤ 2 ^ 62 := Nat.pow_le_pow_right (by decide) hk
  have hp0 : 0 < 2 ^ k := Nat.two_pow_pos k
  have e1 : ((2 : Int) ^ k - 1) = ((2 ^ k - 1 : Nat) : Int) := by
    have : ((2 ^ k : Nat) : Int) = (2 : Int) ^ k := by norm_cast
    omega
  rw [BitVec.toNat_and, e1, ofInt_nat64 _ (by omega), Nat.and_two_pow_sub_one_eq_mod, BitVec.toNat_ofInt, IntKind.wrap_i64]
  have hd : ((2 : Int) ^ k) ∣ 18446744073709551616 := ⟨2 ^ (64 - k), by rw [← Int.pow_add]; rw [show k + (64 - k) = 64 from by omega]; rfl⟩
  have e2 : (((n % ((2 ^ 64 : Nat) : Int)).toNat % 2 ^ k : Nat) : Int) = n % 2 ^ k := by
    have h0 : 0 ≤ n % ((2 ^ 64 : Nat) : Int) := Int.emod_nonneg _ (by decide)
    rw [Int.natCast_emod, Int.toNat_of_nonneg h0]
    have : ((2 ^ k : Nat) : Int) = (2 : Int) ^ k := by norm_cast
    rw [this]
    exact Int.emod_emod_of_dvd n hd
  rw [e2]
  have h1 : 0 ≤ n % 2 ^ k := Int.emod_nonneg _ (by have : ((2 ^ k : Nat) : Int) = (2 : Int) ^ k := by norm_cast
                                                   omega)
  have h2 : n % 2 ^ k < 2 ^ k := Int.emod_lt_of_pos _ (by have : ((2 ^ k : Nat) : Int) = (2 : Int) ^ k := by norm_cast
                                                          omega)
  have h3 : ((2 ^ k : Nat) : Int) = (2 : Int) ^ k := by norm_cast
  omega

end Go.Proofs.YtglplhmclfekfaaGreat
/- pack.may, pack.Put, pack.Get. -/
namespace Go.Proofs.YtglplhmclfekfaaGreat
open Go.RowKit
set_option linter.unusedVariables false

theorem ty_bytes : ElemT Tryz.prog 121 5 1 1 := by
  obtain ⟨i, h1, h2, h3, h4⟩ := info_parts (P := Tryz.prog) (e := 5) (z := .int .u8 0) (size := 1) (bytes := 1) (by kernel_rfl)
  exact ⟨by kernel_rfl, ⟨i, _, h1, h2, h3, h4, by rfl⟩, by decide⟩

/-- may v be written in width bytes? -/
def mayPut (v width : Int) : Bool := decide (1 ≤ width) && (decide (width ≤ 6) && (decide (0 ≤ v) && (v / 2 ^ (8 * width).toNat == 0)))
theorem mayPut_iff (v width : Int) : mayPut v width = true ↔ 1 ≤ width ∧ width ≤ 6 ∧ 0 ≤ v ∧ v < 2 ^ (8 * width).toNat := by
  have hp : (0 : Int) < 2 ^ (8 * width).toNat := Int.pow_pos (by decide)
  simp only [mayPut, Bool.and_eq_true, decide_eq_true_eq, beq_iff_eq]
  constructor
  · rintro ⟨a, b, c, d⟩
    refine ⟨a, b, c, ?_⟩
    have := Int.lt_ediv_add_one_mul_self v hp
    rw [d] at this; simpa using this
  · rintro ⟨a, b, c, d⟩
    exact ⟨a, b, c, Int.ediv_eq_zero_of_lt c d⟩

--
--
--
--
--
--
--
--
--
--
--
--
--
--
--
--
--
--
--
--
--
/-- the k lowest bytes of v, the highest first -/
def beBytes (v : Int) : Nat → List Int
  | 0 => []
  | k + 1 => (v / 2 ^ (8 * k)) % 256 :: beBytes v k
theorem beBytes_length (v : Int) (k : Nat) : (beBytes v k).length = k := by induction k <;> simp_all [beBytes]
def u8s (l : List Int) : List Value := l.map (.int .u8)
theorem u8s_length (l : List Int) : (u8s l).length = l.length := by simp [u8s]
theorem u8s_append (l k : List Int) : u8s (l ++ k) = u8s l ++ u8s k := by simp [u8s]
theorem u8s_one (l : List Int) : ∀ u ∈ u8s l, u.oneCell' = true := by
  intro u hu
  simp only [u8s, List.mem_map] at hu
  obtain ⟨n, _, rfl⟩ := hu
  rfl

--
--
--
--
--
--
--
--
--
--
--
--
--
--
--
--
--
--
--
--
--
--
--
--
--
--
--
--
--
--
--
--
--
--
--
--
--
--
--
--
--
--
--
--
--
--
--
--
--
--
--
--
--
--
--
--
--
--
--
--
--
--
--
--
--
--
/-- the number that bytes say, the highest first -/
def beVal (l : List Int) : Int := l.foldl (fun a c => a * 256 + c) 0
theorem beVal_snoc (l : List Int) (c : Int) : beVal (l ++ [c]) = beVal l * 256 + c := by simp [beVal]
def IsByte (c : Int) : Prop := 0 ≤ c ∧ c ≤ 255
theorem beVal_bd (l : List Int) (h : ∀ c ∈ l, IsByte c) : 0 ≤ beVal l ∧ beVal l < 256 ^ l.length := by
  suffices ∀ (r : List Int), (∀ c ∈ r, IsByte c) → 0 ≤ beVal r.reverse ∧ beVal r.reverse < 256 ^ r.length by
    have := this l.reverse (fun c hc => h c (by simpa using hc)); simpa using this
  intro r
  induction r with
  | nil => intro _; simp [beVal]
  | cons c r ih =>
    intro h
    have ih' := ih (fun c hc => h c (by simp [hc]))
    have hc := h c (by simp)
    obtain ⟨a, b⟩ := hc
    rw [List.reverse_cons, beVal_snoc, List.length_cons, Int.pow_succ]
    omega

theorem getD_u8s (bs : List Int) (k : Nat) (h : k < bs.length) : (u8s bs)[k]? = some (.int .u8 (bs.getD k 0)) := by
  simp [u8s, h]

--
--
--
--
--
--
--
--
--
--
--
--
--
--
--
--
--
--
--
--
--
--
--
--
--
--
--
--
--
--
--
--
--
--
--
--
--
--
--
--
--
--
--
--
--
--
--
--
--
--
--
end Go.Proofs.YtglplhmclfekfaaGreat
/- Sectors. -/
namespace Go.Proofs.YtglplhmclfekfaaGreat
open Go.RowKit
set_option linter.unusedVariables false

/-- a sector of these bytes -/
def secV (bs : List Int) : Value := .agg (u8s bs).toArray
/-- the sector of noughts -/
def zeroB : List Int := List.replicate 64 0
theorem conv_const (w : World) (C : Array Value) (n c : Nat) :
    (convert 121 121 (.slice (some ⟨w.heap.size, 0, none⟩) n c)).run Tryz.prog (w.alloc (.cells C 5)) = .ok (.slice (some ⟨w.heap.size, 0, none⟩) n c) (w.alloc (.cells C 5 (C.size, C.size + 1))) :=
  Lib.run_convert_bytes_const (P := Tryz.prog) w 121 5 C n c Tryz.underlying121 Tryz.underlying5
theorem zeroB_length : zeroB.length = 64 := by simp [zeroB]
theorem ty_sec : AggT Tryz.prog 43 64 := ⟨⟨_, (show Tryz.prog.underlying 43 = some (.array 64 5) by kernel_rfl), rfl⟩, by kernel_rfl⟩
theorem zero_sec : ∀ w, (zeroValue 43).run Tryz.prog w = .ok (.agg (u8s zeroB).toArray) w := fun w => by
  have h1 : (Tryz.prog.info? 43).map (·.zero) = some (some (.agg (u8s zeroB).toArray)) := by kernel_rfl
  cases hi : Tryz.prog.info? 43 with
  | none => simp [hi] at h1
  | some i =>
    have hz : i.zero = some (.agg (u8s zeroB).toArray) := by simpa [hi] using h1
    simp [zeroValue, typeInfo, hi, hz]
theorem run_equal_sec (xs ys : List Int) (hx : xs.length = 64) (hy : ys.length = 64) (w : World) :
    (Op.equalIn 10000 43 (secV xs) (secV ys)).run Tryz.prog w = .ok (xs == ys) w :=
  run_equalIn_ints w 9998 43 5 64 .u8 (by kernel_rfl) (by kernel_rfl) (fun w => by
    obtain ⟨i, h1, _, h3, _⟩ := info_parts (P := Tryz.prog) (e := 5) (z := .int .u8 0) (size := 1) (bytes := 1) (by kernel_rfl)
    simp [sizeOf, typeInfo, h1, h3]) xs ys hx hy
theorem run_equal_secA (xs ys : List Int) (hx : xs.length = 64) (hy : ys.length = 64) (w : World) :
    (Op.equalIn 10000 43 (.agg (u8s xs).toArray) (.agg (u8s ys).toArray)).run Tryz.prog w = .ok (xs == ys) w := run_equal_sec xs ys hx hy w
theorem eqg_sec : Tryz.prog.eqGuardType Tryz.prog.depth 43 = false := by kernel_rfl
theorem u8s_oneA (l : List Int) : (u8s l).toArray.all (·.oneCell') = true := by
  rw [Array.all_eq_true_iff_forall_mem]; intro x hx; exact u8s_one l x (by simpa using hx)
/-- a function whose results are a sector's variable and a number -/
theorem results_sec {fn : Func} {p q : Tmp} (h : fn.results = #[.cell p 43, .tmp q]) (tmps : Array Value) (w : World) (b : Nat) (bs : List Int)
    (hp : tmps.getD p undef = .pointer (some ⟨b, 0, none⟩)) (hc : Cells w b 0 (u8s bs)) (hl : bs.length = 64) :
    (results fn tmps).run Tryz.prog w = .ok (.tuple #[secV bs, tmps.getD q undef]) w := by
  obtain ⟨⟨d, hd1, hd2⟩, hs⟩ := ty_sec
  have hp' : tmps[p]?.getD undef = .pointer (some ⟨b, 0, none⟩) := by simpa using hp
  have hr := run_loadVar_mid (P := Tryz.prog) w b 0 43 (u8s bs) d (rangeAt_of_cells hc) hd1 hd2 (by rw [hs, u8s_length, hl])
  simp [results, h, hp', asAddr, hr, secV]

end Go.Proofs.YtglplhmclfekfaaGreat
/- A disk.Bank in memory: what its blocks hold. -/
namespace Go.Proofs.YtglplhmclfekfaaGreat
open Go.RowKit
set_option linter.unusedVariables false
set_option linter.unusedSimpArgs false

/-- a disk: its sectors as flushed and newest, since when each is loose, whether it is dead, at which write it fails -/
structure Med where
  flu : List (List Int)
  new : List (List Int)
  sin : List Int
  dead : Bool
  fail : Int
/-- a bank -/
structure BankT where
  l : List Med
  down : Bool
  clock : Int
  writes : Int
  armed : Int
  mask : Int
def Med.zero : Med := ⟨[], [], [], false, 0⟩
def Med.fresh (n : Nat) : Med := ⟨List.replicate n zeroB, List.replicate n zeroB, List.replicate n 0, false, 0⟩
def BankT.zero : BankT := ⟨[], false, 0, 0, 0, 0⟩
def BankT.d (T : BankT) (k : Nat) : Med := T.l.getD k Med.zero
def BankT.up (T : BankT) (k : Nat) (m : Med) : BankT := { T with l := T.l.set k m }
/-- a row of sectors that is one -/
def IsSecs (n : Nat) (l : List (List Int)) : Prop := l.length = n ∧ ∀ s ∈ l, s.length = 64 ∧ ∀ x ∈ s, IsByte x
structure Med.Ok (m : Med) : Prop where
  flu : IsSecs m.sin.length m.flu
  new : IsSecs m.sin.length m.new
  len : m.sin.length ≤ 4096
  sin : ∀ x ∈ m.sin, 0 ≤ x
  fail : 0 ≤ m.fail ∧ m.fail < 9223372036854775808
def BankT.Ok (T : BankT) : Prop := T.l.length ≤ 32 ∧ ∀ m ∈ T.l, m.Ok

/-- where a bank's blocks lie: 0 the bank, 1 its list, then four for each disk: the disk, flushed, newest, since; x, J: what capacity and what cells lie behind a row -/
structure Lay where
  A : Nat → Nat
  c : Nat
  row : List Value
  x : Nat → Nat := fun _ => 0
  J : Nat → List Value := fun _ => []
def Lay.ptr (Y : Lay) (i : Nat) : Value := .pointer (some ⟨Y.A i, 0, none⟩)
def Lay.sl (Y : Lay) (i n : Nat) : Value := .slice (some ⟨Y.A i, 0, none⟩) n (n + Y.x i)
def Lay.list (Y : Lay) (n : Nat) : Value := if n = 0 then .slice none 0 0 else .slice (some ⟨Y.A 1, 0, none⟩) n Y.c
def secs (l : List (List Int)) : List Value := u8s l.flatten
def bankVals (Y : Lay) (T : BankT) : List Value := [Y.list T.l.length, .bool T.down, .int .i64 T.clock, .int .i64 T.writes, .int .i64 T.armed, .int .u64 T.mask]
def medVals (Y : Lay) (k : Nat) (m : Med) : List Value := [Y.sl (3 + 4 * k) m.sin.length, Y.sl (4 + 4 * k) m.sin.length, Y.sl (5 + 4 * k) m.sin.length, .bool m.dead, .int .i64 m.fail]
/-- the blocks' contents -/
structure BankD (w : World) (Y : Lay) (T : BankT) : Prop where
  bank : w.heap[Y.A 0]? = some (.cells (bankVals Y T).toArray 77 (0, 0))
  row : T.l.length ≠ 0 → w.heap[Y.A 1]? = some (.cells Y.row.toArray 78 (0, 0)) ∧ Y.row.length = Y.c ∧ T.l.length ≤ Y.c ∧ Y.c ≤ maxLen ∧ ∀ k, k < T.l.length → Y.row[k]? = some (Y.ptr (2 + 4 * k))
  med : ∀ k, k < T.l.length → w.heap[Y.A (2 + 4 * k)]? = some (.cells (medVals Y k (T.d k)).toArray 84 (0, 0))
  flu : ∀ k, k < T.l.length → w.heap[Y.A (3 + 4 * k)]? = some (.cells (secs (T.d k).flu ++ Y.J (3 + 4 * k)).toArray 43 (0, 0))
  new : ∀ k, k < T.l.length → w.heap[Y.A (4 + 4 * k)]? = some (.cells (secs (T.d k).new ++ Y.J (4 + 4 * k)).toArray 43 (0, 0))
  sin : ∀ k, k < T.l.length → w.heap[Y.A (5 + 4 * k)]? = some (.cells (ints (T.d k).sin ++ Y.J (5 + 4 * k)).toArray 3 (0, 0))
  inj : ∀ i j, i < 2 + 4 * T.l.length → j < 2 + 4 * T.l.length → (T.l.length = 0 → i ≠ 1 ∧ j ≠ 1) → Y.A i = Y.A j → i = j
theorem BankT.d_up {T : BankT} {k : Nat} (m : Med) (h : k < T.l.length) (j : Nat) : (T.up k m).d j = if j = k then m else T.d j := by
  unfold BankT.d BankT.up
  simp only [List.getD_eq_getElem?_getD, List.getElem?_set]
  by_cases e : k = j
  · subst e; simp [h]
  · simp [e, Ne.symm e]
theorem BankT.up_len (T : BankT) (k : Nat) (m : Med) : (T.up k m).l.length = T.l.length := by simp [BankT.up]
theorem BankT.up_d (T : BankT) (k : Nat) (h : k < T.l.length) : T.up k (T.d k) = T := by
  unfold BankT.up BankT.d
  rw [List.getD_eq_getElem?_getD, List.getElem?_eq_getElem h]; simp
theorem BankT.up_up (T : BankT) (k : Nat) (m m' : Med) : (T.up k m).up k m' = T.up k m' := by simp [BankT.up]
theorem BankT.Ok.d {T : BankT} (h : T.Ok) {k : Nat} (hk : k < T.l.length) : (T.d k).Ok := by
  unfold BankT.d
  rw [List.getD_eq_getElem?_getD, List.getElem?_eq_getElem hk]
  exact h.2 _ (List.getElem_mem hk)
theorem BankT.Ok.up {T : BankT} (h : T.Ok) (k : Nat) {m : Med} (hm : m.Ok) : (T.up k m).Ok := by
  refine ⟨by rw [BankT.up_len]; exact h.1, fun x hx => ?_⟩
  rcases List.mem_or_eq_of_mem_set hx with h' | h'
  · exact h.2 _ h'
  · rw [h']; exact hm
/-- block b is one of the bank's -/
def Lay.In (Y : Lay) (n b : Nat) : Prop := ∃ i, i < 2 + 4 * n ∧ (n = 0 → i ≠ 1) ∧ b = Y.A i
theorem Lay.in0 (Y : Lay) (n : Nat) : Y.In n (Y.A 0) := ⟨0, by omega, fun _ => by decide, rfl⟩
theorem Lay.in1 (Y : Lay) {n : Nat} (h : n ≠ 0) : Y.In n (Y.A 1) := ⟨1, by omega, fun e => absurd e h, rfl⟩
theorem Lay.in_ (Y : Lay) {n k : Nat} (h : k < n) (r : Nat) (h2 : 2 ≤ r) (h5 : r ≤ 5) : Y.In n (Y.A (r + 4 * k)) := ⟨r + 4 * k, by omega, fun e => by omega, rfl⟩
section
variable {w w' : World} {Y : Lay} {T : BankT}
theorem BankD.ne (h : BankD w Y T) {i j : Nat} (hi : i < 2 + 4 * T.l.length) (hj : j < 2 + 4 * T.l.length) (h0 : T.l.length ≠ 0) (hn : i ≠ j) : Y.A i ≠ Y.A j := fun e => hn (h.inj i j hi hj (fun e => absurd e h0) e)
theorem BankD.same (h : BankD w Y T) (hb : ∀ b, Y.In T.l.length b → w'.heap[b]? = w.heap[b]?) : BankD w' Y T where
  bank := (hb _ (Y.in0 _)).trans h.bank
  row h0 := ⟨(hb _ (Y.in1 h0)).trans (h.row h0).1, (h.row h0).2⟩
  med k hk := (hb _ (Y.in_ hk 2 (by decide) (by decide))).trans (h.med k hk)
  flu k hk := (hb _ (Y.in_ hk 3 (by decide) (by decide))).trans (h.flu k hk)
  new k hk := (hb _ (Y.in_ hk 4 (by decide) (by decide))).trans (h.new k hk)
  sin k hk := (hb _ (Y.in_ hk 5 (by decide) (by decide))).trans (h.sin k hk)
  inj := h.inj
theorem BankD.lt (h : BankD w Y T) {b : Nat} (hb : Y.In T.l.length b) : b < w.heap.size := by
  obtain ⟨i, hi, h0, rfl⟩ := hb
  have key : ∀ {o : Obj} {b : Nat}, w.heap[b]? = some o → b < w.heap.size := fun h => (Array.getElem?_eq_some_iff.1 h).1
  rcases i with _ | _ | i
  · exact key h.bank
  · exact key (h.row (fun e => h0 e rfl)).1
  · have hk : i / 4 < T.l.length := by omega
    have : i % 4 = 0 ∨ i % 4 = 1 ∨ i % 4 = 2 ∨ i % 4 = 3 := by omega
    rcases this with e | e | e | e
    · have := key (h.med _ hk); rwa [show 2 + 4 * (i / 4) = i + 1 + 1 by omega] at this
    · have := key (h.flu _ hk); rwa [show 3 + 4 * (i / 4) = i + 1 + 1 by omega] at this
    · have := key (h.new _ hk); rwa [show 4 + 4 * (i / 4) = i + 1 + 1 by omega] at this
    · have := key (h.sin _ hk); rwa [show 5 + 4 * (i / 4) = i + 1 + 1 by omega] at this
theorem BankD.kept (h : BankD w Y T) (hk : Kept w w') : BankD w' Y T := h.same fun b hb => hk.block_eq (h.lt hb)
/-- the bank's own cells are set -/
theorem BankD.put_bank (h : BankD w Y T) {T' : BankT} (hl : T'.l = T.l) (hb : w'.heap[Y.A 0]? = some (.cells (bankVals Y T').toArray 77 (0, 0))) (ho : ∀ b, b ≠ Y.A 0 → w'.heap[b]? = w.heap[b]?) : BankD w' Y T' := by
  have hd : ∀ k, T'.d k = T.d k := fun k => by simp [BankT.d, hl]
  have hne : ∀ i, 0 < i → i < 2 + 4 * T.l.length → (T.l.length = 0 → i ≠ 1) → Y.A i ≠ Y.A 0 := fun i h0 h1 h2 e => by
    have := h.inj i 0 h1 (by omega) (fun e => ⟨h2 e, by decide⟩) e
    omega
  refine ⟨hb, fun h0 => ?_, fun k hk => ?_, fun k hk => ?_, fun k hk => ?_, fun k hk => ?_, ?_⟩
  · rw [hl] at h0 ⊢
    exact ⟨(ho _ (hne 1 (by omega) (by omega) (fun e => absurd e h0))).trans (h.row h0).1, (h.row h0).2⟩
  · rw [hl] at hk; rw [hd, ho _ (hne _ (by omega) (by omega) (fun e => by omega))]; exact h.med k hk
  · rw [hl] at hk; rw [hd, ho _ (hne _ (by omega) (by omega) (fun e => by omega))]; exact h.flu k hk
  · rw [hl] at hk; rw [hd, ho _ (hne _ (by omega) (by omega) (fun e => by omega))]; exact h.new k hk
  · rw [hl] at hk; rw [hd, ho _ (hne _ (by omega) (by omega) (fun e => by omega))]; exact h.sin k hk
  · rw [hl]; exact h.inj
/-- one of a disk's blocks is set: j is its number -/
theorem BankD.put_med (h : BankD w Y T) {k : Nat} (hk : k < T.l.length) (m : Med) {j : Nat} (hj : 2 ≤ j) (hj5 : j ≤ 5) (ho : ∀ b, b ≠ Y.A (j + 4 * k) → w'.heap[b]? = w.heap[b]?)
    (h2 : w'.heap[Y.A (2 + 4 * k)]? = some (.cells (medVals Y k m).toArray 84 (0, 0)))
    (h3 : w'.heap[Y.A (3 + 4 * k)]? = some (.cells (secs m.flu ++ Y.J (3 + 4 * k)).toArray 43 (0, 0)))
    (h4 : w'.heap[Y.A (4 + 4 * k)]? = some (.cells (secs m.new ++ Y.J (4 + 4 * k)).toArray 43 (0, 0)))
    (h5 : w'.heap[Y.A (5 + 4 * k)]? = some (.cells (ints m.sin ++ Y.J (5 + 4 * k)).toArray 3 (0, 0))) : BankD w' Y (T.up k m) := by
  have hn0 : T.l.length ≠ 0 := by omega
  have hne : ∀ i, i ≠ j + 4 * k → i < 2 + 4 * T.l.length → Y.A i ≠ Y.A (j + 4 * k) := fun i h0 h1 => h.ne h1 (by omega) hn0 h0
  have hbv : bankVals Y (T.up k m) = bankVals Y T := by simp [bankVals, BankT.up_len]; simp [BankT.up]
  refine ⟨?_, fun h0 => ?_, fun i hi => ?_, fun i hi => ?_, fun i hi => ?_, fun i hi => ?_, ?_⟩
  · rw [hbv, ho _ (hne 0 (by omega) (by omega))]; exact h.bank
  · rw [BankT.up_len] at h0 ⊢; exact ⟨(ho _ (hne 1 (by omega) (by omega))).trans (h.row h0).1, (h.row h0).2⟩
  · rw [BankT.up_len] at hi; rw [BankT.d_up m hk]
    by_cases e : i = k
    · subst e; simpa using h2
    · rw [if_neg e, ho _ (hne _ (by omega) (by omega))]; exact h.med i hi
  · rw [BankT.up_len] at hi; rw [BankT.d_up m hk]
    by_cases e : i = k
    · subst e; simpa using h3
    · rw [if_neg e, ho _ (hne _ (by omega) (by omega))]; exact h.flu i hi
  · rw [BankT.up_len] at hi; rw [BankT.d_up m hk]
    by_cases e : i = k
    · subst e; simpa using h4
    · rw [if_neg e, ho _ (hne _ (by omega) (by omega))]; exact h.new i hi
  · rw [BankT.up_len] at hi; rw [BankT.d_up m hk]
    by_cases e : i = k
    · subst e; simpa using h5
    · rw [if_neg e, ho _ (hne _ (by omega) (by omega))]; exact h.sin i hi
  · rw [BankT.up_len]; exact h.inj
end
end Go.Proofs.YtglplhmclfekfaaGreat
/- A disk.Bank in plain Lean: what is loose is settled. -/
namespace Go.Proofs.YtglplhmclfekfaaGreat
open Go.RowKit
set_option linter.unusedVariables false
set_option linter.unusedSimpArgs false

/-- a sector's newest content becomes the flushed one, or is lost -/
def Med.settle (m : Med) (i : Nat) (keep : Bool) : Med :=
  if keep then { m with flu := m.flu.set i (m.new.getD i []), sin := m.sin.set i 0 } else { m with new := m.new.set i (m.flu.getD i []), sin := m.sin.set i 0 }
/-- all that are loose among the first j -/
def Med.settleTo (keep : Bool) (m : Med) : Nat → Med
  | 0 => m
  | j + 1 => if 0 < m.sin.getD j 0 then (m.settleTo keep j).settle j keep else m.settleTo keep j

theorem IsSecs.set {n : Nat} {l : List (List Int)} (h : IsSecs n l) (i : Nat) {s : List Int} (hs : s.length = 64 ∧ ∀ x ∈ s, IsByte x) : IsSecs n (l.set i s) := by
  refine ⟨by rw [List.length_set]; exact h.1, fun x hx => ?_⟩
  rcases List.mem_or_eq_of_mem_set hx with h' | h'
  · exact h.2 _ h'
  · rw [h']; exact hs
theorem IsSecs.at {n : Nat} {l : List (List Int)} (h : IsSecs n l) {i : Nat} (hi : i < n) : (l.getD i []).length = 64 ∧ ∀ x ∈ l.getD i [], IsByte x := by
  have hl : i < l.length := by rw [h.1]; exact hi
  rw [List.getD_eq_getElem?_getD, List.getElem?_eq_getElem hl]
  exact h.2 _ (List.getElem_mem hl)
theorem Med.settle_sin (m : Med) (i : Nat) (keep : Bool) : (m.settle i keep).sin = m.sin.set i 0 := by unfold Med.settle; split <;> rfl
theorem Med.settle_dead (m : Med) (i : Nat) (keep : Bool) : (m.settle i keep).dead = m.dead := by unfold Med.settle; split <;> rfl
theorem Med.settle_fail (m : Med) (i : Nat) (keep : Bool) : (m.settle i keep).fail = m.fail := by unfold Med.settle; split <;> rfl
theorem Med.Ok.settle {m : Med} (h : m.Ok) {i : Nat} (hi : i < m.sin.length) (keep : Bool) : (m.settle i keep).Ok := by
  have hs : ∀ x ∈ m.sin.set i 0, 0 ≤ x := fun x hx => by
    rcases List.mem_or_eq_of_mem_set hx with h' | h'
    · exact h.sin _ h'
    · rw [h']; exact Int.le_refl _
  unfold Med.settle
  split
  · exact ⟨by simpa using h.flu.set i (h.new.at hi), by simpa using h.new, by simpa using h.len, hs, h.fail⟩
  · exact ⟨by simpa using h.flu, by simpa using h.new.set i (h.flu.at hi), by simpa using h.len, hs, h.fail⟩
theorem Med.settleTo_len (keep : Bool) (m : Med) (j : Nat) : (m.settleTo keep j).sin.length = m.sin.length := by
  induction j with
  | zero => rfl
  | succ j ih => unfold Med.settleTo; split <;> simp [Med.settle_sin, ih]
theorem Med.settleTo_dead (keep : Bool) (m : Med) (j : Nat) : (m.settleTo keep j).dead = m.dead := by
  induction j with
  | zero => rfl
  | succ j ih => unfold Med.settleTo; split <;> simp [Med.settle_dead, ih]
theorem Med.settleTo_fail (keep : Bool) (m : Med) (j : Nat) : (m.settleTo keep j).fail = m.fail := by
  induction j with
  | zero => rfl
  | succ j ih => unfold Med.settleTo; split <;> simp [Med.settle_fail, ih]
theorem Med.Ok.settleTo {m : Med} (h : m.Ok) (keep : Bool) : ∀ {j : Nat}, j ≤ m.sin.length → (m.settleTo keep j).Ok
  | 0, _ => h
  | j + 1, hj => by
    unfold Med.settleTo
    split
    · exact (h.settleTo keep (by omega)).settle (by rw [Med.settleTo_len]; omega) keep
    · exact h.settleTo keep (by omega)
/-- what settling does at each place -/
theorem Med.settle_at {m : Med} (h : m.Ok) {i : Nat} (hi : i < m.sin.length) (keep : Bool) (a : Nat) :
    (m.settle i keep).flu.getD a [] = (if a = i ∧ keep = true then m.new.getD a [] else m.flu.getD a []) ∧
    (m.settle i keep).new.getD a [] = (if a = i ∧ keep = false then m.flu.getD a [] else m.new.getD a []) ∧
    (m.settle i keep).sin.getD a 0 = (if a = i then 0 else m.sin.getD a 0) := by
  have h1 : i < m.flu.length := by rw [h.flu.1]; exact hi
  have h2 : i < m.new.length := by rw [h.new.1]; exact hi
  unfold Med.settle
  by_cases e : a = i
  · subst e
    cases keep <;> simp [List.getD_eq_getElem?_getD, List.getElem?_set, hi, h1, h2]
  · cases keep <;> simp [List.getD_eq_getElem?_getD, List.getElem?_set, e, Ne.symm e]
theorem Med.settleTo_at {m : Med} (h : m.Ok) (keep : Bool) (a : Nat) : ∀ {j : Nat}, j ≤ m.sin.length →
    (m.settleTo keep j).flu.getD a [] = (if a < j ∧ 0 < m.sin.getD a 0 ∧ keep = true then m.new.getD a [] else m.flu.getD a []) ∧
    (m.settleTo keep j).new.getD a [] = (if a < j ∧ 0 < m.sin.getD a 0 ∧ keep = false then m.flu.getD a [] else m.new.getD a []) ∧
    (m.settleTo keep j).sin.getD a 0 = (if a < j ∧ 0 < m.sin.getD a 0 then 0 else m.sin.getD a 0)
  | 0, _ => by simp [Med.settleTo]
  | j + 1, hj => by
    obtain ⟨i1, i2, i3⟩ := Med.settleTo_at h keep a (j := j) (by omega)
    by_cases hp : 0 < m.sin.getD j 0
    · have e : m.settleTo keep (j + 1) = (m.settleTo keep j).settle j keep := by rw [Med.settleTo, if_pos hp]
      obtain ⟨s1, s2, s3⟩ := Med.settle_at (h.settleTo keep (j := j) (by omega)) (i := j) (by rw [Med.settleTo_len]; omega) keep a
      rw [e, s1, s2, s3, i1, i2, i3]
      by_cases ea : a = j
      · subst ea
        have : ¬ a < a := by omega
        have h1 : a < a + 1 := by omega
        simp only [this, false_and, if_false, h1, true_and, hp]

      · have : a < j + 1 ↔ a < j := by omega
        simp only [ea, false_and, if_false, this]
        exact ⟨trivial, trivial, trivial⟩
    · have e : m.settleTo keep (j + 1) = m.settleTo keep j := by rw [Med.settleTo, if_neg hp]
      rw [e, i1, i2, i3]
      by_cases ea : a = j
      · subst ea
        simp only [hp, false_and, and_false, if_false]
        exact ⟨trivial, trivial, trivial⟩
      · have : a < j + 1 ↔ a < j := by omega
        simp only [this]
        exact ⟨trivial, trivial, trivial⟩

/-- the bit that says whether number i is kept -/
def bitOf (mask : Int) (i : Nat) : Bool := mask.toNat.testBit (i % 64)
/-- the places in L are settled in order, as the mask says -/
def BankT.settleL (mask : Int) : List (Nat × Nat) → Nat → BankT → BankT
  | [], _, T => T
  | (k, a) :: L, i, T => BankT.settleL mask L (i + 1) (T.up k ((T.d k).settle a (bitOf mask i)))
/-- a place that is one -/
def BankT.Has (T : BankT) (p : Nat × Nat) : Prop := p.1 < T.l.length ∧ p.2 < (T.d p.1).sin.length
theorem BankT.Ok.settle1 {T : BankT} (h : T.Ok) {k a : Nat} (hp : T.Has (k, a)) (b : Bool) : (T.up k ((T.d k).settle a b)).Ok := h.up k ((h.d hp.1).settle hp.2 b)
theorem BankT.has_settle1 {T : BankT} {k a : Nat} (hp : T.Has (k, a)) (b : Bool) (q : Nat × Nat) : (T.up k ((T.d k).settle a b)).Has q ↔ T.Has q := by
  unfold BankT.Has
  rw [BankT.up_len, BankT.d_up _ hp.1]
  by_cases e : q.1 = k
  · rw [if_pos e, Med.settle_sin, List.length_set, e]
  · rw [if_neg e]
theorem BankT.settleL_len (mask : Int) : ∀ (L : List (Nat × Nat)) (i : Nat) (T : BankT), (BankT.settleL mask L i T).l.length = T.l.length
  | [], _, _ => rfl
  | (k, a) :: L, i, T => by rw [BankT.settleL, BankT.settleL_len, BankT.up_len]
theorem BankT.settleL_rest (mask : Int) : ∀ (L : List (Nat × Nat)) (i : Nat) (T : BankT), (BankT.settleL mask L i T).down = T.down ∧ (BankT.settleL mask L i T).clock = T.clock ∧ (BankT.settleL mask L i T).writes = T.writes ∧ (BankT.settleL mask L i T).armed = T.armed ∧ (BankT.settleL mask L i T).mask = T.mask
  | [], _, _ => ⟨rfl, rfl, rfl, rfl, rfl⟩
  | (k, a) :: L, i, T => by rw [BankT.settleL]; exact BankT.settleL_rest mask L (i + 1) _
theorem BankT.Ok.settleL (mask : Int) : ∀ {L : List (Nat × Nat)} {i : Nat} {T : BankT}, T.Ok → (∀ p ∈ L, T.Has p) → (BankT.settleL mask L i T).Ok
  | [], _, _, h, _ => h
  | (k, a) :: L, i, T, h, hp => by
    rw [BankT.settleL]
    exact BankT.Ok.settleL mask (h.settle1 (hp _ (by simp)) _) (fun p hq => (BankT.has_settle1 (hp _ (by simp)) _ p).2 (hp p (by simp [hq])))
theorem BankT.settleL_dead (mask : Int) : ∀ (L : List (Nat × Nat)) (i : Nat) (T : BankT) (c : Nat), (∀ p ∈ L, T.Has p) → ((BankT.settleL mask L i T).d c).dead = (T.d c).dead ∧ ((BankT.settleL mask L i T).d c).fail = (T.d c).fail ∧ ((BankT.settleL mask L i T).d c).sin.length = (T.d c).sin.length
  | [], _, _, _, _ => ⟨rfl, rfl, rfl⟩
  | (k, a) :: L, i, T, c, hp => by
    rw [BankT.settleL]
    have hh := hp (k, a) (by simp)
    obtain ⟨h1, h2, h3⟩ := BankT.settleL_dead mask L (i + 1) _ c (fun p hq => (BankT.has_settle1 hh (bitOf mask i) p).2 (hp p (by simp [hq])))
    rw [h1, h2, h3, BankT.d_up _ hh.1]
    by_cases e : c = k
    · rw [if_pos e, Med.settle_dead, Med.settle_fail, Med.settle_sin, List.length_set, e]; exact ⟨rfl, rfl, rfl⟩
    · rw [if_neg e]; exact ⟨rfl, rfl, rfl⟩
/-- what settling a list does at each place: one that is not in it stays, one that is goes as its bit says -/
theorem BankT.settleL_at (mask : Int) (c a : Nat) : ∀ {L : List (Nat × Nat)} {i : Nat} {T : BankT}, T.Ok → (∀ p ∈ L, T.Has p) → L.Nodup → 
    ((c, a) ∉ L → ((BankT.settleL mask L i T).d c).flu.getD a [] = (T.d c).flu.getD a [] ∧ ((BankT.settleL mask L i T).d c).new.getD a [] = (T.d c).new.getD a [] ∧ ((BankT.settleL mask L i T).d c).sin.getD a 0 = (T.d c).sin.getD a 0) ∧
    (∀ j (hj : j < L.length), L[j] = (c, a) → ((BankT.settleL mask L i T).d c).flu.getD a [] = (if bitOf mask (i + j) then (T.d c).new.getD a [] else (T.d c).flu.getD a []) ∧ ((BankT.settleL mask L i T).d c).new.getD a [] = (if bitOf mask (i + j) then (T.d c).new.getD a [] else (T.d c).flu.getD a []) ∧ ((BankT.settleL mask L i T).d c).sin.getD a 0 = 0)
  | [], _, _, _, _, _ => ⟨fun _ => ⟨rfl, rfl, rfl⟩, fun j hj => absurd hj (by simp)⟩
  | (k, b) :: L, i, T, h, hp, hn => by
    have hh := hp (k, b) (by simp)
    have hn' := List.nodup_cons.1 hn
    have ih := BankT.settleL_at mask c a (L := L) (i := i + 1) (T := T.up k ((T.d k).settle b (bitOf mask i))) (h.settle1 hh _) (fun p hq => (BankT.has_settle1 hh _ p).2 (hp p (by simp [hq]))) hn'.2
    obtain ⟨s1, s2, s3⟩ := Med.settle_at (h.d hh.1) hh.2 (bitOf mask i) a
    rw [BankT.d_up _ hh.1] at ih
    rw [BankT.settleL]
    refine ⟨fun hne => ?_, fun j hj hL => ?_⟩
    · have hne' : ¬ ((c, a) = (k, b)) := fun e => hne (by simp [e])
      obtain ⟨i1, i2, i3⟩ := ih.1 (fun hm => hne (by simp [hm]))
      rw [i1, i2, i3]
      by_cases e : c = k
      · have hab : ¬ a = b := fun e2 => hne' (by rw [e, e2])
        rw [if_pos e, s1, s2, s3]
        simp only [hab, false_and, if_false, e]
        exact ⟨trivial, trivial, trivial⟩
      · rw [if_neg e]; exact ⟨rfl, rfl, rfl⟩
    · rcases j with _ | j
      · have hkb : k = c ∧ b = a := by simpa using hL
        obtain ⟨rfl, rfl⟩ := hkb
        obtain ⟨i1, i2, i3⟩ := ih.1 hn'.1
        rw [i1, i2, i3, if_pos rfl, s1, s2, s3]
        cases bitOf mask i <;> simp
      · have hj' : j < L.length := by simpa using hj
        have hL' : L[j] = (c, a) := by simpa using hL
        obtain ⟨i1, i2, i3⟩ := ih.2 j hj' hL'
        have hne' : ¬ (a = b ∧ c = k) := fun ⟨e1, e2⟩ => hn'.1 (by rw [← e1, ← e2, ← hL']; exact List.getElem_mem hj')
        rw [i1, i2, i3, show i + 1 + j = i + (j + 1) by omega]
        by_cases e : c = k
        · have hab : ¬ a = b := fun e2 => hne' ⟨e2, e⟩
          rw [if_pos e, s1, s2]
          simp only [hab, false_and, if_false, e]
          exact ⟨trivial, trivial, trivial⟩
        · rw [if_neg e]; exact ⟨rfl, rfl, rfl⟩
/-- the places of a disk, of a bank, that are loose -/
def Med.looseTo (k : Nat) (m : Med) : Nat → List (Nat × Nat)
  | 0 => []
  | j + 1 => if 0 < m.sin.getD j 0 then m.looseTo k j ++ [(k, j)] else m.looseTo k j
def BankT.looseTo (T : BankT) : Nat → List (Nat × Nat)
  | 0 => []
  | k + 1 => T.looseTo k ++ (T.d k).looseTo k (T.d k).sin.length
theorem Med.mem_looseTo (k : Nat) (m : Med) (j : Nat) (p : Nat × Nat) : p ∈ m.looseTo k j ↔ p.1 = k ∧ p.2 < j ∧ 0 < m.sin.getD p.2 0 := by
  induction j with
  | zero => simp [Med.looseTo]
  | succ j ih =>
    obtain ⟨x, y⟩ := p
    unfold Med.looseTo
    by_cases h : 0 < m.sin.getD j 0
    · rw [if_pos h, List.mem_append, ih, List.mem_singleton]
      simp only [Prod.mk.injEq]
      constructor
      · rintro (⟨h1, h2, h3⟩ | ⟨rfl, rfl⟩)
        · exact ⟨h1, by omega, h3⟩
        · exact ⟨rfl, by omega, h⟩
      · rintro ⟨h1, h2, h3⟩
        by_cases e : y = j
        · exact .inr ⟨h1, e⟩
        · exact .inl ⟨h1, by omega, h3⟩
    · rw [if_neg h, ih]
      constructor
      · rintro ⟨h1, h2, h3⟩; exact ⟨h1, by omega, h3⟩
      · rintro ⟨h1, h2, h3⟩
        refine ⟨h1, ?_, h3⟩
        by_cases e : y = j
        · subst e; exact absurd h3 h
        · simp only at h2; omega
theorem BankT.mem_looseTo (T : BankT) (n : Nat) (p : Nat × Nat) : p ∈ T.looseTo n ↔ p.1 < n ∧ p.2 < (T.d p.1).sin.length ∧ 0 < (T.d p.1).sin.getD p.2 0 := by
  induction n with
  | zero => simp [BankT.looseTo]
  | succ n ih =>
    unfold BankT.looseTo
    rw [List.mem_append, ih, Med.mem_looseTo]
    constructor
    · rintro (⟨h1, h2, h3⟩ | ⟨h1, h2, h3⟩)
      · exact ⟨by omega, h2, h3⟩
      · rw [h1]; exact ⟨by omega, h2, h3⟩
    · rintro ⟨h1, h2, h3⟩
      by_cases e : p.1 = n
      · rw [e] at h2 h3; exact .inr ⟨e, h2, h3⟩
      · exact .inl ⟨by omega, h2, h3⟩
theorem Med.nodup_looseTo (k : Nat) (m : Med) (j : Nat) : (m.looseTo k j).Nodup := by
  induction j with
  | zero => exact List.nodup_nil
  | succ j ih =>
    unfold Med.looseTo
    split
    · rw [List.nodup_append]
      refine ⟨ih, by simp, fun x hx y hy e => ?_⟩
      subst e
      have h1 := (Med.mem_looseTo k m j x).1 hx
      have h2 : x = (k, j) := by simpa using hy
      rw [h2] at h1; simp only at h1; omega
    · exact ih
theorem BankT.nodup_looseTo (T : BankT) (n : Nat) : (T.looseTo n).Nodup := by
  induction n with
  | zero => exact List.nodup_nil
  | succ n ih =>
    unfold BankT.looseTo
    rw [List.nodup_append]
    refine ⟨ih, Med.nodup_looseTo _ _ _, fun x hx y hy e => ?_⟩
    subst e
    have h1 := (BankT.mem_looseTo T n x).1 hx
    have h2 := (Med.mem_looseTo _ _ _ x).1 hy
    omega
end Go.Proofs.YtglplhmclfekfaaGreat
/- A disk.Bank in plain Lean: what its calls make of it. -/
namespace Go.Proofs.YtglplhmclfekfaaGreat
open Go.RowKit
set_option linter.unusedVariables false
set_option linter.unusedSimpArgs false

def insBy (key : Nat × Nat → Int) (x : Nat × Nat) : List (Nat × Nat) → List (Nat × Nat)
  | [] => [x]
  | y :: l => if key x ≤ key y then x :: y :: l else y :: insBy key x l
def sortBy (key : Nat × Nat → Int) : List (Nat × Nat) → List (Nat × Nat)
  | [] => []
  | x :: l => insBy key x (sortBy key l)
theorem insBy_perm (key : Nat × Nat → Int) (x : Nat × Nat) : ∀ l, (insBy key x l).Perm (x :: l)
  | [] => List.Perm.refl _
  | y :: l => by
    unfold insBy
    split
    · exact List.Perm.refl _
    · exact ((insBy_perm key x l).cons y).trans (List.Perm.swap x y l)
theorem sortBy_perm (key : Nat × Nat → Int) : ∀ l, (sortBy key l).Perm l
  | [] => List.Perm.refl _
  | x :: l => (insBy_perm key x _).trans ((sortBy_perm key l).cons x)
theorem insBy_sorted (key : Nat × Nat → Int) (x : Nat × Nat) : ∀ l, l.Pairwise (fun a b => key a ≤ key b) → (insBy key x l).Pairwise (fun a b => key a ≤ key b)
  | [], _ => by simp [insBy]
  | y :: l, h => by
    have h' := List.pairwise_cons.1 h
    unfold insBy
    split
    · rename_i hxy
      refine List.pairwise_cons.2 ⟨fun a ha => ?_, h⟩
      rcases List.mem_cons.1 ha with e | e
      · rw [e]; exact hxy
      · exact Int.le_trans hxy (h'.1 a e)
    · rename_i hxy
      refine List.pairwise_cons.2 ⟨fun a ha => ?_, insBy_sorted key x l h'.2⟩
      rcases List.mem_cons.1 ((insBy_perm key x l).mem_iff.1 ha) with e | e
      · rw [e]; omega
      · exact h'.1 a e
theorem sortBy_sorted (key : Nat × Nat → Int) : ∀ l, (sortBy key l).Pairwise (fun a b => key a ≤ key b)
  | [] => List.Pairwise.nil
  | x :: l => insBy_sorted key x _ (sortBy_sorted key l)
theorem sorted_unique (key : Nat × Nat → Int) : ∀ (l l' : List (Nat × Nat)), l.Perm l' → l.Pairwise (fun a b => key a ≤ key b) → l'.Pairwise (fun a b => key a ≤ key b) → (∀ x ∈ l, ∀ y ∈ l, key x = key y → x = y) → l = l'
  | [], l', h, _, _, _ => (List.nil_perm.1 h).symm
  | x :: l, [], h, _, _, _ => absurd h.length_eq (by simp)
  | x :: l, y :: l', h, h1, h2, hk => by
    have h1' := List.pairwise_cons.1 h1
    have h2' := List.pairwise_cons.1 h2
    have hy : y ∈ x :: l := h.mem_iff.2 (by simp)
    have hx : x ∈ y :: l' := h.mem_iff.1 (by simp)
    have hxy : key x ≤ key y := by
      rcases List.mem_cons.1 hy with e | e
      · rw [e]; exact Int.le_refl _
      · exact h1'.1 y e
    have hyx : key y ≤ key x := by
      rcases List.mem_cons.1 hx with e | e
      · rw [e]; exact Int.le_refl _
      · exact h2'.1 x e
    have e : x = y := hk x (by simp) y hy (by omega)
    subst e
    rw [sorted_unique key l l' (List.Perm.cons_inv h) h1'.2 h2'.2 (fun a ha b hb => hk a (by simp [ha]) b (by simp [hb]))]

def BankT.since (T : BankT) (p : Nat × Nat) : Int := (T.d p.1).sin.getD p.2 0
def BankT.order (T : BankT) : List (Nat × Nat) := sortBy T.since (T.looseTo T.l.length)
def BankT.crash (T : BankT) (mask : Int) : BankT := if T.down then T else { BankT.settleL mask T.order 0 T with down := true, armed := 0 }
def BankT.flush (T : BankT) (k : Nat) : BankT := T.up k ((T.d k).settleTo true (T.d k).sin.length)
def Med.kill (m : Med) : Med := { m with dead := true }
def BankT.fell (T : BankT) (k : Nat) : BankT := T.up k ((T.d k).kill.settleTo false (T.d k).sin.length)
def Med.less (m : Med) : Med := { m with fail := m.fail - 1 }
/-- a write is counted for disk k -/
def BankT.tick1 (T : BankT) (k : Nat) : BankT :=
  if 0 < (T.d k).fail then (if (T.d k).fail = 1 then (T.up k (T.d k).less).fell k else T.up k (T.d k).less) else T
def BankT.tickTo (T : BankT) : Nat → BankT
  | 0 => { T with writes := T.writes + 1 }
  | j + 1 => (T.tickTo j).tick1 j
def BankT.arm1 (T : BankT) : BankT := { T with armed := T.armed - 1 }
/-- a write is counted; false: the bank crashes at it -/
def BankT.tick (T : BankT) : BankT × Bool :=
  if T.down then (T, true)
  else if 0 < (T.tickTo T.l.length).armed then (if (T.tickTo T.l.length).armed = 1 then ((T.tickTo T.l.length).arm1.crash (T.tickTo T.l.length).mask, false) else ((T.tickTo T.l.length).arm1, true))
  else (T.tickTo T.l.length, true)
def BankT.readyE (T : BankT) (disk : Int) : Int :=
  if disk < 0 ∨ (T.l.length : Int) ≤ disk then 8 else if (T.d disk.toNat).dead then 7 else if T.down then 6 else 0
def BankT.inE (T : BankT) (disk at_ : Int) : Int :=
  if T.readyE disk ≠ 0 then T.readyE disk else if at_ < 0 ∨ ((T.d disk.toNat).sin.length : Int) ≤ at_ then 3 else 0
def Med.put (m : Med) (a : Nat) (s : List Int) (x : Int) : Med := { m with new := m.new.set a s, sin := m.sin.set a x }
def BankT.put (T : BankT) (k a : Nat) (s : List Int) : BankT :=
  if (T.d k).sin.getD a 0 = 0 then { T.up k ((T.d k).put a s (T.clock + 1)) with clock := T.clock + 1 } else T.up k ((T.d k).put a s ((T.d k).sin.getD a 0))
def BankT.write (T : BankT) (disk at_ : Int) (s : List Int) : BankT × Int :=
  if T.tick.2 = false then (T.tick.1, 6) else if T.tick.1.inE disk at_ = 0 then (T.tick.1.put disk.toNat at_.toNat s, 0) else (T.tick.1, T.tick.1.inE disk at_)
def BankT.read (T : BankT) (disk at_ : Int) : List Int × Int :=
  if T.inE disk at_ = 0 then ((T.d disk.toNat).new.getD at_.toNat [], 0) else (zeroB, T.inE disk at_)
def BankT.flushC (T : BankT) (disk : Int) : BankT × Int := if T.readyE disk = 0 then (T.flush disk.toNat, 0) else (T, T.readyE disk)
def BankT.failC (T : BankT) (disk : Int) : BankT × Int := if disk < 0 ∨ (T.l.length : Int) ≤ disk then (T, 8) else (T.fell disk.toNat, 0)
def BankT.failAt (T : BankT) (disk n : Int) : BankT := if disk < 0 ∨ (T.l.length : Int) ≤ disk then T else T.up disk.toNat { T.d disk.toNat with fail := max n 0 }
def BankT.arm (T : BankT) (n mask : Int) : BankT := { T with armed := max n 0, mask := mask }
def BankT.start (T : BankT) : BankT := { T with down := false }
def BankT.looseN (T : BankT) : Nat := (T.looseTo T.l.length).length
def BankT.add (T : BankT) (n : Nat) : BankT := { T with l := T.l ++ [Med.fresh n] }

/-- what always holds -/
structure BankT.Inv (T : BankT) : Prop where
  ok : T.Ok
  clk : 0 ≤ T.clock
  wr : 0 ≤ T.writes
  ar : 0 ≤ T.armed ∧ T.armed < 9223372036854775808
  msk : 0 ≤ T.mask ∧ T.mask < 18446744073709551616
  top : ∀ p, T.since p ≤ T.clock
  uniq : ∀ p q, 0 < T.since p → T.since p = T.since q → p = q
theorem BankT.mem_order (T : BankT) (p : Nat × Nat) : p ∈ T.order ↔ T.Has p ∧ 0 < T.since p := by
  unfold BankT.order
  rw [(sortBy_perm _ _).mem_iff, BankT.mem_looseTo]
  exact ⟨fun ⟨h1, h2, h3⟩ => ⟨⟨h1, h2⟩, h3⟩, fun ⟨⟨h1, h2⟩, h3⟩ => ⟨h1, h2, h3⟩⟩
theorem BankT.nodup_order (T : BankT) : T.order.Nodup := (sortBy_perm _ _).nodup_iff.2 (T.nodup_looseTo _)
theorem BankT.order_eq {T : BankT} (h : T.Inv) {l : List (Nat × Nat)} (hp : l.Perm (T.looseTo T.l.length)) (hs : l.Pairwise (fun a b => T.since a ≤ T.since b)) : l = T.order :=
  sorted_unique T.since l T.order (hp.trans (sortBy_perm _ _).symm) hs (sortBy_sorted _ _) fun x hx y hy e => h.uniq x y (((T.mem_looseTo _ x).1 (hp.mem_iff.1 hx)).2.2) e
/-- the numbers of loose places only become nought -/
structure BankT.Calmer (T T' : BankT) : Prop where
  len : T'.l.length = T.l.length
  lens : ∀ k, (T'.d k).sin.length = (T.d k).sin.length
  sin : ∀ p, T'.since p = T.since p ∨ T'.since p = 0
  clk : T'.clock = T.clock
theorem BankT.Calmer.refl (T : BankT) : T.Calmer T := ⟨rfl, fun _ => rfl, fun _ => .inl rfl, rfl⟩
theorem BankT.Calmer.trans {T T' T'' : BankT} (h : T.Calmer T') (k : T'.Calmer T'') : T.Calmer T'' :=
  ⟨k.len.trans h.len, fun i => (k.lens i).trans (h.lens i), fun p => by rcases k.sin p with e | e; · rw [e]; exact h.sin p
                                                                        · exact .inr e, k.clk.trans h.clk⟩
theorem BankT.Calmer.inv {T T' : BankT} (h : T.Calmer T') (i : T.Inv) (ok : T'.Ok) (wr : 0 ≤ T'.writes) (ar : 0 ≤ T'.armed ∧ T'.armed < 9223372036854775808) (mk : 0 ≤ T'.mask ∧ T'.mask < 18446744073709551616) : T'.Inv := by
  refine ⟨ok, by rw [h.clk]; exact i.clk, wr, ar, mk, fun p => ?_, fun p q hp hq => ?_⟩
  · rw [h.clk]
    rcases h.sin p with e | e
    · rw [e]; exact i.top p
    · rw [e]; exact i.clk
  · rcases h.sin p with e | e <;> rcases h.sin q with e' | e'
    · rw [e] at hp hq; rw [e'] at hq; exact i.uniq p q hp hq
    · rw [hq, e'] at hp; omega
    · omega
    · omega
theorem BankT.Calmer.up {T : BankT} {k : Nat} (hk : k < T.l.length) {m : Med} (hl : m.sin.length = (T.d k).sin.length) (hs : ∀ a, m.sin.getD a 0 = (T.d k).sin.getD a 0 ∨ m.sin.getD a 0 = 0) : T.Calmer (T.up k m) := by
  refine ⟨T.up_len k m, fun j => ?_, fun p => ?_, rfl⟩
  · rw [BankT.d_up m hk]; split
    · rename_i e; rw [e, hl]
    · rfl
  · unfold BankT.since
    rw [BankT.d_up m hk]; split
    · rename_i e; rw [e]; exact hs p.2
    · exact .inl rfl
theorem Med.settleTo_sin {m : Med} (h : m.Ok) (keep : Bool) {j : Nat} (hj : j ≤ m.sin.length) (a : Nat) : (m.settleTo keep j).sin.getD a 0 = m.sin.getD a 0 ∨ (m.settleTo keep j).sin.getD a 0 = 0 := by
  rw [(Med.settleTo_at h keep a hj).2.2]
  split
  · exact .inr rfl
  · exact .inl rfl
theorem Med.Ok.kill {m : Med} (h : m.Ok) : m.kill.Ok := ⟨h.flu, h.new, h.len, h.sin, h.fail⟩
theorem Med.Ok.less {m : Med} (h : m.Ok) (h0 : 0 < m.fail) : m.less.Ok := ⟨h.flu, h.new, h.len, h.sin, by have := h.fail; simp only [Med.less]; omega⟩
theorem BankT.flush_calmer {T : BankT} (h : T.Ok) {k : Nat} (hk : k < T.l.length) : T.Calmer (T.flush k) :=
  BankT.Calmer.up hk (by rw [Med.settleTo_len]) (Med.settleTo_sin (h.d hk) true (Nat.le_refl _))
theorem BankT.flush_ok {T : BankT} (h : T.Ok) {k : Nat} (hk : k < T.l.length) : (T.flush k).Ok := h.up k ((h.d hk).settleTo true (Nat.le_refl _))
theorem BankT.fell_calmer {T : BankT} (h : T.Ok) {k : Nat} (hk : k < T.l.length) : T.Calmer (T.fell k) :=
  BankT.Calmer.up hk (by rw [Med.settleTo_len]; rfl) (Med.settleTo_sin (h.d hk).kill false (Nat.le_refl _))
theorem BankT.fell_ok {T : BankT} (h : T.Ok) {k : Nat} (hk : k < T.l.length) : (T.fell k).Ok := h.up k ((h.d hk).kill.settleTo false (Nat.le_refl _))
theorem BankT.tick1_calmer {T : BankT} (h : T.Ok) {k : Nat} (hk : k < T.l.length) : T.Calmer (T.tick1 k) ∧ (T.tick1 k).Ok ∧ (T.tick1 k).writes = T.writes ∧ (T.tick1 k).armed = T.armed ∧ (T.tick1 k).mask = T.mask ∧ (T.tick1 k).down = T.down := by
  unfold BankT.tick1
  split
  · rename_i h0
    have c1 : T.Calmer (T.up k (T.d k).less) := BankT.Calmer.up hk rfl (fun _ => .inl rfl)
    have o1 : (T.up k (T.d k).less).Ok := h.up k ((h.d hk).less h0)
    split
    · exact ⟨c1.trans (BankT.fell_calmer o1 (by rw [BankT.up_len]; exact hk)), BankT.fell_ok o1 (by rw [BankT.up_len]; exact hk), rfl, rfl, rfl, rfl⟩
    · exact ⟨c1, o1, rfl, rfl, rfl, rfl⟩
  · exact ⟨BankT.Calmer.refl T, h, rfl, rfl, rfl, rfl⟩
theorem BankT.tickTo_calmer {T : BankT} (h : T.Ok) : ∀ {j : Nat}, j ≤ T.l.length → T.Calmer (T.tickTo j) ∧ (T.tickTo j).Ok ∧ (T.tickTo j).writes = T.writes + 1 ∧ (T.tickTo j).armed = T.armed ∧ (T.tickTo j).mask = T.mask ∧ (T.tickTo j).down = T.down
  | 0, _ => ⟨⟨rfl, fun _ => rfl, fun _ => .inl rfl, rfl⟩, h, rfl, rfl, rfl, rfl⟩
  | j + 1, hj => by
    obtain ⟨c, o, w, a, m, d⟩ := BankT.tickTo_calmer h (j := j) (by omega)
    obtain ⟨c', o', w', a', m', d'⟩ := BankT.tick1_calmer o (k := j) (by rw [c.len]; omega)
    exact ⟨c.trans c', o', w'.trans w, a'.trans a, m'.trans m, d'.trans d⟩
theorem BankT.settleL_calmer (mask : Int) : ∀ (L : List (Nat × Nat)) (i : Nat) {T : BankT}, T.Ok → (∀ p ∈ L, T.Has p) → T.Calmer (BankT.settleL mask L i T) ∧ (BankT.settleL mask L i T).writes = T.writes ∧ (BankT.settleL mask L i T).armed = T.armed ∧ (BankT.settleL mask L i T).mask = T.mask ∧ (BankT.settleL mask L i T).down = T.down
  | [], _, T, _, _ => ⟨BankT.Calmer.refl T, rfl, rfl, rfl, rfl⟩
  | (k, a) :: L, i, T, h, hp => by
    have hh := hp (k, a) (by simp)
    obtain ⟨c, w, ar, m, d⟩ := BankT.settleL_calmer mask L (i + 1) (h.settle1 hh (bitOf mask i)) (fun p hq => (BankT.has_settle1 hh (bitOf mask i) p).2 (hp p (by simp [hq])))
    refine ⟨BankT.Calmer.trans (BankT.Calmer.up hh.1 (by rw [Med.settle_sin, List.length_set]) fun b => ?_) c, w, ar, m, d⟩
    rw [(Med.settle_at (h.d hh.1) hh.2 (bitOf mask i) b).2.2]
    split
    · exact .inr rfl
    · exact .inl rfl
theorem BankT.Inv.crash {T : BankT} (h : T.Inv) (mask : Int) : (T.crash mask).Inv := by
  unfold BankT.crash
  split
  · exact h
  · have hp : ∀ p ∈ T.order, T.Has p := fun p hp => ((T.mem_order p).1 hp).1
    obtain ⟨c, w, ar, m, d⟩ := BankT.settleL_calmer mask T.order 0 h.ok hp
    refine BankT.Calmer.inv (T' := { BankT.settleL mask T.order 0 T with down := true, armed := 0 }) ⟨c.len, c.lens, c.sin, c.clk⟩ h (BankT.Ok.settleL mask h.ok hp) ?_ ⟨Int.le_refl _, by show (0 : Int) < 9223372036854775808; decide⟩ ?_
    · show 0 ≤ (BankT.settleL mask T.order 0 T).writes
      rw [w]; exact h.wr
    · show 0 ≤ (BankT.settleL mask T.order 0 T).mask ∧ _
      rw [m]; exact h.msk
theorem BankT.crash_len (T : BankT) (mask : Int) : (T.crash mask).l.length = T.l.length := by
  unfold BankT.crash
  split
  · rfl
  · exact BankT.settleL_len mask T.order 0 T
theorem BankT.Inv.flush {T : BankT} (h : T.Inv) {k : Nat} (hk : k < T.l.length) : (T.flush k).Inv := (BankT.flush_calmer h.ok hk).inv h (BankT.flush_ok h.ok hk) h.wr h.ar h.msk
theorem BankT.Inv.fell {T : BankT} (h : T.Inv) {k : Nat} (hk : k < T.l.length) : (T.fell k).Inv := (BankT.fell_calmer h.ok hk).inv h (BankT.fell_ok h.ok hk) h.wr h.ar h.msk
theorem BankT.Inv.tick {T : BankT} (h : T.Inv) : T.tick.1.Inv := by
  obtain ⟨c, o, w, a, m, d⟩ := BankT.tickTo_calmer h.ok (Nat.le_refl _)
  have hi : (T.tickTo T.l.length).Inv := c.inv h o (by rw [w]; have := h.wr; omega) (by rw [a]; exact h.ar) (by rw [m]; exact h.msk)
  unfold BankT.tick
  split
  · exact h
  · split
    · rename_i h0
      have h1 : (T.tickTo T.l.length).arm1.Inv := ⟨hi.ok, hi.clk, hi.wr, by have := hi.ar; simp only [BankT.arm1]; omega, hi.msk, hi.top, hi.uniq⟩
      split
      · exact h1.crash _
      · exact h1
    · exact hi
theorem BankT.tick_len {T : BankT} (h : T.Ok) : T.tick.1.l.length = T.l.length := by
  obtain ⟨c, _⟩ := BankT.tickTo_calmer h (Nat.le_refl _)
  unfold BankT.tick
  split
  · rfl
  · split
    · split
      · rw [BankT.crash_len]; exact c.len
      · exact c.len
    · exact c.len
theorem BankT.d_clock (T : BankT) (c : Int) (k : Nat) : ({ T with clock := c } : BankT).d k = T.d k := rfl
/-- the number that a sector that is written has -/
def BankT.stamp (T : BankT) (k a : Nat) : Int := if (T.d k).sin.getD a 0 = 0 then T.clock + 1 else (T.d k).sin.getD a 0
theorem BankT.put_d {T : BankT} {k : Nat} (hk : k < T.l.length) (a : Nat) (s : List Int) (c : Nat) : (T.put k a s).d c = if c = k then (T.d k).put a s (T.stamp k a) else T.d c := by
  unfold BankT.put BankT.stamp
  split
  · rw [BankT.d_clock, BankT.d_up _ hk]
  · rw [BankT.d_up _ hk]
theorem BankT.put_rest (T : BankT) (k a : Nat) (s : List Int) : (T.put k a s).l.length = T.l.length ∧ (T.put k a s).down = T.down ∧ (T.put k a s).writes = T.writes ∧ (T.put k a s).armed = T.armed ∧ (T.put k a s).mask = T.mask := by
  unfold BankT.put
  split <;> exact ⟨BankT.up_len _ _ _, rfl, rfl, rfl, rfl⟩
theorem BankT.put_clock (T : BankT) (k a : Nat) (s : List Int) : (T.put k a s).clock = if (T.d k).sin.getD a 0 = 0 then T.clock + 1 else T.clock := by
  unfold BankT.put
  split <;> rfl
theorem Med.put_at {m : Med} (h : m.Ok) {a : Nat} (ha : a < m.sin.length) (s : List Int) (x : Int) (b : Nat) :
    (m.put a s x).flu.getD b [] = m.flu.getD b [] ∧ (m.put a s x).new.getD b [] = (if b = a then s else m.new.getD b []) ∧ (m.put a s x).sin.getD b 0 = (if b = a then x else m.sin.getD b 0) := by
  have h2 : a < m.new.length := by rw [h.new.1]; exact ha
  unfold Med.put
  by_cases e : b = a
  · subst e
    simp [List.getD_eq_getElem?_getD, List.getElem?_set, ha, h2]
  · simp [List.getD_eq_getElem?_getD, List.getElem?_set, e, Ne.symm e]
theorem Med.Ok.put {m : Med} (h : m.Ok) {a : Nat} (ha : a < m.sin.length) {s : List Int} (hs : s.length = 64 ∧ ∀ x ∈ s, IsByte x) {x : Int} (hx : 0 ≤ x) : (m.put a s x).Ok := by
  refine ⟨by simpa [Med.put] using h.flu, by simpa [Med.put] using h.new.set a hs, by simpa [Med.put] using h.len, fun y hy => ?_, h.fail⟩
  rcases List.mem_or_eq_of_mem_set hy with h' | h'
  · exact h.sin _ h'
  · rw [h']; exact hx
theorem getD_nonneg {l : List Int} (h : ∀ x ∈ l, 0 ≤ x) (a : Nat) : 0 ≤ l.getD a 0 := by
  rw [List.getD_eq_getElem?_getD]
  by_cases ha : a < l.length
  · rw [List.getElem?_eq_getElem ha]; exact h _ (List.getElem_mem ha)
  · rw [List.getElem?_eq_none (by omega)]; exact Int.le_refl _
theorem BankT.Inv.put {T : BankT} (h : T.Inv) {k a : Nat} (hk : k < T.l.length) (ha : a < (T.d k).sin.length) {s : List Int} (hs : s.length = 64 ∧ ∀ x ∈ s, IsByte x) : (T.put k a s).Inv := by
  have h0 : ∀ p : Nat × Nat, 0 ≤ T.since p := fun p => by
    unfold BankT.since
    by_cases e : p.1 < T.l.length
    · exact getD_nonneg (h.ok.d e).sin _
    · have : T.d p.1 = Med.zero := by unfold BankT.d; rw [List.getD_eq_getElem?_getD, List.getElem?_eq_none (by omega)]; rfl
      rw [this]; exact getD_nonneg (by simp [Med.zero]) _
  have hst : 0 ≤ T.stamp k a := by
    unfold BankT.stamp
    split
    · have := h.clk; omega
    · exact h0 (k, a)
  obtain ⟨r1, r2, r3, r4, r5⟩ := T.put_rest k a s
  have hsi : ∀ p, (T.put k a s).since p = if p = (k, a) then T.stamp k a else T.since p := fun p => by
    unfold BankT.since
    rw [BankT.put_d hk]
    by_cases e : p.1 = k
    · rw [if_pos e, (Med.put_at (h.ok.d hk) ha s _ p.2).2.2]
      by_cases e2 : p.2 = a
      · rw [if_pos e2, if_pos (Prod.ext e e2)]
      · rw [if_neg e2, if_neg (fun e3 => e2 (by rw [e3])), e]
    · rw [if_neg e, if_neg (fun e3 => e (by rw [e3]))]
  have okl : (T.put k a s).Ok := by
    unfold BankT.put
    split
    · exact h.ok.up k ((h.ok.d hk).put ha hs (by have := h.clk; omega))
    · exact h.ok.up k ((h.ok.d hk).put ha hs (h0 (k, a)))
  refine ⟨okl, ?_, by rw [r3]; exact h.wr, by rw [r4]; exact h.ar, by rw [r5]; exact h.msk, fun p => ?_, fun p q hp hq => ?_⟩
  · rw [BankT.put_clock]; have := h.clk; split <;> omega
  · rw [BankT.put_clock, hsi]
    have h1 := h.top p
    have h2 := h.top (k, a)
    unfold BankT.stamp
    show _ ≤ _
    change T.since (k, a) ≤ _ at h2
    by_cases e : (T.d k).sin.getD a 0 = 0
    · rw [if_pos e, if_pos e]; split <;> omega
    · rw [if_neg e, if_neg e]
      split
      · exact h2
      · exact h1
  · rw [hsi] at hp hq
    rw [hsi] at hq
    have t1 := h.top p
    have t2 := h.top q
    by_cases e : (T.d k).sin.getD a 0 = 0
    · have es : T.stamp k a = T.clock + 1 := by unfold BankT.stamp; rw [if_pos e]
      rw [es] at hp hq
      split at hq
      · rename_i e1
        split at hq
        · rename_i e2; rw [e1, e2]
        · omega
      · rename_i e1
        rw [if_neg e1] at hp
        split at hq
        · omega
        · exact h.uniq p q hp hq
    · have es : T.stamp k a = T.since (k, a) := by unfold BankT.stamp; rw [if_neg e]; rfl
      rw [es] at hp hq
      have u : ∀ r, (if r = (k, a) then T.since (k, a) else T.since r) = T.since r := fun r => by
        split
        · rename_i e; rw [e]
        · rfl
      rw [u] at hp hq
      rw [u] at hq
      exact h.uniq p q hp hq
end Go.Proofs.YtglplhmclfekfaaGreat
