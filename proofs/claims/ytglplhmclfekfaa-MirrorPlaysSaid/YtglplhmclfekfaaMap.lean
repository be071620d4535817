/- Maps with int keys: what a block that is a map reads as, and the operations on it. -/
import Derived.Test.YtglplhmclfekfaaBase
import Derived.Maps.Own
namespace Go.Proofs.Ytglplhmclfekfaa
open Go.RowKit Go.ChangeMaps Go.MapKept
set_option linter.unusedVariables false
set_option linter.unusedSimpArgs false

def keyIs (n : Int) (e : MapEntry) : Bool := match e.key with | .int .i64 m => n == m | _ => false
/-- the keys are ints, each once -/
structure IntKeys (es : List MapEntry) : Prop where
  int : ∀ e ∈ es, ∃ n, e.key = .int .i64 n
  once : es.Pairwise fun a b => a.key ≠ b.key
def lookE (es : List MapEntry) (n : Int) : Option Value := (es.find? (keyIs n)).map (·.val)
/-- Block b of w is a map with int keys that reads as f, of at most m entries. -/
def IMap (w : World) (b m : Nat) (f : Int → Option Value) : Prop :=
  ∃ es clock, w.heap[b]? = some (.map es clock) ∧ IntKeys es.toList ∧ es.size ≤ m ∧ (∀ n, f n = lookE es.toList n) ∧ MapKept.Stamped es clock

theorem IMap.lt {w : World} {b m : Nat} {f : Int → Option Value} (h : IMap w b m f) : b < w.heap.size := by
  obtain ⟨es, c, hb, _⟩ := h
  exact (Array.getElem?_eq_some_iff.1 hb).1
theorem IMap.same {w w' : World} {b m : Nat} {f : Int → Option Value} (h : IMap w b m f) (hb : w'.heap[b]? = w.heap[b]?) : IMap w' b m f := by
  obtain ⟨es, c, h1, h2⟩ := h
  exact ⟨es, c, hb.trans h1, h2⟩
theorem IMap.kept {w w' : World} {b m : Nat} {f : Int → Option Value} (h : IMap w b m f) (hk : Kept w w') : IMap w' b m f := h.same (hk.block_eq h.lt)
theorem IMap.made (w : World) : IMap (w.alloc (.map #[] 0)) w.heap.size 0 (fun _ => none) :=
  ⟨#[], 0, heap_alloc_new w _, ⟨by simp, by simp⟩, by simp, fun n => by simp [lookE], MapKept.stamped_empty _⟩

theorem keyIs_iff {n : Int} {e : MapEntry} : keyIs n e = true ↔ e.key = .int .i64 n := by
  unfold keyIs
  split
  · rename_i m h; rw [h, beq_iff_eq]; constructor
    · intro e; rw [e]
    · intro e; injection e with _ e; exact e.symm
  · rename_i h
    constructor
    · intro h'; cases h'
    · intro h'; exact absurd h' (h n)
theorem findNow_int (n : Int) : ∀ (es : List MapEntry) (i : Nat), (∀ e ∈ es, ∃ m, e.key = .int .i64 m) →
    Instr.findNow (.int .i64) (.int .i64 n) es i = some ((es.findIdx? (keyIs n)).bind fun j => (es[j]?).map fun e => (i + j, e.val))
  | [], i, _ => rfl
  | e :: es, i, h => by
    obtain ⟨m, hm⟩ := h e (by simp)
    have ih := findNow_int n es (i + 1) (fun x hx => h x (by simp [hx]))
    unfold Instr.findNow
    rw [hm]
    simp only [Instr.sameNow, ↓reduceIte, List.findIdx?_cons, keyIs, hm]
    by_cases hn : (n == m) = true
    · simp [hn]
    · simp only [hn]
      rw [ih]
      cases hf : es.findIdx? (keyIs n) with
      | none => simp
      | some j => simp [Nat.add_comm, Nat.add_left_comm]

section
variable {P : Program} {w : World} {b m : Nat} {f : Int → Option Value} {t k e : TypeId}

theorem run_findKey (hk : P.underlying k = some (.int .i64)) (n : Int) (es : List MapEntry) (hi : IntKeys es) (w : World) :
    (Instr.findKey k (.int .i64 n) es).run P w = .ok ((es.findIdx? (keyIs n)).bind fun j => (es[j]?).map fun e => (j, e.val)) w := by
  have h := findNow_int n es 0 hi.int
  simp only [Nat.zero_add] at h
  simp [Instr.findKey, run_underlying hk, h, Result.andThen]
theorem run_checkKey (hk : P.underlying k = some (.int .i64)) (n : Int) (em : Bool) (w : World) : (Instr.checkKey em 10000 k (.int .i64 n)).run P w = .ok () w := by
  unfold Instr.checkKey
  simp [run_underlying hk, Result.andThen]
theorem find_idx (es : List MapEntry) (n : Int) : ((es.findIdx? (keyIs n)).bind fun j => (es[j]?).map fun e => (j, e.val)) = match es.findIdx? (keyIs n), es.find? (keyIs n) with | some j, some e => some (j, e.val) | _, _ => none := by
  cases hf : es.findIdx? (keyIs n) with
  | none => simp
  | some j =>
    obtain ⟨hj, hp, hb⟩ := List.findIdx?_eq_some_iff_getElem.1 hf
    have : es.find? (keyIs n) = some es[j] := by
      rw [List.find?_eq_some_iff_getElem]
      exact ⟨hp, j, hj, rfl, fun i hi => by simpa using hb i hi⟩
    simp [this, hj]
theorem find_cases (es : List MapEntry) (n : Int) : (es.findIdx? (keyIs n) = none ∧ es.find? (keyIs n) = none ∧ (∀ e ∈ es, keyIs n e = false)) ∨ ∃ j, ∃ hj : j < es.length, es.findIdx? (keyIs n) = some j ∧ es.find? (keyIs n) = some es[j] ∧ keyIs n es[j] = true := by
  cases hf : es.findIdx? (keyIs n) with
  | none =>
    refine .inl ⟨rfl, ?_, ?_⟩
    · rw [List.find?_eq_none]; intro x hx; rw [List.findIdx?_eq_none_iff] at hf; simpa using hf x hx
    · intro e he; rw [List.findIdx?_eq_none_iff] at hf; exact hf e he
  | some j =>
    obtain ⟨hj, hp, hb⟩ := List.findIdx?_eq_some_iff_getElem.1 hf
    refine .inr ⟨j, hj, rfl, ?_, hp⟩
    rw [List.find?_eq_some_iff_getElem]
    exact ⟨hp, j, hj, rfl, fun i hi => by simpa using hb i hi⟩

/-- m[k], m[k] with ok -/
theorem IMap.lookup (h : IMap w b m f) (ht : P.underlying t = some (.map k e)) (hk : P.underlying k = some (.int .i64)) {z : Value} (hz : ∀ w, (zeroValue e).run P w = .ok z w) (n : Int) (ok : Bool) :
    (Instr.lookup t (.map (some b)) (.int .i64 n) ok).run P w = .ok (if ok then .tuple #[(f n).getD z, .bool (f n).isSome] else (f n).getD z) w := by
  obtain ⟨es, c, hb, hi, _, hf, _⟩ := h
  have hfk := run_findKey hk n es.toList hi w
  rw [hf n]
  rcases find_cases es.toList n with ⟨h1, h2, _⟩ | ⟨j, hj, h1, h2, _⟩
  · rw [h1] at hfk
    simp [Instr.lookup, run_underlying ht, MapKept.run_getObj_map hb, run_checkKey hk, hfk, lookE, h2, hz, Result.andThen]
  · rw [h1] at hfk
    rw [Option.bind_some, List.getElem?_eq_getElem hj] at hfk
    simp only [Option.map_some] at hfk
    simp only [Instr.lookup, lookE, h2]
    simp only [Sem.run_bind, run_underlying ht, Result.andThen_ok, MapKept.run_getObj_map hb, run_checkKey hk, hfk, Sem.run_pure, Option.map_some, Option.getD_some, Option.isSome_some]
theorem run_lookup_nil (ht : P.underlying t = some (.map k e)) (hk : P.underlying k = some (.int .i64)) {z : Value} (hz : ∀ w, (zeroValue e).run P w = .ok z w) (n : Int) (ok : Bool) :
    (Instr.lookup t (.map none) (.int .i64 n) ok).run P w = .ok (if ok then .tuple #[z, .bool false] else z) w := by
  have hfk := run_findKey hk n [] ⟨by simp, by simp⟩ w
  simp [Instr.lookup, run_underlying ht, run_checkKey hk, hfk, hz, Result.andThen]

def upd (f : Int → Option Value) (n : Int) (v : Value) : Int → Option Value := fun x => if x = n then some v else f x
def del (f : Int → Option Value) (n : Int) : Int → Option Value := fun x => if x = n then none else f x

theorem IntKeys.push {es : List MapEntry} (h : IntKeys es) (n : Int) (v : Value) (c : Nat) (hn : ∀ e ∈ es, keyIs n e = false) : IntKeys (es ++ [⟨.int .i64 n, v, c⟩]) := by
  refine ⟨fun e he => ?_, ?_⟩
  · rcases List.mem_append.1 he with h' | h'
    · exact h.int e h'
    · simp at h'; subst h'; exact ⟨n, rfl⟩
  · rw [List.pairwise_append]
    refine ⟨h.once, by simp, fun a ha b hb => ?_⟩
    simp at hb; subst hb
    intro hh
    have := hn a ha
    rw [Bool.eq_false_iff] at this
    exact this (keyIs_iff.2 hh)

theorem find_append_new (es : List MapEntry) (n x : Int) (v : Value) (c : Nat) (hn : ∀ e ∈ es, keyIs n e = false) : lookE (es ++ [⟨.int .i64 n, v, c⟩]) x = if x = n then some v else lookE es x := by
  unfold lookE
  rw [List.find?_append]
  by_cases hx : x = n
  · subst hx
    have : es.find? (keyIs x) = none := by rw [List.find?_eq_none]; intro e he; simp [hn e he]
    simp [this, keyIs]
  · have : ([⟨.int .i64 n, v, c⟩] : List MapEntry).find? (keyIs x) = none := by simp [keyIs, hx]
    simp [this, hx]

theorem IntKeys.set {es : List MapEntry} (h : IntKeys es) (j : Nat) (hj : j < es.length) (e' : MapEntry) (he : e'.key = es[j].key) : IntKeys (es.set j e') := by
  refine ⟨fun e hm => ?_, ?_⟩
  · rcases List.mem_or_eq_of_mem_set hm with h' | h'
    · exact h.int e h'
    · subst h'; rw [he]; exact h.int _ (List.getElem_mem hj)
  · have h1 : (es.map (·.key)).Pairwise (· ≠ ·) := by rw [List.pairwise_map]; exact h.once
    have h2 : (es.set j e').map (·.key) = es.map (·.key) := by
      rw [List.map_set, he]
      exact List.ext_getElem (by simp) fun i h1 h2 => by
        simp only [List.getElem_set, List.getElem_map]
        split
        · rename_i hij; subst hij; rfl
        · rfl
    rw [← h2, List.pairwise_map] at h1
    exact h1

theorem key_at {es : List MapEntry} (h : IntKeys es) {i j : Nat} (hi : i < es.length) (hj : j < es.length) (hk : es[i].key = es[j].key) : i = j := by
  have := h.once
  rw [List.pairwise_iff_getElem] at this
  rcases Nat.lt_trichotomy i j with hl | hl | hl
  · exact absurd hk (this i j hi hj hl)
  · exact hl
  · exact absurd hk.symm (this j i hj hi hl)

theorem find_key {es : List MapEntry} (h : IntKeys es) {j : Nat} (hj : j < es.length) {n : Int} (hk : keyIs n es[j] = true) : es.find? (keyIs n) = some es[j] := by
  rw [List.find?_eq_some_iff_getElem]
  refine ⟨hk, j, hj, rfl, fun i hi => ?_⟩
  simp only [Bool.not_eq_true', Bool.eq_false_iff]
  intro hh
  have := key_at h (by omega) hj ((keyIs_iff.1 hh).trans (keyIs_iff.1 hk).symm)
  omega

theorem find_set {es : List MapEntry} (h : IntKeys es) {j : Nat} (hj : j < es.length) {n : Int} (hk : keyIs n es[j] = true) (v : Value) (x : Int) :
    lookE (es.set j ⟨.int .i64 n, v, es[j].born⟩) x = if x = n then some v else lookE es x := by
  have hs := h.set j hj ⟨.int .i64 n, v, es[j].born⟩ (keyIs_iff.1 hk).symm
  unfold lookE
  by_cases hx : x = n
  · subst hx
    have := find_key hs (j := j) (by simpa using hj) (n := x) (by simp [keyIs])
    rw [this]; simp
  · rw [if_neg hx]
    rcases find_cases es x with ⟨_, h2, h3⟩ | ⟨i, hi, _, h2, h4⟩
    · rw [h2, List.find?_eq_none.2]
      · intro e he
        rcases List.mem_or_eq_of_mem_set he with h' | h'
        · simp [h3 e h']
        · subst h'; simp [keyIs, hx]
    · have hij : i ≠ j := by
        intro e; subst e
        have a := keyIs_iff.1 h4; have b := keyIs_iff.1 hk
        rw [a] at b; injection b with _ b; exact hx b
      have h5 : (es.set j ⟨.int .i64 n, v, es[j].born⟩)[i]'(by simpa using hi) = es[i] := by rw [List.getElem_set_ne (Ne.symm hij)]
      rw [h2, find_key hs (j := i) (by simpa using hi) (by rw [h5]; exact h4), h5]

/-- m[k] = v -/
theorem IMap.update (h : IMap w b m f) (ht : P.underlying t = some (.map k e)) (hk : P.underlying k = some (.int .i64)) (n : Int) (v : Value) :
    ∃ w', (Instr.mapUpdate t (.map (some b)) (.int .i64 n) v).run P w = .ok () w' ∧ IMap w' b (m + 1) (upd f n v) ∧ (∃ o, w' = setBlock w b o) := by
  obtain ⟨es, c, hb, hi, hm, hf, hst⟩ := h
  have hfk := run_findKey hk n es.toList hi w
  rcases find_cases es.toList n with ⟨h1, h2, h3⟩ | ⟨j, hj, h1, h2, h4⟩
  · rw [h1] at hfk
    refine ⟨setBlock w b (.map (es.push ⟨.int .i64 n, v, c⟩) (c + 1)), ?_, ⟨es.push ⟨.int .i64 n, v, c⟩, c + 1, heap_setBlock_same hb _, ?_, by simp; omega, fun x => ?_, ?_⟩, _, rfl⟩
    · simp [Instr.mapUpdate, run_underlying ht, MapKept.run_getObj_map hb, run_checkKey hk, hfk, MapKept.run_setObj_map _ hb, Result.andThen, setBlock]
    · rw [Array.toList_push]; exact hi.push n v c h3
    · rw [Array.toList_push, find_append_new _ _ _ _ _ h3]; unfold upd; rw [hf x]
    · refine MapKept.stamped_push hst fun x hx hk => ?_
      have := h3 x hx
      rw [Bool.eq_false_iff] at this
      exact this (keyIs_iff.2 hk)
  · rw [h1] at hfk
    rw [Option.bind_some, List.getElem?_eq_getElem hj] at hfk
    simp only [Option.map_some] at hfk
    have hja : j < es.size := by simpa using hj
    have hkey : es[j].key = .int .i64 n := by have := keyIs_iff.1 h4; simpa using this
    have hks : (Instr.keyThatStays (.int .i64 n) (.int .i64 n)).run P w = .ok (.int .i64 n) w := by
      simp [Instr.keyThatStays, Instr.sameBits]
    have hmod : es.modify j (fun e => { e with key := .int .i64 n, val := v }) = es.setIfInBounds j ⟨.int .i64 n, v, es[j].born⟩ := by
      apply Array.ext
      · simp
      · intro i h1 h2
        rw [Array.getElem_modify, Array.getElem_setIfInBounds (by simpa using h1)]
        split
        · rename_i hij; subst hij; rfl
        · rfl
    refine ⟨setBlock w b (.map (es.setIfInBounds j ⟨.int .i64 n, v, es[j].born⟩) c), ?_, ⟨_, c, heap_setBlock_same hb _, ?_, by simp; omega, fun x => ?_, ?_⟩, _, rfl⟩
    · simp only [Instr.mapUpdate, Sem.run_bind, run_underlying ht, Result.andThen_ok, MapKept.run_getObj_map hb, run_checkKey hk, hfk]
      rw [show ((es[j]?).map (·.key)).getD (.int .i64 n) = .int .i64 n from by simp [hja, hkey]]
      simp only [hks, Result.andThen_ok, hmod, MapKept.run_setObj_map _ hb, setBlock]
    · rw [Array.toList_setIfInBounds]; exact hi.set j hj _ (by simpa using hkey.symm)
    · rw [Array.toList_setIfInBounds]
      have := find_set hi hj h4 v x
      simp only [Array.getElem_toList] at this
      rw [this]; unfold upd; rw [hf x]
    · rw [← hmod]
      refine MapKept.stamped_modify hst _ _ (fun _ _ => rfl) fun e he hj2 => ?_
      rw [Array.getElem?_eq_getElem hja, Option.some.injEq] at hj2
      rw [← hj2]; exact hkey.symm

theorem IntKeys.erase {es : List MapEntry} (h : IntKeys es) (j : Nat) : IntKeys (es.eraseIdx j) :=
  ⟨fun e he => h.int e (List.mem_of_mem_eraseIdx he), h.once.sublist (List.eraseIdx_sublist _ _)⟩
theorem find_erase {es : List MapEntry} (h : IntKeys es) {j : Nat} (hj : j < es.length) {n : Int} (hk : keyIs n es[j] = true) (x : Int) :
    lookE (es.eraseIdx j) x = if x = n then none else lookE es x := by
  unfold lookE
  have hmem : ∀ e ∈ es.eraseIdx j, keyIs n e = false := by
    intro e he
    rw [Bool.eq_false_iff]; intro hh
    obtain ⟨i, hi, he2⟩ := List.getElem_of_mem he
    rw [List.getElem_eraseIdx] at he2
    split at he2
    · have := key_at h (i := i) (j := j) (by omega) hj (by rw [he2]; exact (keyIs_iff.1 hh).trans (keyIs_iff.1 hk).symm)
      omega
    · have hl : i + 1 < es.length := by rw [List.length_eraseIdx] at hi; split at hi <;> omega
      have := key_at h (i := i + 1) (j := j) hl hj (by rw [he2]; exact (keyIs_iff.1 hh).trans (keyIs_iff.1 hk).symm)
      omega
  by_cases hx : x = n
  · subst hx
    rw [if_pos rfl, List.find?_eq_none.2]
    · rfl
    · intro e he; simp [hmem e he]
  · rw [if_neg hx]
    rcases find_cases es x with ⟨_, h2, h3⟩ | ⟨i, hi, _, h2, h4⟩
    · rw [h2, List.find?_eq_none.2]
      intro e he; simp [h3 e (List.mem_of_mem_eraseIdx he)]
    · have hij : i ≠ j := by
        intro e; subst e
        have a := keyIs_iff.1 h4; have b := keyIs_iff.1 hk
        rw [a] at b; injection b with _ b; exact hx b
      have hm : es[i] ∈ es.eraseIdx j := by
        rw [List.mem_eraseIdx_iff_getElem]
        exact ⟨i, hi, hij, rfl⟩
      obtain ⟨i', hi', he'⟩ := List.getElem_of_mem hm
      rw [h2, find_key (h.erase j) (j := i') hi' (by rw [he']; exact h4), he']
/-- delete(m, k) -/
theorem IMap.delete {ty : TypeId} (h : IMap w b m f) (ht : P.underlying t = some (.map k e)) (hk : P.underlying k = some (.int .i64)) (n : Int) :
    ∃ w', (Builtin.delete_ #[t, k] ty #[.map (some b), .int .i64 n]).run P w = .ok (.tuple #[]) w' ∧ IMap w' b m (del f n) ∧ (∃ o, w' = setBlock w b o) := by
  obtain ⟨es, c, hb, hi, hm, hf, hst⟩ := h
  have hfk := run_findKey hk n es.toList hi w
  rcases find_cases es.toList n with ⟨h1, h2, h3⟩ | ⟨j, hj, h1, h2, h4⟩
  · rw [h1] at hfk
    refine ⟨setBlock w b (.map es c), ?_, ⟨es, c, heap_setBlock_same hb _, hi, hm, fun x => ?_, hst⟩, _, rfl⟩
    · simp [Builtin.delete_, run_underlying ht, MapKept.run_getObj_map hb, run_checkKey hk, hfk, MapKept.run_setObj_map _ hb, Result.andThen, setBlock]
    · unfold del
      split
      · rename_i hx; subst hx; simp [lookE, h2]
      · exact hf x
  · rw [h1] at hfk
    rw [Option.bind_some, List.getElem?_eq_getElem hj] at hfk
    simp only [Option.map_some] at hfk
    have hja : j < es.size := by simpa using hj
    have hl : (es.eraseIdxIfInBounds j).toList = es.toList.eraseIdx j := by simp
    refine ⟨setBlock w b (.map (es.eraseIdxIfInBounds j) c), ?_, ⟨_, c, heap_setBlock_same hb _, by rw [hl]; exact hi.erase j, ?_, fun x => ?_, MapKept.stamped_erase hst j⟩, _, rfl⟩
    · simp only [Builtin.delete_, Sem.run_bind, run_underlying ht, Result.andThen_ok, MapKept.run_getObj_map hb, run_checkKey hk, hfk, Sem.run_pure, MapKept.run_setObj_map _ hb, setBlock, List.getElem?_toArray, List.getElem?_cons_zero, List.getElem?_cons_succ]
    · rw [← Array.length_toList, hl, List.length_eraseIdx, Array.length_toList]; split <;> omega
    · rw [hl, find_erase hi hj h4]; unfold del; rw [hf x]
end

end Go.Proofs.Ytglplhmclfekfaa
