/- PcA: several texts in one: Mpk Kwh Kwi Kwl Con Bits Pack Sec Plg Mln Rcs Bld Gro Tex. -/
import Derived.Test.YtiijfocdjcjlaaaGreatPaA
import Derived.Laws.StructEq
import Derived.Deep.QuietTactic
import Derived.BigQuiet
import Derived.Deep.CutBlock
import Derived.Deep.DeepCutAuto
import Derived.Lib.SlBytesConst
import Derived.Great.BuildSlice
import Derived.Deep.MidRow
/- Maps with keys of one kind, told by a law of theirs (printed of XMap by hand): what a block that is a map reads as, and the operations on it. -/
namespace Go.Proofs.YtiijfocdjcjlaaaGreat
open Go.RowKit Go.ChangeMaps Go.MapKept
set_option linter.unusedVariables false
set_option linter.unusedSimpArgs false
set_option linter.unusedSectionVars false

section
variable {κ : Type}
/-- how keys are written, and read again -/
structure KeyKind (κ : Type) where
  kv : κ → Value
  kd : Value → Option κ
  back : ∀ n, kd (kv n) = some n
theorem KeyKind.inj (K : KeyKind κ) {a b : κ} (h : K.kv a = K.kv b) : a = b := by
  have := K.back a
  rw [h, K.back b] at this
  exact (Option.some.inj this).symm
end
section
variable {κ : Type} [DecidableEq κ]
def keyIsK (K : KeyKind κ) (n : κ) (e : MapEntry) : Bool := K.kd e.key == some n
/-- the keys are of that kind, each once -/
structure KindKeys (K : KeyKind κ) (es : List MapEntry) : Prop where
  is : ∀ e ∈ es, ∃ n, e.key = K.kv n
  once : es.Pairwise fun a b => a.key ≠ b.key
def lookK (K : KeyKind κ) (es : List MapEntry) (n : κ) : Option Value := (es.find? (keyIsK K n)).map (·.val)
/-- Block b of w is a map with such keys that reads as f, of at most m entries. -/
def KMap (K : KeyKind κ) (w : World) (b m : Nat) (f : κ → Option Value) : Prop :=
  ∃ es clock, w.heap[b]? = some (.map es clock) ∧ KindKeys K es.toList ∧ es.size ≤ m ∧ (∀ n, f n = lookK K es.toList n) ∧ MapKept.Stamped es clock
/-- what the machine does with such keys -/
structure KeyLaw (P : Program) (k : TypeId) (K : KeyKind κ) : Prop where
  find : ∀ (n : κ) (es : List MapEntry) (w : World), (∀ e ∈ es, ∃ m, e.key = K.kv m) → (Instr.findKey k (K.kv n) es).run P w = .ok ((es.findIdx? (keyIsK K n)).bind fun j => (es[j]?).map fun e => (j, e.val)) w
  check : ∀ (n : κ) (em : Bool) (w : World), (Instr.checkKey em 10000 k (K.kv n)).run P w = .ok () w
  stays : ∀ (n : κ) (w : World), (Instr.keyThatStays (K.kv n) (K.kv n)).run P w = .ok (K.kv n) w

variable {K : KeyKind κ}
theorem KMap.lt {w : World} {b m : Nat} {f : κ → Option Value} (h : KMap K w b m f) : b < w.heap.size := by
  obtain ⟨es, c, hb, _⟩ := h
  exact (Array.getElem?_eq_some_iff.1 hb).1
theorem KMap.same {w w' : World} {b m : Nat} {f : κ → Option Value} (h : KMap K w b m f) (hb : w'.heap[b]? = w.heap[b]?) : KMap K w' b m f := by
  obtain ⟨es, c, h1, h2⟩ := h
  exact ⟨es, c, hb.trans h1, h2⟩
theorem KMap.kept {w w' : World} {b m : Nat} {f : κ → Option Value} (h : KMap K w b m f) (hk : Kept w w') : KMap K w' b m f := h.same (hk.block_eq h.lt)
theorem KMap.made (w : World) : KMap K (w.alloc (.map #[] 0)) w.heap.size 0 (fun _ => none) :=
  ⟨#[], 0, heap_alloc_new w _, ⟨by simp, by simp⟩, by simp, fun n => by simp [lookK], MapKept.stamped_empty _⟩
theorem keyIsK_iff {n : κ} {e : MapEntry} (h : ∃ m, e.key = K.kv m) : keyIsK K n e = true ↔ e.key = K.kv n := by
  obtain ⟨m, hm⟩ := h
  unfold keyIsK
  rw [hm, K.back]
  constructor
  · intro h; simp at h; rw [h]
  · intro h; rw [K.inj h]; simp
section
variable {P : Program} {w : World} {b m : Nat} {f : κ → Option Value} {t k e : TypeId}

theorem findK_cases (es : List MapEntry) (n : κ) : (es.findIdx? (keyIsK K n) = none ∧ es.find? (keyIsK K n) = none ∧ (∀ e ∈ es, keyIsK K n e = false)) ∨ ∃ j, ∃ hj : j < es.length, es.findIdx? (keyIsK K n) = some j ∧ es.find? (keyIsK K n) = some es[j] ∧ keyIsK K n es[j] = true := by
  cases hf : es.findIdx? (keyIsK K n) with
  | none =>
    refine .inl ⟨rfl, ?_, ?_⟩
    · rw [List.find?_eq_none]; intro x hx; rw [List.findIdx?_eq_none_iff] at hf; simpa using hf x hx
    · intro e he; rw [List.findIdx?_eq_none_iff] at hf; exact hf e he
  | some j =>
    obtain ⟨hj, hp, hb⟩ := List.findIdx?_eq_some_iff_getElem.1 hf
    refine .inr ⟨j, hj, rfl, ?_, hp⟩
    rw [List.find?_eq_some_iff_getElem]
    exact ⟨hp, j, hj, rfl, fun i hi => by simpa using hb i hi⟩

/-- m[k], m[k] with ok -/
theorem KMap.lookup (h : KMap K w b m f) (ht : P.underlying t = some (.map k e)) (hk : KeyLaw P k K) {z : Value} (hz : ∀ w, (zeroValue e).run P w = .ok z w) (n : κ) (ok : Bool) :
    (Instr.lookup t (.map (some b)) (K.kv n) ok).run P w = .ok (if ok then .tuple #[(f n).getD z, .bool (f n).isSome] else (f n).getD z) w := by
  obtain ⟨es, c, hb, hi, _, hf, _⟩ := h
  have hfk := hk.find n es.toList w hi.is
  rw [hf n]
  rcases findK_cases es.toList n with ⟨h1, h2, _⟩ | ⟨j, hj, h1, h2, _⟩
  · rw [h1] at hfk
    simp [Instr.lookup, run_underlying ht, MapKept.run_getObj_map hb, hk.check, hfk, lookK, h2, hz, Result.andThen]
  · rw [h1] at hfk
    rw [Option.bind_some, List.getElem?_eq_getElem hj] at hfk
    simp only [Option.map_some] at hfk
    simp only [Instr.lookup, lookK, h2]
    simp only [Sem.run_bind, run_underlying ht, Result.andThen_ok, MapKept.run_getObj_map hb, hk.check, hfk, Sem.run_pure, Option.map_some, Option.getD_some, Option.isSome_some]
theorem runK_lookup_nil (ht : P.underlying t = some (.map k e)) (hk : KeyLaw P k K) {z : Value} (hz : ∀ w, (zeroValue e).run P w = .ok z w) (n : κ) (ok : Bool) :
    (Instr.lookup t (.map none) (K.kv n) ok).run P w = .ok (if ok then .tuple #[z, .bool false] else z) w := by
  have hfk := hk.find n [] w (by simp)
  simp [Instr.lookup, run_underlying ht, hk.check, hfk, hz, Result.andThen]

def updK (f : κ → Option Value) (n : κ) (v : Value) : κ → Option Value := fun x => if x = n then some v else f x
def delK (f : κ → Option Value) (n : κ) : κ → Option Value := fun x => if x = n then none else f x

theorem KindKeys.push {es : List MapEntry} (h : KindKeys K es) (n : κ) (v : Value) (c : Nat) (hn : ∀ e ∈ es, keyIsK K n e = false) : KindKeys K (es ++ [⟨K.kv n, v, c⟩]) := by
  refine ⟨fun e he => ?_, ?_⟩
  · rcases List.mem_append.1 he with h' | h'
    · exact h.is e h'
    · simp at h'; subst h'; exact ⟨n, rfl⟩
  · rw [List.pairwise_append]
    refine ⟨h.once, by simp, fun a ha b hb => ?_⟩
    simp at hb; subst hb
    intro hh
    have := hn a ha
    rw [Bool.eq_false_iff] at this
    exact this ((keyIsK_iff (h.is a ha)).2 hh)

theorem findK_append_new (es : List MapEntry) (n x : κ) (v : Value) (c : Nat) (hn : ∀ e ∈ es, keyIsK K n e = false) : lookK K (es ++ [⟨K.kv n, v, c⟩]) x = if x = n then some v else lookK K es x := by
  unfold lookK
  rw [List.find?_append]
  by_cases hx : x = n
  · subst hx
    have : es.find? (keyIsK K x) = none := by rw [List.find?_eq_none]; intro e he; simp [hn e he]
    simp [this, keyIsK, K.back]
  · have : ([⟨K.kv n, v, c⟩] : List MapEntry).find? (keyIsK K x) = none := by simp [keyIsK, K.back, Ne.symm hx]
    simp [this, hx]

theorem KindKeys.set {es : List MapEntry} (h : KindKeys K es) (j : Nat) (hj : j < es.length) (e' : MapEntry) (he : e'.key = es[j].key) : KindKeys K (es.set j e') := by
  refine ⟨fun e hm => ?_, ?_⟩
  · rcases List.mem_or_eq_of_mem_set hm with h' | h'
    · exact h.is e h'
    · subst h'; rw [he]; exact h.is _ (List.getElem_mem hj)
  · have h1 : (es.map (·.key)).Pairwise (· ≠ ·) := by rw [List.pairwise_map]; exact h.once
    have h2 : (es.set j e').map (·.key) = es.map (·.key) := by
      rw [List.map_set, he]
      exact List.ext_getElem (by simp) fun i h1 h2 => by
        simp only [List.getElem_set, List.getElem_map]
        split
        · rename_i hij; subst hij; rfl
        · rfl
    rw [← h2, List.pairwise_map] at h1
    exact h1

theorem keyK_at {es : List MapEntry} (h : KindKeys K es) {i j : Nat} (hi : i < es.length) (hj : j < es.length) (hk : es[i].key = es[j].key) : i = j := by
  have := h.once
  rw [List.pairwise_iff_getElem] at this
  rcases Nat.lt_trichotomy i j with hl | hl | hl
  · exact absurd hk (this i j hi hj hl)
  · exact hl
  · exact absurd hk.symm (this j i hj hi hl)

theorem findK_key {es : List MapEntry} (h : KindKeys K es) {j : Nat} (hj : j < es.length) {n : κ} (hk : keyIsK K n es[j] = true) : es.find? (keyIsK K n) = some es[j] := by
  rw [List.find?_eq_some_iff_getElem]
  refine ⟨hk, j, hj, rfl, fun i hi => ?_⟩
  simp only [Bool.not_eq_true', Bool.eq_false_iff]
  intro hh
  have := keyK_at h (by omega) hj (((keyIsK_iff (h.is _ (List.getElem_mem _))).1 hh).trans ((keyIsK_iff (h.is _ (List.getElem_mem _))).1 hk).symm)
  omega

theorem findK_set {es : List MapEntry} (h : KindKeys K es) {j : Nat} (hj : j < es.length) {n : κ} (hk : keyIsK K n es[j] = true) (v : Value) (x : κ) :
    lookK K (es.set j ⟨K.kv n, v, es[j].born⟩) x = if x = n then some v else lookK K es x := by
  have hs := h.set j hj ⟨K.kv n, v, es[j].born⟩ ((keyIsK_iff (h.is _ (List.getElem_mem _))).1 hk).symm
  unfold lookK
  by_cases hx : x = n
  · subst hx
    have := findK_key hs (j := j) (by simpa using hj) (n := x) (by simp [keyIsK, K.back])
    rw [this]; simp
  · rw [if_neg hx]
    rcases findK_cases es x with ⟨_, h2, h3⟩ | ⟨i, hi, _, h2, h4⟩
    · rw [h2, List.find?_eq_none.2]
      · intro e he
        rcases List.mem_or_eq_of_mem_set he with h' | h'
        · simp [h3 e h']
        · subst h'; simp [keyIsK, K.back, Ne.symm hx]
    · have hij : i ≠ j := by
        intro e; subst e
        have a := (keyIsK_iff (h.is _ (List.getElem_mem _))).1 h4; have b := (keyIsK_iff (h.is _ (List.getElem_mem _))).1 hk
        rw [a] at b; exact hx (K.inj b)
      have h5 : (es.set j ⟨K.kv n, v, es[j].born⟩)[i]'(by simpa using hi) = es[i] := by rw [List.getElem_set_ne (Ne.symm hij)]
      rw [h2, findK_key hs (j := i) (by simpa using hi) (by rw [h5]; exact h4), h5]

/-- m[k] = v -/
theorem KMap.update (h : KMap K w b m f) (ht : P.underlying t = some (.map k e)) (hk : KeyLaw P k K) (n : κ) (v : Value) :
    ∃ w', (Instr.mapUpdate t (.map (some b)) (K.kv n) v).run P w = .ok () w' ∧ KMap K w' b (m + 1) (updK f n v) ∧ (∃ o, w' = setBlock w b o) := by
  obtain ⟨es, c, hb, hi, hm, hf, hst⟩ := h
  have hfk := hk.find n es.toList w hi.is
  rcases findK_cases es.toList n with ⟨h1, h2, h3⟩ | ⟨j, hj, h1, h2, h4⟩
  · rw [h1] at hfk
    refine ⟨setBlock w b (.map (es.push ⟨K.kv n, v, c⟩) (c + 1)), ?_, ⟨es.push ⟨K.kv n, v, c⟩, c + 1, heap_setBlock_same hb _, ?_, by simp; omega, fun x => ?_, ?_⟩, _, rfl⟩
    · simp [Instr.mapUpdate, run_underlying ht, MapKept.run_getObj_map hb, hk.check, hfk, MapKept.run_setObj_map _ hb, Result.andThen, setBlock]
    · rw [Array.toList_push]; exact hi.push n v c h3
    · rw [Array.toList_push, findK_append_new _ _ _ _ _ h3]; unfold updK; rw [hf x]
    · refine MapKept.stamped_push hst fun x hx hkx => ?_
      have := h3 x hx
      rw [Bool.eq_false_iff] at this
      exact this ((keyIsK_iff (hi.is x (by simpa using hx))).2 hkx)
  · rw [h1] at hfk
    rw [Option.bind_some, List.getElem?_eq_getElem hj] at hfk
    simp only [Option.map_some] at hfk
    have hja : j < es.size := by simpa using hj
    have hkey : es[j].key = K.kv n := by have := (keyIsK_iff (hi.is _ (List.getElem_mem _))).1 h4; simpa using this
    have hks := hk.stays n w
    have hmod : es.modify j (fun e => { e with key := K.kv n, val := v }) = es.setIfInBounds j ⟨K.kv n, v, es[j].born⟩ := by
      apply Array.ext
      · simp
      · intro i h1 h2
        rw [Array.getElem_modify, Array.getElem_setIfInBounds (by simpa using h1)]
        split
        · rename_i hij; subst hij; rfl
        · rfl
    refine ⟨setBlock w b (.map (es.setIfInBounds j ⟨K.kv n, v, es[j].born⟩) c), ?_, ⟨_, c, heap_setBlock_same hb _, ?_, by simp; omega, fun x => ?_, ?_⟩, _, rfl⟩
    · simp only [Instr.mapUpdate, Sem.run_bind, run_underlying ht, Result.andThen_ok, MapKept.run_getObj_map hb, hk.check, hfk]
      rw [show ((es[j]?).map (·.key)).getD (K.kv n) = K.kv n from by simp [hja, hkey]]
      simp only [hks, Result.andThen_ok, hmod, MapKept.run_setObj_map _ hb, setBlock]
    · rw [Array.toList_setIfInBounds]; exact hi.set j hj _ (by simpa using hkey.symm)
    · rw [Array.toList_setIfInBounds]
      have := findK_set hi hj h4 v x
      simp only [Array.getElem_toList] at this
      rw [this]; unfold updK; rw [hf x]
    · rw [← hmod]
      refine MapKept.stamped_modify hst _ _ (fun _ _ => rfl) fun e he hj2 => ?_
      rw [Array.getElem?_eq_getElem hja, Option.some.injEq] at hj2
      rw [← hj2]; exact hkey.symm

/-- keys that are asked one by one whether they are the same -/
theorem find_asking (hi : Nat) (heq : ∀ (a b : κ) (w : World), (Op.equal k (K.kv a) (K.kv b)).run P w = .ok (decide (a = b)) w) (n : κ) (w : World) : ∀ (es : List MapEntry) (i : Nat), (∀ e ∈ es, ∃ m, e.key = K.kv m) →
    (Instr.findAsking k (K.kv n) es i).run P w = .ok ((es.findIdx? (keyIsK K n)).bind fun j => (es[j]?).map fun e => (i + j, e.val)) w
  | [], i, _ => by simp [Instr.findAsking]
  | e :: es, i, h => by
    obtain ⟨m, hm⟩ := h e (by simp)
    have ih := find_asking hi heq n w es (i + 1) (fun x hx => h x (by simp [hx]))
    unfold Instr.findAsking
    rw [hm]
    simp only [Sem.run_bind, heq, Result.andThen_ok, List.findIdx?_cons, keyIsK, hm, K.back]
    by_cases hn : n = m
    · subst hn
      simp
    · have h1 : (decide (n = m)) = false := by simpa using hn
      have h2 : (some m == some n) = false := by simpa using fun h => hn h.symm
      rw [h1, h2]
      simp only [Bool.false_eq_true, if_false]
      rw [ih]
      have hk : (keyIsK K n : MapEntry → Bool) = fun e => K.kd e.key == some n := rfl
      rw [hk]
      cases hf : es.findIdx? (fun e => K.kd e.key == some n) with
      | none => simp
      | some j => simp [Nat.add_comm, Nat.add_left_comm]
theorem find_of_equal {d : TypeDesc} (hu : P.underlying k = some d) (hs : ∀ a b : κ, Instr.sameNow d (K.kv a) (K.kv b) = none) (heq : ∀ (a b : κ) (w : World), (Op.equal k (K.kv a) (K.kv b)).run P w = .ok (decide (a = b)) w)
    (n : κ) (es : List MapEntry) (w : World) (h : ∀ e ∈ es, ∃ m, e.key = K.kv m) : (Instr.findKey k (K.kv n) es).run P w = .ok ((es.findIdx? (keyIsK K n)).bind fun j => (es[j]?).map fun e => (j, e.val)) w := by
  have hfa := find_asking 0 heq n w es 0 h
  simp only [Nat.zero_add] at hfa
  cases es with
  | nil => simp [Instr.findKey, run_underlying hu, Instr.findNow, Result.andThen]
  | cons e es =>
    obtain ⟨m, hm⟩ := h e (by simp)
    simp only [Instr.findKey, Sem.run_bind, run_underlying hu, Result.andThen_ok, Instr.findNow, hm, hs]
    exact hfa
end
end
end Go.Proofs.YtiijfocdjcjlaaaGreat
/- Extents and places as keys of maps. -/
namespace Go.Proofs.YtiijfocdjcjlaaaGreat
open Go.RowKit Go.ChangeMaps Go.MapKept
set_option linter.unusedVariables false
set_option linter.unusedSimpArgs false
theorem ext_fields : (Tryz.prog.fieldsOf 39).toList.map (fun f => (f.name, f.type, f.offset)) = [("Disk", 3, 0), ("At", 3, 1)] := by kernel_rfl
theorem run_equal_ext (w : World) (x y : Ex) : (Op.equalIn 10000 39 (.agg (pairV x).toArray) (.agg (pairV y).toArray)).run Tryz.prog w = .ok (x.1 == y.1 && x.2 == y.2) w := by
  obtain ⟨a, b⟩ := x; obtain ⟨c, d⟩ := y
  have hr := run_equalIn_struct (P := Tryz.prog) w 9999 39 #[.int .i64 a, .int .i64 b] #[.int .i64 c, .int .i64 d] (by kernel_rfl) (by kernel_rfl)
  simp only [pairV]
  rw [hr]
  have hf := ext_fields
  generalize (Tryz.prog.fieldsOf 39).toList = fs at hf ⊢
  rcases fs with _ | ⟨f, _ | ⟨g, _ | ⟨h, fs⟩⟩⟩
  · simp at hf
  · simp at hf
  · simp only [List.map_cons, List.map_nil, List.cons.injEq, Prod.mk.injEq, and_true] at hf
    obtain ⟨⟨f1, f2, f3⟩, g1, g2, g3⟩ := hf
    have hi : Tryz.prog.underlying 3 = some (.int .i64) := Tryz.underlying3
    have pa : ∀ (x y : Int) (ww : World), (part 3 #[.int .i64 x, .int .i64 y] 0).run Tryz.prog ww = .ok (.int .i64 x) ww := fun x y ww => by simp [part, isAgg, run_underlying hi]
    have pb : ∀ (x y : Int) (ww : World), (part 3 #[.int .i64 x, .int .i64 y] 1).run Tryz.prog ww = .ok (.int .i64 y) ww := fun x y ww => by simp [part, isAgg, run_underlying hi]
    have pe : ∀ (x y : Int) (ww : World), (Op.equalIn 9999 3 (.int .i64 x) (.int .i64 y)).run Tryz.prog ww = .ok (x == y) ww := fun x y ww => run_equalIn_int ww 9998 3 .i64 .i64 x y hi
    simp only [Op.eqFields, f1, f2, f3, g1, g2, g3, Sem.run_bind, pa, pb, pe, Result.andThen_ok, Sem.run_ite, Sem.run_pure]
    cases (a == c) <;> cases (b == d) <;> simp
  · simp at hf
theorem whr_fields : (Tryz.prog.fieldsOf 41).toList.map (fun f => (f.name, f.type, f.offset)) = [("Tier", 3, 0), ("Group", 3, 1), ("Slot", 3, 2)] := by kernel_rfl
theorem run_equal_whr (w : World) (x y : Wh) : (Op.equalIn 10000 41 (.agg (trip x).toArray) (.agg (trip y).toArray)).run Tryz.prog w = .ok (x.1 == y.1 && (x.2.1 == y.2.1 && x.2.2 == y.2.2)) w := by
  obtain ⟨a, b, e⟩ := x; obtain ⟨c, d, e'⟩ := y
  have hr := run_equalIn_struct (P := Tryz.prog) w 9999 41 #[.int .i64 a, .int .i64 b, .int .i64 e] #[.int .i64 c, .int .i64 d, .int .i64 e'] (by kernel_rfl) (by kernel_rfl)
  simp only [trip]
  rw [hr]
  have hf := whr_fields
  generalize (Tryz.prog.fieldsOf 41).toList = fs at hf ⊢
  rcases fs with _ | ⟨f, _ | ⟨g, _ | ⟨h, _ | ⟨i, fs⟩⟩⟩⟩
  · simp at hf
  · simp at hf
  · simp at hf
  · simp only [List.map_cons, List.map_nil, List.cons.injEq, Prod.mk.injEq, and_true] at hf
    obtain ⟨⟨f1, f2, f3⟩, ⟨g1, g2, g3⟩, h1, h2, h3⟩ := hf
    have hi : Tryz.prog.underlying 3 = some (.int .i64) := Tryz.underlying3
    have pa : ∀ (x y z : Int) (ww : World), (part 3 #[.int .i64 x, .int .i64 y, .int .i64 z] 0).run Tryz.prog ww = .ok (.int .i64 x) ww := fun x y z ww => by simp [part, isAgg, run_underlying hi]
    have pb : ∀ (x y z : Int) (ww : World), (part 3 #[.int .i64 x, .int .i64 y, .int .i64 z] 1).run Tryz.prog ww = .ok (.int .i64 y) ww := fun x y z ww => by simp [part, isAgg, run_underlying hi]
    have pc : ∀ (x y z : Int) (ww : World), (part 3 #[.int .i64 x, .int .i64 y, .int .i64 z] 2).run Tryz.prog ww = .ok (.int .i64 z) ww := fun x y z ww => by simp [part, isAgg, run_underlying hi]
    have pe : ∀ (x y : Int) (ww : World), (Op.equalIn 9999 3 (.int .i64 x) (.int .i64 y)).run Tryz.prog ww = .ok (x == y) ww := fun x y ww => run_equalIn_int ww 9998 3 .i64 .i64 x y hi
    simp only [Op.eqFields, f1, f2, f3, g1, g2, g3, h1, h2, h3, Sem.run_bind, pa, pb, pc, pe, Result.andThen_ok, Sem.run_ite, Sem.run_pure]
    cases (a == c) <;> cases (b == d) <;> cases (e == e') <;> simp
  · simp at hf
end Go.Proofs.YtiijfocdjcjlaaaGreat
/- The laws of extents and places as keys of maps. -/
namespace Go.Proofs.YtiijfocdjcjlaaaGreat
open Go.RowKit Go.ChangeMaps Go.MapKept
set_option linter.unusedVariables false
set_option linter.unusedSimpArgs false
def extK : KeyKind Ex := ⟨fun x => .agg (pairV x).toArray, fun v => match v with | .agg ⟨[.int .i64 a, .int .i64 b]⟩ => some (a, b) | _ => none, fun n => rfl⟩
def whrK : KeyKind Wh := ⟨fun x => .agg (trip x).toArray, fun v => match v with | .agg ⟨[.int .i64 a, .int .i64 b, .int .i64 c]⟩ => some (a, b, c) | _ => none, fun n => rfl⟩
theorem ext_find (n : Ex) (es : List MapEntry) (w : World) (h : ∀ e ∈ es, ∃ m, e.key = extK.kv m) : (Instr.findKey 39 (extK.kv n) es).run Tryz.prog w = .ok ((es.findIdx? (keyIsK extK n)).bind fun j => (es[j]?).map fun e => (j, e.val)) w := by
  refine find_of_equal (k := 39) Tryz.underlying39 (fun a b => rfl) (fun a b w => ?_) n es w h
  have := run_equal_ext w a b
  rw [show (decide (a = b)) = (a.1 == b.1 && a.2 == b.2) by obtain ⟨p, q⟩ := a; obtain ⟨r, s⟩ := b; rw [Bool.eq_iff_iff]; simp]
  exact this
theorem whr_find (n : Wh) (es : List MapEntry) (w : World) (h : ∀ e ∈ es, ∃ m, e.key = whrK.kv m) : (Instr.findKey 41 (whrK.kv n) es).run Tryz.prog w = .ok ((es.findIdx? (keyIsK whrK n)).bind fun j => (es[j]?).map fun e => (j, e.val)) w := by
  refine find_of_equal (k := 41) Tryz.underlying41 (fun a b => rfl) (fun a b w => ?_) n es w h
  have := run_equal_whr w a b
  rw [show (decide (a = b)) = (a.1 == b.1 && (a.2.1 == b.2.1 && a.2.2 == b.2.2)) by obtain ⟨p, q, r⟩ := a; obtain ⟨p', q', r'⟩ := b; rw [Bool.eq_iff_iff]; simp]
  exact this
theorem int_check (em : Bool) (n : Nat) (a : Int) (w : World) : (Instr.checkKey em (n + 1) 3 (.int .i64 a)).run Tryz.prog w = .ok () w := by
  have hi : Tryz.prog.underlying 3 = some (.int .i64) := Tryz.underlying3
  simp [Instr.checkKey, run_underlying hi]
theorem ext_stays (n : Ex) (w : World) : (Instr.keyThatStays (extK.kv n) (extK.kv n)).run Tryz.prog w = .ok (extK.kv n) w := by
  simp [Instr.keyThatStays, Instr.sameBits, extK, pairV]
theorem whr_stays (n : Wh) (w : World) : (Instr.keyThatStays (whrK.kv n) (whrK.kv n)).run Tryz.prog w = .ok (whrK.kv n) w := by
  simp [Instr.keyThatStays, Instr.sameBits, whrK, trip]
theorem ext_check1 (n : Ex) (em : Bool) (m : Nat) (w : World) : (Instr.checkKey em (m + 1 + 1) 39 (extK.kv n)).run Tryz.prog w = .ok () w := by
  obtain ⟨a, b⟩ := n
  have hu := Tryz.underlying39
  have hi : Tryz.prog.underlying 3 = some (.int .i64) := Tryz.underlying3
  have pa : ∀ (i : Nat) (v : Value), (#[Value.int .i64 a, .int .i64 b] : Array Value)[i]? = some v → ∀ ww, (part 3 #[.int .i64 a, .int .i64 b] i).run Tryz.prog ww = .ok v ww := fun i v h ww => by simp [part, isAgg, run_underlying hi, h]
  rw [Instr.checkKey]
  simp [run_underlying hu, extK, pairV, pa, int_check]
theorem ext_check (n : Ex) (em : Bool) (w : World) : (Instr.checkKey em 10000 39 (extK.kv n)).run Tryz.prog w = .ok () w := ext_check1 n em 9998 w
theorem whr_check1 (n : Wh) (em : Bool) (m : Nat) (w : World) : (Instr.checkKey em (m + 1 + 1) 41 (whrK.kv n)).run Tryz.prog w = .ok () w := by
  obtain ⟨a, b, c⟩ := n
  have hu := Tryz.underlying41
  have hi : Tryz.prog.underlying 3 = some (.int .i64) := Tryz.underlying3
  have pa : ∀ (i : Nat) (v : Value), (#[Value.int .i64 a, .int .i64 b, .int .i64 c] : Array Value)[i]? = some v → ∀ ww, (part 3 #[.int .i64 a, .int .i64 b, .int .i64 c] i).run Tryz.prog ww = .ok v ww := fun i v h ww => by simp [part, isAgg, run_underlying hi, h]
  rw [Instr.checkKey]
  simp [run_underlying hu, whrK, trip, pa, int_check]
theorem whr_check (n : Wh) (em : Bool) (w : World) : (Instr.checkKey em 10000 41 (whrK.kv n)).run Tryz.prog w = .ok () w := whr_check1 n em 9998 w
theorem extLaw : KeyLaw Tryz.prog 39 extK := ⟨ext_find, ext_check, ext_stays⟩
theorem whrLaw : KeyLaw Tryz.prog 41 whrK := ⟨whr_find, whr_check, whr_stays⟩
end Go.Proofs.YtiijfocdjcjlaaaGreat
/- Maps with keys of one kind: a look-up and a store, in the walk. -/
namespace Go.Proofs.YtiijfocdjcjlaaaGreat
open Go.RowKit Go.ChangeMaps Go.MapKept
set_option linter.unusedVariables false
section
variable {κ : Type} [DecidableEq κ] {K : KeyKind κ} {P : Program} {ops : Array Oper} {rest : List Oper} {o : Oper} {a : Act} {w : World} {Q : Exit → Act → World → Prop} {t k e : TypeId} {z : Value} {b c : Nat} {f : κ → Option Value}
theorem exec_lookupK (m x : Operand) (ok : Bool) (ho : o.op = .lookup t m x ok) (ht : P.underlying t = some (.map k e)) (hk : KeyLaw P k K) (hz : ∀ w, (zeroValue e).run P w = .ok z w)
    (hm : a.eval m = .map (some b)) (n : κ) (hx : a.eval x = K.kv n) (h : KMap K w b c f) :
    (execOp a.eval o).run P w = .ok (.value (if ok then .tuple #[(f n).getD z, .bool (f n).isSome] else (f n).getD z)) w := by
  have hr := h.lookup ht hk hz n ok
  unfold execOp
  simp only [ho, Sem.run_bind, hm, hx, hr, Result.andThen_ok, Sem.run_pure]
theorem wpList_lookup_km (hgd : Region.wanted o (yielded ops a.tmps) = true) (m x : Operand) (ok : Bool) (ho : o.op = .lookup t m x ok) (ht : P.underlying t = some (.map k e)) (hk : KeyLaw P k K) (hz : ∀ w, (zeroValue e).run P w = .ok z w)
    (hm : a.eval m = .map (some b)) (n : κ) (hx : a.eval x = K.kv n) (hi : KMap K w b c f) (v : Value) (hv : (if ok then .tuple #[(f n).getD z, .bool (f n).isSome] else (f n).getD z) = v)
    (h : wpList P ops Q rest (a.put o.dst v) w) : wpList P ops Q (o :: rest) a w := by
  refine BigFrame.wpList_want hgd fun K' hK => ?_
  have hr := exec_lookupK m x ok ho ht hk hz hm n hx hi
  unfold Oper.wp
  rw [hr, hv]
  exact hK _ _ h
theorem wpList_update_km (hgd : Region.wanted o (yielded ops a.tmps) = true) (m x y : Operand) (ho : o.op = .mapUpdate t m x y) (ht : P.underlying t = some (.map k e)) (hk : KeyLaw P k K)
    (hm : a.eval m = .map (some b)) (n : κ) (hx : a.eval x = K.kv n) (v : Value) (hy : a.eval y = v) (hi : KMap K w b c f)
    (h : ∀ o', KMap K (setBlock w b o') b (c + 1) (updK f n v) → wpList P ops Q rest (a.put o.dst undef) (setBlock w b o')) : wpList P ops Q (o :: rest) a w := by
  refine BigFrame.wpList_want hgd fun K' hK => ?_
  obtain ⟨w', hr, hi', o', rfl⟩ := hi.update (t := t) (e := e) ht hk n v
  unfold Oper.wp execOp
  simp only [ho, Sem.run_bind, hm, hx, hy, hr, Result.andThen_ok, Sem.run_pure]
  exact hK _ _ (h o' hi')
theorem wp_update_km {K' : Act → World → Prop} (m x y : Operand) (ho : o.op = .mapUpdate t m x y) (ht : P.underlying t = some (.map k e)) (hk : KeyLaw P k K)
    (hm : a.eval m = .map (some b)) (n : κ) (hx : a.eval x = K.kv n) (v : Value) (hy : a.eval y = v) (hi : KMap K w b c f)
    (h : ∀ o', KMap K (setBlock w b o') b (c + 1) (updK f n v) → K' (a.put o.dst undef) (setBlock w b o')) : o.wp P a w K' Q := by
  obtain ⟨w', hr, hi', o', rfl⟩ := hi.update (t := t) (e := e) ht hk n v
  unfold Oper.wp execOp
  simp only [ho, Sem.run_bind, hm, hx, hy, hr, Result.andThen_ok, Sem.run_pure]
  exact h o' hi'
end
end Go.Proofs.YtiijfocdjcjlaaaGreat
/- slices.Index, slices.Contains at places and numbers (gen_con.py). -/
namespace Go.Proofs.YtiijfocdjcjlaaaGreat
open Go.RowKit
set_option linter.unusedVariables false
set_option linter.unusedSimpArgs false
set_option maxRecDepth 100000
set_option maxHeartbeats 1000000
theorem eqg_whr : Tryz.prog.eqGuardType Tryz.prog.depth 41 = false := by kernel_rfl
theorem exec_eq_whr {W : World} {a : Act} {o : Oper} (x y : Operand) {t' : TypeId} (ho : o.op = .binOp .eql 41 x y t') (p q : Wh) (hx : a.eval x = .agg (trip p).toArray) (hy : a.eval y = .agg (trip q).toArray) :
    (execOp a.eval o).run Tryz.prog W = .ok (.value (.bool (p == q))) W := by
  have heq := run_equal_whr W p q
  unfold execOp
  simp only [ho, hx, hy, Sem.run_bind]
  rw [run_eqGuard_agg _ _ _ _ _ _ _ eqg_whr]
  simp only [Result.andThen_ok]
  rw [run_eql_struct, heq]
  simp only [Result.andThen_ok, Sem.run_pure]
  obtain ⟨a, b, c⟩ := p; obtain ⟨d, e, f⟩ := q
  rfl
theorem sl_Index_w (x : Wh) (l : List Wh) (v : Value) (w : World) (hlen : l.length ≤ 4096) (hm : RSl trip 3 w v l) :
    Calls Tryz.prog 110 #[v, .agg (trip x).toArray] w fun e w' => e = .returned (.int .i64 (idxP (fun y => x == y) l)) ∧ Kept w w' := by
  obtain ⟨oa, cap, rfl, hcap⟩ := hm.form
  have HM := Lib.hid hm; clear hm
  simp only [trip]
  go_enter Tryz.func110, Tryz.ntmps110
  go_wp2_with (refine stop_at (o := ⟨some 3, _, _, _, _, _⟩) ?_)
  refine Stop.mk ?_
  refine wpList_box_rowS rfl _ _ rfl (trip x) rfl ?_
  intro w1 hz1 hs1 hk1
  have hcs := Cells.of_block hz1.out
  have x0 := hcs 0 (by rw [trip_len]; decide)
  have x1 := hcs 1 (by rw [trip_len]; decide)
  have x2 := hcs 2 (by rw [trip_len]; decide)
  simp only [Nat.add_zero, Nat.zero_add, trip, List.getElem_cons_zero, List.getElem_cons_succ] at x0 x1 x2
  have HK1 := Lib.hid hk1; clear hz1 hk1 hs1 hcs
  generalize w.heap.size = X at *
  have HX := Lib.hid (⟨x0, x1, x2⟩ : _ ∧ _ ∧ _); clear x0 x1 x2
  go_wp2
  go_loopw [8] (fun i wr => ∃ k : Nat, k ≤ l.length ∧ i = .int .i64 (k : Int) ∧ Hid (Kept w1 wr ∧ ∀ i (h : i < l.length), i < k → (x == l[i]) = false)) (fun i _ => l.length - (intOf i).toNat)
  case atStart => exact ⟨0, Nat.zero_le _, rfl, Lib.hid ⟨Kept.refl _, fun _ _ h => by omega⟩⟩
  case round =>
    obtain ⟨k, hk, rfl, HR⟩ := hrel
    by_cases hlt : k < l.length
    · obtain ⟨b, off, rfl, hb, hcs⟩ := HM.out.at hlt
      have hcs := hcs.kept (HK1.out.trans HR.out.1)
      have c0 := hcs 0 (by rw [trip_len]; decide)
      have c1 := hcs 1 (by rw [trip_len]; decide)
      have c2 := hcs 2 (by rw [trip_len]; decide)
      simp only [Nat.add_zero, trip, List.getElem_cons_zero, List.getElem_cons_succ] at c0 c1 c2
      clear hcs
      have hix1 : (0 : Int) ≤ (k : Int) := by omega
      have hix2 : (k : Int) < (l.length : Int) := by omega
      have hwr : IntKind.i64.wrap (k : Int) = (k : Int) := IntWalk.i64_in _ (by omega)
      have hS : (fun (W : World) => (W.cell? ⟨X, 0, none⟩ = some (.int .i64 x.1) ∧ W.cell? ⟨X, 1, none⟩ = some (.int .i64 x.2.1) ∧ W.cell? ⟨X, 2, none⟩ = some (.int .i64 x.2.2)) ∧ W.cell? ⟨b, off + k * 3, none⟩ = some (.int .i64 l[k].1) ∧ W.cell? ⟨b, off + k * 3 + 1, none⟩ = some (.int .i64 l[k].2.1) ∧ W.cell? ⟨b, off + k * 3 + 2, none⟩ = some (.int .i64 l[k].2.2)) wr.drew := ⟨⟨HR.out.1.cell' HX.out.1, HR.out.1.cell' HX.out.2.1, HR.out.1.cell' HX.out.2.2⟩, c0, c1, c2⟩
      clear c0 c1 c2
      go_upto_region 4 with fail
      refine wp_region_calm ?_
      refine wp_region_E (fun (W : World) => (W.cell? ⟨X, 0, none⟩ = some (.int .i64 x.1) ∧ W.cell? ⟨X, 1, none⟩ = some (.int .i64 x.2.1) ∧ W.cell? ⟨X, 2, none⟩ = some (.int .i64 x.2.2)) ∧ W.cell? ⟨b, off + k * 3, none⟩ = some (.int .i64 l[k].1) ∧ W.cell? ⟨b, off + k * 3 + 1, none⟩ = some (.int .i64 l[k].2.1) ∧ W.cell? ⟨b, off + k * 3 + 2, none⟩ = some (.int .i64 l[k].2.2)) 100 (by kernel_rfl) ?_
      refine wpAnyE_take (i := 0) (v := .agg #[.int .i64 x.1, .int .i64 x.2.1, .int .i64 x.2.2]) (listed' := #[true, false, false, false, false, false]) (by rfl) (by kernel_rfl) (by kernel_rfl) calm_put hS (by rfl) ?_ ?_
      · intro W hW; obtain ⟨⟨x0, x1, x2⟩, c0, c1, c2⟩ := hW; go_simp; try (with_reducible rfl)
      simp only [Act.put, List.getElem_toArray, List.getElem_cons_succ, List.getElem_cons_zero, List.setIfInBounds_toArray, List.set_cons_zero, List.set_cons_succ]
      refine wpAnyE_take (i := 1) (v := ?_) (listed' := #[true, true, false, false, false, false]) (by rfl) (by kernel_rfl) (by kernel_rfl) calm_put hS (by rfl) ?_ ?_
      rotate_left
      · intro W hW; clear hW; go_simp; try (with_reducible rfl)
      simp only [Act.put, List.getElem_toArray, List.getElem_cons_succ, List.getElem_cons_zero, List.setIfInBounds_toArray, List.set_cons_zero, List.set_cons_succ]
      refine wpAnyE_take (i := 2) (v := ?_) (listed' := #[true, true, true, false, false, false]) (by rfl) (by kernel_rfl) (by kernel_rfl) calm_put hS (by rfl) ?_ ?_
      rotate_left
      · intro W hW; clear hW; go_simp; try (with_reducible rfl)
      simp only [Act.put, List.getElem_toArray, List.getElem_cons_succ, List.getElem_cons_zero, List.setIfInBounds_toArray, List.set_cons_zero, List.set_cons_succ]
      refine wpAnyE_take (i := 3) (v := .pointer (some ⟨b, off + k * 3, none⟩)) (listed' := #[true, true, true, true, false, false]) (by rfl) (by kernel_rfl) (by kernel_rfl) calm_put hS (by rfl) ?_ ?_
      · intro W hW; clear hW; go_simp; try (with_reducible rfl)
      simp only [Act.put, List.getElem_toArray, List.getElem_cons_succ, List.getElem_cons_zero, List.setIfInBounds_toArray, List.set_cons_zero, List.set_cons_succ]
      refine wpAnyE_take (i := 4) (v := .agg #[.int .i64 l[k].1, .int .i64 l[k].2.1, .int .i64 l[k].2.2]) (listed' := #[true, true, true, true, true, false]) (by rfl) (by kernel_rfl) (by kernel_rfl) calm_put hS (by rfl) ?_ ?_
      · intro W hW; obtain ⟨⟨x0, x1, x2⟩, c0, c1, c2⟩ := hW; go_simp; try (with_reducible rfl)
      simp only [Act.put, List.getElem_toArray, List.getElem_cons_succ, List.getElem_cons_zero, List.setIfInBounds_toArray, List.set_cons_zero, List.set_cons_succ]
      refine wpAnyE_take (i := 5) (v := .bool (x == l[k])) (listed' := #[true, true, true, true, true, true]) (by rfl) (by kernel_rfl) (by kernel_rfl) calm_put hS (by rfl) ?_ ?_
      · intro W hW; clear hW; exact exec_eq_whr _ _ rfl x l[k] rfl rfl
      simp only [Act.put, List.getElem_toArray, List.getElem_cons_succ, List.getElem_cons_zero, List.setIfInBounds_toArray, List.set_cons_zero, List.set_cons_succ]
      refine wpAnyE_done (by kernel_rfl) ?_ _
      refine calm_normal ?_
      clear hS
      have HD := Lib.hid (show Kept w1 wr.drew from HR.out.1.drew)
      generalize wr.drew = wd at *
      clear hix1 hix2 hwr
      cases he : (x == l[k]) with
      | true =>
        have HE := Lib.hid he; clear he
        go_wp2
        go_ret
        exact ⟨by rw [idxP_hit hlt HR.out.2 HE.out]; rfl, HK1.out.trans HD.out⟩
      | false =>
        have HE := Lib.hid he; clear he
        go_wp2
        go_roundw
        case rel => exact ⟨k + 1, by omega, by go_num, Lib.hid ⟨HD.out, fun i h hi => by
          rcases Nat.lt_or_ge i k with h' | h'
          · exact HR.out.2 i h h'
          · obtain rfl : i = k := by omega
            exact HE.out⟩⟩
        case measure => simp [intOf]; omega
    · go_wp2
      go_ret
      exact ⟨by rw [idxP_miss (fun i h => HR.out.2 i h (by omega))]; rfl, HK1.out.trans HR.out.1⟩
theorem any_contains {α : Type} [BEq α] (x : α) (l : List α) : decide (0 ≤ idxP (fun y => x == y) l) = l.contains x := by rw [idxP_any, List.any_beq]
theorem sl_Contains_w (x : Wh) (l : List Wh) (v : Value) (w : World) (hlen : l.length ≤ 4096) (hm : RSl trip 3 w v l) :
    Calls Tryz.prog 80 #[v, .agg (trip x).toArray] w fun e w' => e = .returned (.bool (l.contains x)) ∧ Kept w w' := by
  have hI := fun (W : World) (hk : Kept w W) => sl_Index_w x l v W hlen (hm.kept hk)
  have HI := Lib.hid hI; clear hI hm
  rw [← any_contains]
  simp only [trip] at HI ⊢
  have hB : ∀ o, Kept w (w.alloc o) := fun o => (Kept.refl _).alloc o
  have HB := Lib.hid hB; clear hB
  generalize idxP (fun y => x == y) l = r at *
  go_enter Tryz.func80, Tryz.ntmps80
  go_wp2_with (go_at_call 110; refine (HI.out _ (HB.out _)).mono ?_; rintro e w' ⟨rfl, hk⟩)
  go_ret
  exact ⟨rfl, (HB.out _).trans hk⟩
theorem sl_Index_i (x : Int) (l : List Int) (v : Value) (w : World) (hlen : l.length ≤ 4096) (hm : RSl oneV 1 w v l) :
    Calls Tryz.prog 119 #[v, .int .i64 x] w fun e w' => e = .returned (.int .i64 (idxP (fun y => x == y) l)) ∧ Kept w w' := by
  obtain ⟨oa, cap, rfl, hcap⟩ := hm.form
  have HM := Lib.hid hm; clear hm
  go_enter Tryz.func119, Tryz.ntmps119
  go_wp2
  go_loopw [8] (fun i wr => ∃ k : Nat, k ≤ l.length ∧ i = .int .i64 (k : Int) ∧ Hid (Kept w wr ∧ ∀ i (h : i < l.length), i < k → (x == l[i]) = false)) (fun i _ => l.length - (intOf i).toNat)
  case atStart => exact ⟨0, Nat.zero_le _, rfl, Lib.hid ⟨Kept.refl _, fun _ _ h => by omega⟩⟩
  case round =>
    obtain ⟨k, hk, rfl, HR⟩ := hrel
    by_cases hlt : k < l.length
    · obtain ⟨b, off, rfl, hb, hcs⟩ := HM.out.at hlt
      have c0 := (hcs.kept HR.out.1) 0 (by rw [oneV_len]; decide)
      simp only [Nat.add_zero, Nat.mul_one, oneV, List.getElem_cons_zero] at c0
      clear hcs
      have hwr : IntKind.i64.wrap (k : Int) = (k : Int) := IntWalk.i64_in _ (by omega)
      have hix1 : (0 : Int) ≤ (k : Int) := by omega
      have hix2 : (k : Int) < (l.length : Int) := by omega
      cases he : (x == l[k]) with
      | true =>
        have HE := Lib.hid he
        go_wp2
        go_ret
        exact ⟨by rw [idxP_hit hlt HR.out.2 HE.out]; rfl, HR.out.1⟩
      | false =>
        have HE := Lib.hid he
        go_wp2
        go_roundw
        case rel => exact ⟨k + 1, by omega, by go_num, Lib.hid ⟨HR.out.1, fun i h hi => by
          rcases Nat.lt_or_ge i k with h' | h'
          · exact HR.out.2 i h h'
          · obtain rfl : i = k := by omega
            exact HE.out⟩⟩
        case measure => simp [intOf]; omega
    · go_wp2
      go_ret
      exact ⟨by rw [idxP_miss (fun i h => HR.out.2 i h (by omega))]; rfl, HR.out.1⟩
theorem sl_Contains_i (x : Int) (l : List Int) (v : Value) (w : World) (hlen : l.length ≤ 4096) (hm : RSl oneV 1 w v l) :
    Calls Tryz.prog 93 #[v, .int .i64 x] w fun e w' => e = .returned (.bool (l.contains x)) ∧ Kept w w' := by
  have hI := sl_Index_i x l v w hlen hm
  have HI := Lib.hid hI; clear hI hm
  rw [← any_contains]
  generalize idxP (fun y => x == y) l = r at *
  go_enter Tryz.func93, Tryz.ntmps93
  go_wp2_with (go_at_call 119; refine HI.out.mono ?_; rintro e w' ⟨rfl, hk⟩)
  go_ret
  exact ⟨rfl, hk⟩
end Go.Proofs.YtiijfocdjcjlaaaGreat
/- Bits of int. -/
namespace Go.Proofs.YtiijfocdjcjlaaaGreat
open Go.RowKit
set_option linter.unusedVariables false

theorem ofInt_nat64 (a : Nat) (h : a < 9223372036854775808) : (BitVec.ofInt 64 (a : Int)).toNat = a := by
  rw [BitVec.toNat_ofInt]; omega

theorem i64_or_nat (a b : Nat) (ha : a < 9223372036854775808) (hb : b < 9223372036854775808) : bits .or .i64 (a : Int) (b : Int) = ((a ||| b : Nat) : Int) := by
  have hx : a ||| b < 2 ^ 63 := Nat.or_lt_two_pow (by omega) (by omega)
  show IntKind.i64.wrap ((BitVec.ofInt 64 (a : Int) ||| BitVec.ofInt 64 (b : Int)).toNat : Int) = _
  rw [BitVec.toNat_or, ofInt_nat64 a ha, ofInt_nat64 b hb, IntKind.wrap_i64]
  omega

theorem i64_shl8_or (y x : Int) (h1 : 0 ≤ y) (h2 : y < 1099511627776) (h3 : 0 ≤ x) (h4 : x ≤ 255) : bits .or .i64 (y * 256) x = y * 256 + x := by
  obtain ⟨Y, rfl⟩ := Int.eq_ofNat_of_zero_le h1
  obtain ⟨X, rfl⟩ := Int.eq_ofNat_of_zero_le h3
  have : ((Y : Int) * 256) = ((Y * 256 : Nat) : Int) := by omega
  rw [this, i64_or_nat _ _ (by omega) (by omega), nat_join 8 _ _ (by omega) (by omega)]
  omega

theorem i64_and_mask (n : Int) (k : Nat) (hk : k ≤ 62) : bits .and .i64 n (2 ^ k - 1) = n % 2 ^ k := by
  show IntKind.i64.wrap ((BitVec.ofInt 64 n &&& BitVec.ofInt 64 (2 ^ k - 1)).toNat : Int) = _
  have hp : 2 ^ k ≤ 2 ^ 62 := Nat.pow_le_pow_right (by decide) hk
  have hp0 : 0 < 2 ^ k := Nat.two_pow_pos k
  have e1 : ((2 : Int) ^ k - 1) = ((2 ^ k - 1 : Nat) : Int) := by
    have : ((2 ^ k : Nat) : Int) = (2 : Int) ^ k := by norm_cast
    omega
  rw [BitVec.toNat_and, e1, ofInt_nat64 _ (by omega), Nat.and_two_pow_sub_one_eq_mod, BitVec.toNat_ofInt, IntKind.wrap_i64]
  have hd : ((2 : Int) ^ k) ∣ 18446744073709551616 := ⟨2 ^ (64 - k), by rw [← Int.pow_add]; rw [show k + (64 - k) = 64 from by omega]; rfl⟩
  have e2 : (((n % ((2 ^ 64 : Nat) : Int)).toNat % 2 ^ k : Nat) : Int) = n % 2 ^ k := by
    have h0 : 0 ≤ n % ((2 ^ 64 : Nat) : Int) := Int.emod_nonneg _ (by decide)
    rw [Int.natCast_emod, Int.toNat_of_nonneg h0]
    have : ((2 ^ k : Nat) : Int) = (2 : Int) ^ k := by norm_cast
    rw [this]
    exact Int.emod_emod_of_dvd n hd
  rw [e2]
  have h1 : 0 ≤ n % 2 ^ k := Int.emod_nonneg _ (by have : ((2 ^ k : Nat) : Int) = (2 : Int) ^ k := by norm_cast
                                                   omega)
  have h2 : n % 2 ^ k < 2 ^ k := Int.emod_lt_of_pos _ (by have : ((2 ^ k : Nat) : Int) = (2 : Int) ^ k := by norm_cast
                                                          omega)
  have h3 : ((2 ^ k : Nat) : Int) = (2 : Int) ^ k := by norm_cast
  omega

end Go.Proofs.YtiijfocdjcjlaaaGreat
/- pack.may, pack.Put, pack.Get. -/
namespace Go.Proofs.YtiijfocdjcjlaaaGreat
open Go.RowKit
set_option linter.unusedVariables false

theorem ty_bytes : ElemT Tryz.prog 59 5 1 1 := by
  obtain ⟨i, h1, h2, h3, h4⟩ := info_parts (P := Tryz.prog) (e := 5) (z := .int .u8 0) (size := 1) (bytes := 1) (by kernel_rfl)
  exact ⟨by kernel_rfl, ⟨i, _, h1, h2, h3, h4, by rfl⟩, by decide⟩

/-- may v be written in width bytes? -/
def mayPut (v width : Int) : Bool := decide (1 ≤ width) && (decide (width ≤ 6) && (decide (0 ≤ v) && (v / 2 ^ (8 * width).toNat == 0)))
theorem mayPut_iff (v width : Int) : mayPut v width = true ↔ 1 ≤ width ∧ width ≤ 6 ∧ 0 ≤ v ∧ v < 2 ^ (8 * width).toNat := by
  have hp : (0 : Int) < 2 ^ (8 * width).toNat := Int.pow_pos (by decide)
  simp only [mayPut, Bool.and_eq_true, decide_eq_true_eq, beq_iff_eq]
  constructor
  · rintro ⟨a, b, c, d⟩
    refine ⟨a, b, c, ?_⟩
    have := Int.lt_ediv_add_one_mul_self v hp
    rw [d] at this; simpa using this
  · rintro ⟨a, b, c, d⟩
    exact ⟨a, b, c, Int.ediv_eq_zero_of_lt c d⟩

set_option maxHeartbeats 400000 in
theorem pack_may (v width : Int) (w : World) :
    Calls Tryz.prog 120 #[.int .i64 v, .int .i64 width] w fun e w' => e = .returned (.bool (mayPut v width)) ∧ w = w' := by
  go_enter Tryz.func120, Tryz.ntmps120
  go_wp2
  · go_ret
    refine ⟨ret_bool ?_, rfl⟩
    simp [mayPut, *]
  · go_ret
    refine ⟨ret_bool ?_, rfl⟩
    have : ¬ 0 ≤ v := by omega
    simp [mayPut, this]
  · go_ret
    refine ⟨ret_bool ?_, rfl⟩
    have : ¬ width ≤ 6 := by omega
    simp [mayPut, this]
  · go_ret
    refine ⟨ret_bool ?_, rfl⟩
    have : ¬ 1 ≤ width := by omega
    simp [mayPut, this]

/-- the k lowest bytes of v, the highest first -/
def beBytes (v : Int) : Nat → List Int
  | 0 => []
  | k + 1 => (v / 2 ^ (8 * k)) % 256 :: beBytes v k
theorem beBytes_length (v : Int) (k : Nat) : (beBytes v k).length = k := by induction k <;> simp_all [beBytes]
def u8s (l : List Int) : List Value := l.map (.int .u8)
theorem u8s_length (l : List Int) : (u8s l).length = l.length := by simp [u8s]
theorem u8s_append (l k : List Int) : u8s (l ++ k) = u8s l ++ u8s k := by simp [u8s]
theorem u8s_one (l : List Int) : ∀ u ∈ u8s l, u.oneCell' = true := by
  intro u hu
  simp only [u8s, List.mem_map] at hu
  obtain ⟨n, _, rfl⟩ := hu
  rfl

theorem pack_may_t (v width : Int) (w : World) (h : mayPut v width = true) :
    Calls Tryz.prog 120 #[.int .i64 v, .int .i64 width] w fun e w' => e = .returned (.bool true) ∧ w = w' :=
  (pack_may v width w).mono fun e w' ⟨he, hw⟩ => ⟨by rw [he, h], hw⟩
theorem pack_may_f (v width : Int) (w : World) (h : mayPut v width = false) :
    Calls Tryz.prog 120 #[.int .i64 v, .int .i64 width] w fun e w' => e = .returned (.bool false) ∧ w = w' :=
  (pack_may v width w).mono fun e w' ⟨he, hw⟩ => ⟨by rw [he, h], hw⟩

set_option maxHeartbeats 800000 in
set_option maxRecDepth 100000 in
theorem pack_PutN (sv : Value) (bs : List Int) (v : Int) (W : Nat) (w : World) (hs : Src w 1 sv bs.length (u8s bs)) (hlen : bs.length ≤ 2147483648) (hm : mayPut v W = true) :
    Calls Tryz.prog 94 #[sv, .int .i64 v, .int .i64 W] w fun e w' =>
      ∃ sv', e = .returned sv' ∧ w'.ownsRow w.heap.size 5 1 sv' (bs.length + W) (u8s (bs ++ beBytes v W)) ∧ Kept w w' := by
  obtain ⟨w1, w6, v0, vp⟩ := (mayPut_iff v W).1 hm
  have hs0 := hs
  obtain ⟨hl, ax, c, rfl, hlc, hnone, hc⟩ := hs
  have HM := Lib.hid hm; clear hm
  have HN := Lib.hid hnone; clear hnone
  have HC := Lib.hid hc; clear hc
  have HS := Lib.hid hs0; clear hs0
  clear hl vp
  go_enter Tryz.func94, Tryz.ntmps94
  go_wp2_with (go_at_call 120; refine (pack_may_t _ _ _ HM.out).mono ?_; rintro e w' ⟨rfl, rfl⟩)
  clear HM
  go_loopw [0, 7] (fun b i wr => ∃ k : Nat, ∃ pre, k ≤ W ∧ i = .int .i64 ((k : Int) - 1) ∧ pre.length + k = W ∧ pre ++ beBytes v k = beBytes v W ∧ App wr w.heap.size 5 1 b (bs.length + pre.length) (u8s (bs ++ pre)) ∧
    (k < W → wr.ownsRow w.heap.size 5 1 b (bs.length + pre.length) (u8s (bs ++ pre))) ∧ Kept w wr) (fun _ i _ => (intOf i + 1).toNat)
  case atStart => exact ⟨W, [], Nat.le_refl _, rfl, by simp, by simp, by simpa using App.full HS.out, fun h => by omega, Kept.refl _⟩
  case round =>
    obtain ⟨k, pre, hk, rfl, hpl, hpre, happ, hown, hbel⟩ := hrel
    have HP := Lib.hid hpre; clear hpre
    have HO := Lib.hid hown; clear hown
    have hsz := hbel.size
    rcases k with _ | k
    · go_wp2
      go_ret
      have hpl' : pre.length = W := by omega
      have hp := HP.out
      simp only [beBytes, List.append_nil] at hp
      subst hp
      rw [hpl'] at HO
      exact ⟨_, rfl, HO.out (by omega), hbel⟩
    · have ka : ∀ o, Kept wr (wr.alloc o) := fun o => (Kept.refl _).alloc o
      have hb1 := beBytes_length v k
      go_wp2_with (at_builtin; refine (id ?roundEnd))
      refine wpList_append_app _ rfl _ _ rfl ty_bytes w.heap.size u0 (bs.length + pre.length) (u8s (bs ++ pre)) rfl (happ.kept (ka _)) _ 1 [.int .u8 (v / 2 ^ (8 * k) % 256)] rfl Src.one (by intro u hu; simp at hu; subst hu; rfl) (by simp only [maxLen]; omega) (by omega) (by simp; omega) ?nx
      intro v' w' happ' _ hb' hown'
      have e1 : u8s (bs ++ pre) ++ [.int .u8 (v / 2 ^ (8 * k) % 256)] = u8s (bs ++ (pre ++ [v / 2 ^ (8 * k) % 256])) := by simp [u8s]
      have e2 : bs.length + pre.length + 1 = bs.length + (pre ++ [v / 2 ^ (8 * k) % 256]).length := by simp; omega
      rw [e1, e2] at happ' hown'
      have HA := Lib.hid happ'; clear happ'
      have HB := Lib.hid hown'; clear hown'
      clear e1 e2 happ HO HC HS HN
      have hk2 : Kept w w' := (hbel.trans (ka _)).below (Nat.le_refl _) hb'
      clear hb'
      go_wp2
      go_roundw
      case rel => exact ⟨k, pre ++ [v / 2 ^ (8 * k) % 256], by omega, by go_num, by simp; omega, by rw [← HP.out]; simp [beBytes], HA.out, fun _ => HB.out (.inl (by omega)), hk2⟩
      case measure => simp [intOf] <;> omega

theorem pack_Put (sv : Value) (bs : List Int) (v width : Int) (w : World) (hs : Src w 1 sv bs.length (u8s bs)) (hlen : bs.length ≤ 2147483648) (hm : mayPut v width = true) :
    Calls Tryz.prog 94 #[sv, .int .i64 v, .int .i64 width] w fun e w' =>
      ∃ sv', e = .returned sv' ∧ w'.ownsRow w.heap.size 5 1 sv' (bs ++ beBytes v width.toNat).length (u8s (bs ++ beBytes v width.toNat)) ∧ Kept w w' := by
  obtain ⟨w1, _⟩ := (mayPut_iff v width).1 hm
  obtain ⟨W, rfl⟩ := Int.eq_ofNat_of_zero_le (show 0 ≤ width by omega)
  refine (pack_PutN sv bs v W w hs hlen hm).mono fun e w' ⟨sv', he, ho, hk⟩ => ⟨sv', he, ?_, hk⟩
  rw [List.length_append, beBytes_length]; exact ho

/-- the number that bytes say, the highest first -/
def beVal (l : List Int) : Int := l.foldl (fun a c => a * 256 + c) 0
theorem beVal_snoc (l : List Int) (c : Int) : beVal (l ++ [c]) = beVal l * 256 + c := by simp [beVal]
def IsByte (c : Int) : Prop := 0 ≤ c ∧ c ≤ 255
theorem beVal_bd (l : List Int) (h : ∀ c ∈ l, IsByte c) : 0 ≤ beVal l ∧ beVal l < 256 ^ l.length := by
  suffices ∀ (r : List Int), (∀ c ∈ r, IsByte c) → 0 ≤ beVal r.reverse ∧ beVal r.reverse < 256 ^ r.length by
    have := this l.reverse (fun c hc => h c (by simpa using hc)); simpa using this
  intro r
  induction r with
  | nil => intro _; simp [beVal]
  | cons c r ih =>
    intro h
    have ih' := ih (fun c hc => h c (by simp [hc]))
    have hc := h c (by simp)
    obtain ⟨a, b⟩ := hc
    rw [List.reverse_cons, beVal_snoc, List.length_cons, Int.pow_succ]
    omega

theorem getD_u8s (bs : List Int) (k : Nat) (h : k < bs.length) : (u8s bs)[k]? = some (.int .u8 (bs.getD k 0)) := by
  simp [u8s, h]

--
--
--
--
--
--
--
--
--
--
--
--
--
--
--
--
--
--
--
--
--
--
--
--
--
--
--
--
--
--
--
--
--
--
--
--
--
--
--
--
--
--
--
--
--
--
--
--
--
--
--
end Go.Proofs.YtiijfocdjcjlaaaGreat
/- Sectors. -/
namespace Go.Proofs.YtiijfocdjcjlaaaGreat
open Go.RowKit
set_option linter.unusedVariables false

/-- a sector of these bytes -/
def secV (bs : List Int) : Value := .agg (u8s bs).toArray
/-- the sector of noughts -/
def zeroB : List Int := List.replicate 64 0
theorem conv_const (w : World) (C : Array Value) (n c : Nat) :
    (convert 59 59 (.slice (some ⟨w.heap.size, 0, none⟩) n c)).run Tryz.prog (w.alloc (.cells C 5)) = .ok (.slice (some ⟨w.heap.size, 0, none⟩) n c) (w.alloc (.cells C 5 (C.size, C.size + 1))) :=
  Lib.run_convert_bytes_const (P := Tryz.prog) w 59 5 C n c Tryz.underlying59 Tryz.underlying5
theorem zeroB_length : zeroB.length = 64 := by simp [zeroB]
theorem ty_sec : AggT Tryz.prog 27 64 := ⟨⟨_, (show Tryz.prog.underlying 27 = some (.array 64 5) by kernel_rfl), rfl⟩, by kernel_rfl⟩
theorem zero_sec : ∀ w, (zeroValue 27).run Tryz.prog w = .ok (.agg (u8s zeroB).toArray) w := fun w => by
  have h1 : (Tryz.prog.info? 27).map (·.zero) = some (some (.agg (u8s zeroB).toArray)) := by kernel_rfl
  cases hi : Tryz.prog.info? 27 with
  | none => simp [hi] at h1
  | some i =>
    have hz : i.zero = some (.agg (u8s zeroB).toArray) := by simpa [hi] using h1
    simp [zeroValue, typeInfo, hi, hz]
theorem run_equal_sec (xs ys : List Int) (hx : xs.length = 64) (hy : ys.length = 64) (w : World) :
    (Op.equalIn 10000 27 (secV xs) (secV ys)).run Tryz.prog w = .ok (xs == ys) w :=
  run_equalIn_ints w 9998 27 5 64 .u8 (by kernel_rfl) (by kernel_rfl) (fun w => by
    obtain ⟨i, h1, _, h3, _⟩ := info_parts (P := Tryz.prog) (e := 5) (z := .int .u8 0) (size := 1) (bytes := 1) (by kernel_rfl)
    simp [sizeOf, typeInfo, h1, h3]) xs ys hx hy
theorem run_equal_secA (xs ys : List Int) (hx : xs.length = 64) (hy : ys.length = 64) (w : World) :
    (Op.equalIn 10000 27 (.agg (u8s xs).toArray) (.agg (u8s ys).toArray)).run Tryz.prog w = .ok (xs == ys) w := run_equal_sec xs ys hx hy w
theorem eqg_sec : Tryz.prog.eqGuardType Tryz.prog.depth 27 = false := by kernel_rfl
theorem u8s_oneA (l : List Int) : (u8s l).toArray.all (·.oneCell') = true := by
  rw [Array.all_eq_true_iff_forall_mem]; intro x hx; exact u8s_one l x (by simpa using hx)
/-- a function whose results are a sector's variable and a number -/
theorem results_sec {fn : Func} {p q : Tmp} (h : fn.results = #[.cell p 27, .tmp q]) (tmps : Array Value) (w : World) (b : Nat) (bs : List Int)
    (hp : tmps.getD p undef = .pointer (some ⟨b, 0, none⟩)) (hc : Cells w b 0 (u8s bs)) (hl : bs.length = 64) :
    (results fn tmps).run Tryz.prog w = .ok (.tuple #[secV bs, tmps.getD q undef]) w := by
  obtain ⟨⟨d, hd1, hd2⟩, hs⟩ := ty_sec
  have hp' : tmps[p]?.getD undef = .pointer (some ⟨b, 0, none⟩) := by simpa using hp
  have hr := run_loadVar_mid (P := Tryz.prog) w b 0 27 (u8s bs) d (rangeAt_of_cells hc) hd1 hd2 (by rw [hs, u8s_length, hl])
  simp [results, h, hp', asAddr, hr, secV]

end Go.Proofs.YtiijfocdjcjlaaaGreat
/- A plug's cells; two plugs compared. -/
namespace Go.Proofs.YtiijfocdjcjlaaaGreat
open Go.RowKit
set_option linter.unusedVariables false
set_option linter.unusedSimpArgs false
set_option maxRecDepth 100000
def plv (p : Plg) : List Value := .bool p.is :: .int .i64 p.group :: .int .i64 p.slot :: (u8s p.data ++ u8s p.par)
structure PlgOk (p : Plg) : Prop where
  data : p.data.length = 64
  par : p.par.length = 64
theorem plv_len {p : Plg} (h : PlgOk p) : (plv p).length = 131 := by simp [plv, u8s_length, h.data, h.par]
theorem plv_one (p : Plg) : ∀ v ∈ plv p, v.oneCell' = true := by
  intro v hv
  simp only [plv, List.mem_cons, List.mem_append] at hv
  rcases hv with rfl | rfl | rfl | h | h
  · rfl
  · rfl
  · rfl
  · exact u8s_one _ v h
  · exact u8s_one _ v h
def zeroPlg : Plg := ⟨false, 0, 0, zeroB, zeroB⟩
theorem zeroPlg_ok : PlgOk zeroPlg := ⟨by simp [zeroPlg, zeroB], by simp [zeroPlg, zeroB]⟩
theorem plug_fields : (Tryz.prog.fieldsOf 29).toList.map (fun f => (f.name, f.type, f.offset)) = [("Is", 4, 0), ("Group", 3, 1), ("Slot", 3, 2), ("Data", 27, 3), ("Parity", 27, 67)] := by kernel_rfl
theorem size_sec (w : World) : (sizeOf 27).run Tryz.prog w = .ok 64 w := by
  obtain ⟨_, hs⟩ := ty_sec
  cases hi : Tryz.prog.info? 27 with
  | none => simp [hi] at hs
  | some i => simp [hi] at hs; simp [sizeOf, typeInfo, hi, hs]
theorem part_data (p : Plg) (h : PlgOk p) (w : World) : (part 27 (plv p).toArray 3).run Tryz.prog w = .ok (.agg (u8s p.data).toArray) w := by
  have hu : Tryz.prog.underlying 27 = some (.array 64 5) := by kernel_rfl
  have e : (plv p).toArray.extract 3 67 = (u8s p.data).toArray := by
    have h1 : (plv p).extract 3 67 = (u8s p.data ++ u8s p.par).take 64 := by simp [plv, List.extract]
    rw [List.extract_toArray, h1, List.take_append_of_le_length (by rw [u8s_length, h.data]; exact Nat.le_refl _), List.take_of_length_le (by rw [u8s_length, h.data]; exact Nat.le_refl _)]
  simp only [part, isAgg, Sem.run_bind, run_underlying hu, Result.andThen_ok, Sem.run_pure, size_sec, if_true, Nat.reduceAdd, e]
theorem part_par (p : Plg) (h : PlgOk p) (w : World) : (part 27 (plv p).toArray 67).run Tryz.prog w = .ok (.agg (u8s p.par).toArray) w := by
  have hu : Tryz.prog.underlying 27 = some (.array 64 5) := by kernel_rfl
  have e : (plv p).toArray.extract 67 131 = (u8s p.par).toArray := by
    have h0 : (plv p) = (.bool p.is :: .int .i64 p.group :: .int .i64 p.slot :: u8s p.data) ++ u8s p.par := by simp [plv]
    have h1 : (plv p).extract 67 131 = (u8s p.par).take 64 := by
      rw [h0, List.extract]
      rw [List.drop_append, List.drop_of_length_le (by simp [u8s_length, h.data])]
      simp [u8s_length, h.data]
    rw [List.extract_toArray, h1, List.take_of_length_le (by rw [u8s_length, h.par]; exact Nat.le_refl _)]
  simp only [part, isAgg, Sem.run_bind, run_underlying hu, Result.andThen_ok, Sem.run_pure, size_sec, if_true, Nat.reduceAdd, e]
theorem run_equal_plg (w : World) (x y : Plg) (hx : PlgOk x) (hy : PlgOk y) : (Op.equalIn 10000 29 (.agg (plv x).toArray) (.agg (plv y).toArray)).run Tryz.prog w = .ok (x.is == y.is && (x.group == y.group && (x.slot == y.slot && (x.data == y.data && x.par == y.par)))) w := by
  have hr := run_equalIn_struct (P := Tryz.prog) w 9999 29 (plv x).toArray (plv y).toArray (by kernel_rfl) (by kernel_rfl)
  rw [hr]
  have hf := plug_fields
  generalize (Tryz.prog.fieldsOf 29).toList = fs at hf ⊢
  rcases fs with _ | ⟨f, _ | ⟨g, _ | ⟨h, _ | ⟨i, _ | ⟨j, _ | ⟨k, fs⟩⟩⟩⟩⟩⟩
  · simp at hf
  · simp at hf
  · simp at hf
  · simp at hf
  · simp at hf
  · simp only [List.map_cons, List.map_nil, List.cons.injEq, Prod.mk.injEq, and_true] at hf
    obtain ⟨⟨f1, f2, f3⟩, ⟨g1, g2, g3⟩, ⟨h1, h2, h3⟩, ⟨i1, i2, i3⟩, j1, j2, j3⟩ := hf
    have hi : Tryz.prog.underlying 3 = some (.int .i64) := Tryz.underlying3
    have hb : Tryz.prog.underlying 4 = some .bool := by kernel_rfl
    have pa : ∀ (p : Plg) (ww : World), (part 4 (plv p).toArray 0).run Tryz.prog ww = .ok (.bool p.is) ww := fun p ww => by simp [part, isAgg, run_underlying hb, plv]
    have pb : ∀ (p : Plg) (ww : World), (part 3 (plv p).toArray 1).run Tryz.prog ww = .ok (.int .i64 p.group) ww := fun p ww => by simp [part, isAgg, run_underlying hi, plv]
    have pc : ∀ (p : Plg) (ww : World), (part 3 (plv p).toArray 2).run Tryz.prog ww = .ok (.int .i64 p.slot) ww := fun p ww => by simp [part, isAgg, run_underlying hi, plv]
    have pe : ∀ (x y : Int) (ww : World), (Op.equalIn 9999 3 (.int .i64 x) (.int .i64 y)).run Tryz.prog ww = .ok (x == y) ww := fun x y ww => run_equalIn_int ww 9998 3 .i64 .i64 x y hi
    have pf : ∀ (x y : Bool) (ww : World), (Op.equalIn 9999 4 (.bool x) (.bool y)).run Tryz.prog ww = .ok (x == y) ww := fun x y ww => run_equalIn_bool ww 9998 4 x y hb
    have ps : ∀ (xs ys : List Int) (_ : xs.length = 64) (_ : ys.length = 64) (ww : World), (Op.equalIn 9999 27 (.agg (u8s xs).toArray) (.agg (u8s ys).toArray)).run Tryz.prog ww = .ok (xs == ys) ww := fun xs ys h1 h2 ww =>
      run_equalIn_ints ww 9997 27 5 64 .u8 (by kernel_rfl) (by kernel_rfl) (fun w => by
        obtain ⟨i, h1, _, h3, _⟩ := info_parts (P := Tryz.prog) (e := 5) (z := .int .u8 0) (size := 1) (bytes := 1) (by kernel_rfl)
        simp [sizeOf, typeInfo, h1, h3]) xs ys h1 h2
    simp only [Op.eqFields, f1, f2, f3, g1, g2, g3, h1, h2, h3, i1, i2, i3, j1, j2, j3, Sem.run_bind, pa, pb, pc, pe, pf, part_data _ hx, part_data _ hy, part_par _ hx, part_par _ hy, ps _ _ hx.data hy.data, ps _ _ hx.par hy.par, Result.andThen_ok, Sem.run_ite, Sem.run_pure]
    cases (x.is == y.is) <;> cases (x.group == y.group) <;> cases (x.slot == y.slot) <;> cases (x.data == y.data) <;> cases (x.par == y.par) <;> simp
  · simp at hf
theorem eqg_plg : Tryz.prog.eqGuardType Tryz.prog.depth 29 = false := by kernel_rfl
theorem ty_plg : AggT Tryz.prog 29 131 := ⟨⟨_, Tryz.underlying29, rfl⟩, by kernel_rfl⟩
theorem built_plg (w : World) : (Instr.build 29 #[]).run Tryz.prog w = .ok (.agg (plv zeroPlg).toArray) w := run_build w 29 #[] (plv zeroPlg).toArray (by kernel_rfl)
theorem all_zero (l : List Int) (h : l.length = 64) : (l == zeroB) = l.all (· == 0) := by
  rw [Bool.eq_iff_iff, beq_iff_eq, List.all_eq_true]
  constructor
  · rintro rfl x hx
    have := List.eq_of_mem_replicate hx
    simp [this]
  · intro ha
    apply List.ext_getElem (by simp [zeroB, h])
    intro i h1 h2
    have := ha l[i] (List.getElem_mem _)
    have e : zeroB[i] = 0 := List.eq_of_mem_replicate (List.getElem_mem h2)
    rw [e]
    simpa using this
theorem plg_zero (p : Plg) (h : PlgOk p) : (p.is == zeroPlg.is && (p.group == zeroPlg.group && (p.slot == zeroPlg.slot && (p.data == zeroPlg.data && p.par == zeroPlg.par)))) = (!p.is && zeroP p) := by
  show (p.is == false && (p.group == 0 && (p.slot == 0 && (p.data == zeroB && p.par == zeroB)))) = _
  rw [all_zero _ h.data, all_zero _ h.par, zeroP]
  cases p.is <;> rfl
section
variable {ops : Array Oper} {rest : List Oper} {o : Oper} {a : Act} {w : World} {Q : Exit → Act → World → Prop}
/-- a plug made of noughts -/
theorem wpList_zero_plg (hgd : Region.wanted o (yielded ops a.tmps) = true) (ho : o.op = .build 29 #[]) (h : wpList Tryz.prog ops Q rest (a.put o.dst (.agg (plv zeroPlg).toArray)) w) : wpList Tryz.prog ops Q (o :: rest) a w := by
  refine BigFrame.wpList_want hgd fun K hK => ?_
  unfold Oper.wp execOp
  simp only [ho, List.map_toArray, List.map_nil, Sem.run_bind, built_plg, Result.andThen_ok, Sem.run_pure]
  exact hK _ _ h
/-- two plugs compared -/
theorem wpList_eq_plg (hgd : Region.wanted o (yielded ops a.tmps) = true) (x y : Operand) {t' : TypeId} (ho : o.op = .binOp .eql 29 x y t') (p q : Plg) (hp : PlgOk p) (hq : PlgOk q) (hx : a.eval x = .agg (plv p).toArray) (hy : a.eval y = .agg (plv q).toArray)
    (h : wpList Tryz.prog ops Q rest (a.put o.dst (.bool (p.is == q.is && (p.group == q.group && (p.slot == q.slot && (p.data == q.data && p.par == q.par)))))) w) : wpList Tryz.prog ops Q (o :: rest) a w := by
  refine BigFrame.wpList_want hgd fun K hK => ?_
  have heq := run_equal_plg w p q hp hq
  unfold Oper.wp execOp
  simp only [ho, hx, hy, Sem.run_bind]
  rw [run_eqGuard_agg _ _ _ _ _ _ _ eqg_plg]
  simp only [Result.andThen_ok]
  rw [run_eql_struct, heq]
  simp only [Result.andThen_ok, Sem.run_pure]
  exact hK _ _ h
end
end Go.Proofs.YtiijfocdjcjlaaaGreat
/- How many entries a map with int keys has: as many as the list that its keys were taken from has, just if that has none twice. -/
namespace Go.Proofs.YtiijfocdjcjlaaaGreat
open Go.RowKit Go.ChangeMaps Go.MapKept
set_option linter.unusedVariables false
set_option linter.unusedSimpArgs false
theorem nodup_le : ∀ (K L : List Int), K.Nodup → (∀ x ∈ K, x ∈ L) → K.length ≤ L.length
  | [], L, _, _ => Nat.zero_le _
  | x :: K, L, hn, hs => by
    rw [List.nodup_cons] at hn
    have hx := hs x (by simp)
    have h := nodup_le K (L.erase x) hn.2 (fun y hy => (List.mem_erase_of_ne (by rintro rfl; exact hn.1 hy)).2 (hs y (by simp [hy])))
    rw [List.length_erase_of_mem hx] at h
    have : 0 < L.length := List.length_pos_of_mem hx
    simp; omega
theorem apartD_nodup : ∀ l : List Int, apartD l = true ↔ l.Nodup
  | [] => by simp [apartD]
  | a :: l => by rw [apartD, Bool.and_eq_true, apartD_nodup l, List.nodup_cons]; simp
theorem dup_erase : ∀ l : List Int, ¬ l.Nodup → ∃ x, x ∈ l ∧ x ∈ l.erase x
  | [], h => absurd List.nodup_nil h
  | a :: l, h => by
    by_cases ha : a ∈ l
    · exact ⟨a, by simp, by simpa using ha⟩
    · obtain ⟨x, h1, h2⟩ := dup_erase l (fun hn => h (List.nodup_cons.2 ⟨ha, hn⟩))
      have hne : x ≠ a := by rintro rfl; exact ha h1
      refine ⟨x, by simp [h1], ?_⟩
      rw [List.erase_cons, if_neg (by simpa using fun e => hne e.symm)]
      simp [h2]
theorem count_apart (K ds : List Int) (hn : K.Nodup) (hm : ∀ x, x ∈ K ↔ x ∈ ds) : decide (K.length = ds.length) = apartD ds := by
  rw [Bool.eq_iff_iff, decide_eq_true_eq, apartD_nodup]
  constructor
  · intro he
    apply Classical.byContradiction
    intro hd
    obtain ⟨x, h1, h2⟩ := dup_erase ds hd
    have := nodup_le K (ds.erase x) hn (fun y hy => by
      by_cases e : y = x
      · subst e; exact h2
      · exact (List.mem_erase_of_ne e).2 ((hm y).1 hy))
    rw [List.length_erase_of_mem h1] at this
    have := List.length_pos_of_mem h1
    omega
  · intro hd
    exact Nat.le_antisymm (nodup_le _ _ hn fun x hx => (hm x).1 hx) (nodup_le _ _ hd fun x hx => (hm x).2 hx)
def keyI (e : MapEntry) : Int := match e.key with | .int .i64 m => m | _ => 0
theorem keyI_key {e : MapEntry} (h : ∃ n, e.key = .int .i64 n) : e.key = .int .i64 (keyI e) := by
  obtain ⟨n, hn⟩ := h
  simp [keyI, hn]
/-- the number of entries -/
theorem imap_len {P : Program} {w : World} {b m : Nat} {f : Int → Option Value} {t k e : TypeId} (h : IMap w b m f) (ht : P.underlying t = some (.map k e)) (ty : TypeId) (ds : List Int) (hf : ∀ n, (f n).isSome = ds.contains n) :
    ∃ c : Nat, (Builtin.len_ #[t] ty #[.map (some b)]).run P w = .ok (.int .i64 (c : Int)) w ∧ decide (c = ds.length) = apartD ds := by
  obtain ⟨es, clock, hb, hi, _, hl, _⟩ := h
  refine ⟨es.size, by simp [Builtin.len_, run_underlying ht, MapKept.run_getObj_map hb, goInt, Result.andThen], ?_⟩
  have h1 : (es.toList.map keyI).Nodup := by
    have := hi.once
    rw [List.nodup_iff_pairwise_ne, List.pairwise_map]
    rw [List.pairwise_iff_getElem] at this ⊢
    intro i j h1 h2 hij he
    apply this i j h1 h2 hij
    rw [keyI_key (hi.int _ (List.getElem_mem _)), keyI_key (hi.int _ (List.getElem_mem h2)), he]
  have h2 : ∀ x, x ∈ es.toList.map keyI ↔ x ∈ ds := by
    intro x
    have hx := hf x
    rw [hl x, lookE] at hx
    have h3 : (es.toList.find? (keyIs x)).isSome = ds.contains x := by simpa using hx
    rw [Bool.eq_iff_iff, List.find?_isSome] at h3
    rw [List.mem_map]
    constructor
    · rintro ⟨e, he, rfl⟩
      have := h3.1 ⟨e, he, keyIs_iff.2 (keyI_key (hi.int _ he))⟩
      simpa using this
    · intro hd
      obtain ⟨e, he, hk⟩ := h3.2 (by simpa using hd)
      refine ⟨e, he, ?_⟩
      have := keyIs_iff.1 hk
      simp [keyI, this]
  have := count_apart _ ds h1 h2
  simpa using this
section
variable {P : Program} {ops : Array Oper} {rest : List Oper} {o : Oper} {a : Act} {w : World} {Q : Exit → Act → World → Prop} {t k e : TypeId}
theorem wpList_len_map (hgd : Region.wanted o (yielded ops a.tmps) = true) (x : Operand) (ho : o.op = .call { callee := .builtin .len, args := #[x], argTypes := #[t] }) {b c : Nat} (hx : a.eval x = .map (some b))
    (hr : (Builtin.len_ #[t] o.type #[.map (some b)]).run P w = .ok (.int .i64 (c : Int)) w) (h : wpList P ops Q rest (a.put o.dst (.int .i64 (c : Int))) w) : wpList P ops Q (o :: rest) a w := by
  refine BigFrame.wpList_want hgd fun K hK => ?_
  unfold Oper.wp execOp
  simp only [ho, resolve, invoke, builtin, Sem.run_bind, Sem.run_pure, Result.andThen_ok, List.map_toArray, List.map_cons, List.map_nil, hx, hr]
  exact hK _ _ h
end
end Go.Proofs.YtiijfocdjcjlaaaGreat
/- Slices of records that are made: '[]T{x}' with a record of n cells, a slice that grows by records. -/
namespace Go.Proofs.YtiijfocdjcjlaaaGreat
open Go.RowKit
set_option linter.unusedVariables false
set_option linter.unusedSimpArgs false
theorem fill_rec (n : Nat) (cells : Array Value) (xs : List Value) (h0 : 0 < n) (hc : cells.size = n) (hs : xs.length = n) : Instr.fill (fun i => some (i * n, n)) cells [(0, .agg xs.toArray)] = some xs.toArray := by
  obtain ⟨r, hr, hsz, hk⟩ := Great.fill_dense (s := n) h0 [.agg xs.toArray] 0 cells (fun v hv => by rw [List.mem_singleton.1 hv]; show xs.toArray.size = n; rw [List.size_toArray, hs]) (by rw [hc, List.length_singleton]; omega)
  refine hr.trans (congrArg some (Array.ext_getElem? fun k => ?_))
  rw [hk k]
  by_cases h : k < n
  · rw [if_pos ⟨by omega, by show k < (0 + 1) * n; omega⟩, Nat.div_eq_of_lt h, Nat.mod_eq_of_lt h]; rfl
  · rw [if_neg (by show ¬ (0 * n ≤ k ∧ k < (0 + 1) * n); omega), Array.getElem?_eq_none (by omega), Array.getElem?_eq_none (by rw [List.size_toArray, hs]; omega)]
section
variable {P : Program} {ops : Array Oper} {rest : List Oper} {o : Oper} {a : Act} {w : World} {Q : Exit → Act → World → Prop} {T E n bytes : Nat}
/-- '[]T{x}', x of n cells -/
theorem wpList_one_agg (hg : o.guard = none) (x : Operand) (ho : o.op = .buildSlice T 1 #[(0, x)]) (hT : ElemT P T E n bytes) (hn : n ≤ 4096)
    (xs : List Value) (hs : xs.length = n) (hx : a.eval x = .agg xs.toArray)
    (h : ∀ w1, Hid (w1.heap[w.heap.size]? = some (.cells xs.toArray E (0, 0))) → w.heap.size < w1.heap.size → Kept w w1 → wpList P ops Q rest (a.put o.dst (.slice (some ⟨w.heap.size, 0, none⟩) 1 1)) w1) : wpList P ops Q (o :: rest) a w := by
  obtain ⟨ht, ⟨i, z, hi, hz, hsz, hby, hzs⟩, hpos⟩ := hT
  refine wpList_buildSlice hg T E 1 _ ho xs.toArray i z ht hi hz (by rw [hsz]; omega) (by rw [hsz]; omega) ?_ (h _ (Lib.hid (heap_alloc_new w _)) (by simp) ((Kept.refl _).alloc _))
  have he : (#[(0, x)].map fun (i, x) => ((i, a.eval x) : Nat × Value)).toList = [(0, .agg xs.toArray)] := by simp [hx]
  rw [he, hsz]
  exact fill_rec n _ xs hpos (by simp) hs
/-- a record more -/
theorem wpList_push_rec (hgd : o.guard = none) (s x : Operand) (ho : o.op = .call { callee := .builtin .append, args := #[s, x], argTypes := #[T, T] }) (hT : ElemT P T E n bytes) (hby : bytes ≤ 100000)
    {α : Type} (enc : α → List Value) (henc : ∀ x, (enc x).length = n) (base : Nat) (l : List α) (y : α) (h1 : ∀ u ∈ enc y, u.oneCell' = true) (hlen : l.length ≤ 100000) (v : Value) (hs : a.eval s = v) (hv : w.ownsRow base E n v l.length (l.flatMap enc))
    (b : Nat) (hx : a.eval x = .slice (some ⟨b, 0, none⟩) 1 1) (hb : w.heap[b]? = some (.cells (enc y).toArray E (0, 0))) (hbase : base ≤ w.heap.size)
    (h : ∀ v' w', w'.ownsRow base E n v' (l ++ [y]).length ((l ++ [y]).flatMap enc) → w.grownBy w' v.ownBlock → Below base w w' → wpList P ops Q rest (a.put o.dst v') w') : wpList P ops Q (o :: rest) a w := by
  refine wpList_append_app w hgd s x ho hT base v l.length (l.flatMap enc) hs (.inl hv) (.slice (some ⟨b, 0, none⟩) 1 1) 1 (enc y) hx (Src.of_cells (Cells.of_block hb) (by rw [henc]; omega) (Nat.le_refl _)) h1 (by unfold maxLen; omega) (by
    have : (l.length + 1) * bytes ≤ 100001 * 100000 := Nat.mul_le_mul (by omega) hby
    omega) hbase ?_
  intro v' w' _ hg hbl ho
  have := ho (.inl (by omega))
  refine h v' w' ?_ hg hbl
  simpa [List.flatMap_append] using this
end
end Go.Proofs.YtiijfocdjcjlaaaGreat
/- A struct made of two parts that fill it: a row and one cell behind it. -/
namespace Go.Proofs.YtiijfocdjcjlaaaGreat
open Go.RowKit
set_option linter.unusedVariables false
set_option linter.unusedSimpArgs false
theorem foldl_put (off : Nat) : ∀ (xs : List Value) (k : Nat) (cells : Array Value), ∃ r, (xs.zipIdx k).foldl (fun cs (p : Value × Nat) => cs.setIfInBounds (off + p.2) p.1) cells = r ∧ r.size = cells.size ∧
    ∀ i, i < cells.size → r[i]? = if off + k ≤ i ∧ i < off + k + xs.length then xs[i - off - k]? else cells[i]?
  | [], k, cells => ⟨cells, rfl, rfl, fun i hi => by rw [if_neg (by simp)]⟩
  | x :: xs, k, cells => by
    obtain ⟨r, h1, h2, h3⟩ := foldl_put off xs (k + 1) (cells.setIfInBounds (off + k) x)
    refine ⟨r, by rw [List.zipIdx_cons, List.foldl_cons]; exact h1, by rw [h2]; simp, fun i hi => ?_⟩
    rw [h3 i (by simpa using hi)]
    by_cases h4 : off + (k + 1) ≤ i ∧ i < off + (k + 1) + xs.length
    · rw [if_pos h4, if_pos ⟨by omega, by simp; omega⟩]
      have : i - off - k = (i - off - (k + 1)) + 1 := by omega
      rw [this, List.getElem?_cons_succ]
    · rw [if_neg h4, Array.getElem?_setIfInBounds]
      by_cases h5 : off + k = i
      · subst h5
        rw [if_pos rfl, if_pos hi, if_pos ⟨by omega, by simp⟩]
        have : off + k - off - k = 0 := by omega
        rw [this]; rfl
      · rw [if_neg h5, if_neg (by simp; omega)]
theorem fill_row_cell (place : Nat → Option (Nat × Nat)) (n : Nat) (cells : Array Value) (xs : List Value) (v : Value) (hp0 : place 0 = some (0, n)) (hp1 : place 1 = some (n, 1)) (hc : cells.size = n + 1) (hx : xs.length = n) (hv : v.cells = #[v]) :
    Instr.fill place cells [(0, .agg xs.toArray), (1, v)] = some (xs ++ [v]).toArray := by
  obtain ⟨r, h1, h2, h3⟩ := foldl_put 0 xs 0 cells
  obtain ⟨r', g1, g2, g3⟩ := foldl_put n [v] 0 r
  have e1 : (Value.agg xs.toArray).cells = xs.toArray := rfl
  simp only [Instr.fill, hp0, hp1, e1, hv]
  rw [if_neg (by simp [hx, hc])]
  have e2 : xs.toArray.zipIdx.foldl (fun cs (x : Value × Nat) => cs.setIfInBounds (0 + x.2) x.1) cells = r := by
    rw [← h1, ← Array.foldl_toList, Array.toList_zipIdx]
  have e3 : (#[v] : Array Value).zipIdx.foldl (fun cs (x : Value × Nat) => cs.setIfInBounds (n + x.2) x.1) r = r' := by
    rw [← g1, ← Array.foldl_toList, Array.toList_zipIdx]
  show (if (decide ((#[v] : Array Value).size ≠ 1) || decide (n + (#[v] : Array Value).size > (xs.toArray.zipIdx.foldl (fun cs (x : Value × Nat) => cs.setIfInBounds (0 + x.2) x.1) cells).size)) = true then none else some ((#[v] : Array Value).zipIdx.foldl (fun cs (x : Value × Nat) => cs.setIfInBounds (n + x.2) x.1) (xs.toArray.zipIdx.foldl (fun cs (x : Value × Nat) => cs.setIfInBounds (0 + x.2) x.1) cells))) = _
  rw [e2, e3, if_neg (by simp [h2, hc])]
  congr 1
  apply Array.ext_getElem?
  intro i
  rcases Nat.lt_or_ge i (n + 1) with hi | hi
  · rw [g3 i (by omega)]
    by_cases h4 : n + 0 ≤ i ∧ i < n + 0 + [v].length
    · rw [if_pos h4]
      obtain rfl : i = n := by simp at h4; omega
      simp [hx]
    · rw [if_neg h4, h3 i (by omega), if_pos ⟨by omega, by simp at h4; omega⟩]
      have : i < xs.length := by simp at h4; omega
      simp [List.getElem?_append_left this]
  · rw [Array.getElem?_eq_none (by omega), Array.getElem?_eq_none (by simp; omega)]
theorem chk_built (st : List Value) (mb : Nat) (hs : st.length = 136) : Tryz.prog.built 65 [(0, .agg st.toArray), (1, .map (some mb))] = some (st ++ [Value.map (some mb)]).toArray := by
  unfold Program.built
  have hf : ∃ fs : Array Field, Tryz.prog.underlying 65 = some (.struct fs) ∧ fs.toList.mapM (fun f => (Tryz.prog.info? f.type).map fun i => (f.offset, i.size)) = some [(0, 136), (136, 1)] := ⟨_, Tryz.underlying65, by kernel_rfl⟩
  have hz : (Tryz.prog.info? 65).map (fun i => i.zero.map (·.cells.size)) = some (some 137) := by kernel_rfl
  obtain ⟨fs, hu, hp⟩ := hf
  cases hi : Tryz.prog.info? 65 with
  | none => rw [hi] at hz; cases hz
  | some i =>
    rw [hi] at hz
    simp only [Option.map_some, Option.some.injEq] at hz
    cases hzz : i.zero with
    | none => rw [hzz] at hz; cases hz
    | some z =>
      rw [hzz] at hz
      simp only [Option.map_some, Option.some.injEq] at hz
      simp only [hu, hzz, hp]
      exact fill_row_cell _ 136 _ st _ rfl rfl hz hs rfl
section
variable {ops : Array Oper} {rest : List Oper} {o : Oper} {a : Act} {w : World} {Q : Exit → Act → World → Prop}
/-- a checker is made -/
theorem wpList_build_chk (hgd : Region.wanted o (yielded ops a.tmps) = true) (x y : Operand) (ho : o.op = .build 65 #[(0, x), (1, y)]) (st : List Value) (mb : Nat) (hs : st.length = 136) (hx : a.eval x = .agg st.toArray) (hy : a.eval y = .map (some mb))
    (h : wpList Tryz.prog ops Q rest (a.put o.dst (.agg (st ++ [Value.map (some mb)]).toArray)) w) : wpList Tryz.prog ops Q (o :: rest) a w := by
  refine BigFrame.wpList_want hgd fun K hK => ?_
  have hr := run_build w 65 #[(0, Value.agg st.toArray), (1, Value.map (some mb))] _ (chk_built st mb hs)
  unfold Oper.wp execOp
  simp only [ho, List.map_toArray, List.map_cons, List.map_nil, hx, hy, Sem.run_bind, hr, Result.andThen_ok, Sem.run_pure]
  exact hK _ _ h
end
end Go.Proofs.YtiijfocdjcjlaaaGreat
/- A slice that a law or the document owns grows by one element: what that does to the memory. -/
namespace Go.Proofs.YtiijfocdjcjlaaaGreat
open Go.RowKit
set_option linter.unusedVariables false
set_option linter.unusedSimpArgs false

/-- what one append does to the memory -/
def Grw (W W' : World) (v v' : Value) : Prop := (v'.ownBlock = v.ownBlock ∧ But (fun k => v.ownBlock = some k) W W') ∨ (∃ g, v'.ownBlock = some g ∧ W.heap.size ≤ g ∧ g < W'.heap.size ∧ Kept W W')
theorem Grw.size {W W' : World} {v v' : Value} (h : Grw W W' v v') : W.heap.size ≤ W'.heap.size := by
  rcases h with ⟨_, h⟩ | ⟨_, _, _, _, h⟩ <;> exact h.size
theorem Grw.blk {W W' : World} {v v' : Value} (h : Grw W W' v v') {b : Nat} (hb : b < W.heap.size) (hn : v.ownBlock ≠ some b) : W'.heap[b]? = W.heap[b]? := by
  rcases h with ⟨_, h⟩ | ⟨_, _, _, _, h⟩
  · exact h.block b hb hn
  · exact h.block_eq hb
theorem own_lt {w : World} {base e size n : Nat} {v : Value} {xs : List Value} (h : w.ownsRow base e size v n xs) {g : Nat} (hg : v.ownBlock = some g) : g < w.heap.size := by
  rcases h.2 with ⟨rfl, _⟩ | ⟨g', cap, cur, rfl, _, hh, _⟩
  · simp [Value.ownBlock] at hg
  · simp only [Value.ownBlock, Option.some.injEq] at hg
    subst hg
    exact (Array.getElem?_eq_some_iff.1 hh).1
/-- one element more in a slice that is owned -/
theorem own_append {P : Program} {t e size bytes : Nat} (E : ElemT P t e size bytes) {W : World} {v : Value} {n : Nat} {xs : List Value} (hv : W.ownsRow 0 e size v n xs) (hn : n < 20000) (hby : bytes ≤ 1000000) {b : Nat} (es : List Value) (hl : es.length = size)
    (hb : ∀ j u, es[j]? = some u → W.cell? ⟨b, j, none⟩ = some u) (h1 : ∀ u ∈ es, u.oneCell' = true) (ty : TypeId) :
    ∃ v' W', (Builtin.append_ #[t, t] ty #[v, .slice (some ⟨b, 0, none⟩) 1 1]).run P W = .ok v' W' ∧ W'.ownsRow 0 e size v' (n + 1) (xs ++ es) ∧ Grw W W' v v' := by
  have hcb : ∀ j u, es[j]? = some u → W.cell? ((⟨b, 0, none⟩ : Addr).add j) = some u := fun j u hu => by rw [Addr.add_mid, Nat.zero_add]; exact hb j u hu
  have hsrc : Src W size (.slice (some ⟨b, 0, none⟩) 1 1) 1 es := ⟨by omega, _, 1, rfl, Nat.le_refl _, by simp, fun b' hb' j u hu => by cases hb'; exact hcb j u hu⟩
  have hbb : (n + 1) * bytes ≤ 140737488355328 := Nat.le_trans (Nat.mul_le_mul (show n + 1 ≤ 20000 by omega) hby) (by decide)
  have fresh : App W W.heap.size e size v n xs → ∃ v' W', (Builtin.append_ #[t, t] ty #[v, .slice (some ⟨b, 0, none⟩) 1 1]).run P W = .ok v' W' ∧ W'.ownsRow 0 e size v' (n + 1) (xs ++ es) ∧ Grw W W' v v' := by
    intro ha
    obtain ⟨v', W', hr, _, hg, hB, hown⟩ := run_append_app (P := P) W E ty W.heap.size v n xs ha _ 1 _ hsrc h1 (by simp only [maxLen]; omega) hbb (Nat.le_refl _)
    have ho := hown (.inl (by decide))
    refine ⟨v', W', hr, ownsRow_base ho (Nat.zero_le _), ?_⟩
    rcases ho.2 with ⟨_, h0⟩ | ⟨g, c, cur, rfl, hge, hh, _⟩
    · omega
    · exact .inr ⟨g, rfl, hge, (Array.getElem?_eq_some_iff.1 hh).1, ⟨hB.os, hB.tape, hB.output, hB.size, fun k hk => hB.block k hk⟩⟩
  have hv0 := hv
  rcases hv.2 with ⟨rfl, h0⟩ | ⟨g, cap, cur, rfl, hbg, hh, hnc, hcm, hcs, htk⟩
  · have hx : xs = [] := List.eq_nil_of_length_eq_zero (by rw [hv.1, h0, Nat.zero_mul])
    subst hx h0
    exact fresh (App.empty W _ _ _)
  · by_cases hfull : n = cap
    · refine fresh (.inr ⟨hv.1, some ⟨g, 0, none⟩, by rw [hfull], by simp, fun b' hb' j u hu => ?_⟩)
      cases hb'
      have hj : j < xs.length := by
        rcases Nat.lt_or_ge j xs.length with h | h
        · exact h
        · rw [List.getElem?_eq_none h] at hu; cases hu
      have hcl : cur = cur.toList.toArray := by simp
      rw [hcl] at hh
      have hj2 : j < n * size := by rw [← hv.1]; exact hj
      rw [Addr.add_mid, Nat.zero_add, cell_of_row _ _ _ _ _ _ hh, ← hu, ← htk, List.getElem?_take, if_pos hj2]
      simp
    · obtain ⟨ht, ⟨i, z, hi, hz, hsz, hby', hzs⟩, hpos⟩ := E
      obtain ⟨W', hr, ho, hg⟩ := run_append_fits (P := P) (w := W) 0 _ ty _ i size ht hi hsz g n cap xs hv0 ⟨b, 0, none⟩ 1 1 es (by omega) hcb h1 (by omega)
      exact ⟨_, W', hr, ho, .inl ⟨rfl, ⟨hg.os, hg.tape, hg.output, hg.size, fun k hk hne => hg.block k hk (fun e => hne e.symm)⟩⟩⟩
theorem own_form {W : World} {base e sz n : Nat} {v : Value} {xs : List Value} (h : W.ownsRow base e sz v n xs) : ∃ ao cap, v = .slice ao n cap := by
  rcases h.2 with ⟨rfl, h0⟩ | ⟨g, cap, cur, rfl, _⟩
  · exact ⟨none, 0, by rw [h0]⟩
  · exact ⟨_, cap, rfl⟩
/-- what an owned row's cells hold -/
theorem own_cell {W : World} {base e sz n : Nat} {v : Value} {xs : List Value} (h : W.ownsRow base e sz v n xs) (hn : n ≠ 0) : ∃ g cap, v = .slice (some ⟨g, 0, none⟩) n cap ∧ v.ownBlock = some g ∧ (∃ cur, W.heap[g]? = some (.cells cur e (0, 0))) ∧ ∀ j u, xs[j]? = some u → W.cell? ⟨g, j, none⟩ = some u := by
  rcases h.2 with ⟨_, h0⟩ | ⟨g, cap, cur, rfl, hbg, hh, hnc, hcm, hcs, htk⟩
  · exact absurd h0 hn
  · refine ⟨g, cap, rfl, rfl, ⟨cur, hh⟩, fun j u hu => ?_⟩
    have hj : j < xs.length := by
      rcases Nat.lt_or_ge j xs.length with h | h
      · exact h
      · rw [List.getElem?_eq_none h] at hu; cases hu
    have hcl : cur = cur.toList.toArray := by simp
    rw [hcl] at hh
    have hj2 : j < n * sz := by rw [← h.1]; exact hj
    rw [cell_of_row _ _ _ _ _ _ hh, ← hu, ← htk, List.getElem?_take, if_pos hj2]
    simp
/-- it stays where its block stays -/
theorem own_same {W W' : World} {base e sz n : Nat} {v : Value} {xs : List Value} (h : W.ownsRow base e sz v n xs) (hs : ∀ g, v.ownBlock = some g → W'.heap[g]? = W.heap[g]?) : W'.ownsRow base e sz v n xs := by
  refine ⟨h.1, ?_⟩
  rcases h.2 with h0 | ⟨g, cap, cur, rfl, hbg, hh, hr⟩
  · exact .inl h0
  · exact .inr ⟨g, cap, cur, rfl, hbg, (hs g rfl).trans hh, hr⟩
end Go.Proofs.YtiijfocdjcjlaaaGreat
/- XText with more than one last operation: those of ex each wait for every operation that is taken at its turn (stores of one assignment). -/
namespace Go.Proofs.YtiijfocdjcjlaaaGreat
open Go.RowKit
set_option linter.unusedVariables false
section
variable {P : Program} {ops : Array Oper} {Q : Exit → Act → World → Prop} {md : Region.Mode} {S : World → Prop} {ex : Nat → Bool}

def wpAnyX (P : Program) (md : Region.Mode) (ops : Array Oper) (Q : Exit → Act → World → Prop) (S : World → Prop) (ex : Nat → Bool) : Nat → Array Bool → Act → World → Prop
  | 0, listed, a, w => Region.ready md ops listed = [] ∧ Q .normal a w
  | fuel + 1, listed, a, w =>
    (Region.ready md ops listed = [] → Q .normal a w) ∧
    ∀ i ∈ Region.ready md ops listed, wpOp P ops Q i (fun a' w' => (ex i = false → S w') ∧ wpAnyX P md ops Q S ex fuel (listed.setIfInBounds i true) a' w') a w

theorem wpAny_of_X : ∀ (fuel : Nat) (listed : Array Bool) (a : Act) (w : World), wpAnyX P md ops Q S ex fuel listed a w → wpAny P md ops Q fuel listed a w
  | 0, _, _, _, h => h
  | fuel + 1, _, _, _, h => ⟨h.1, fun i hi => wpOp_mono (fun a' w' h' => wpAny_of_X fuel _ a' w' h'.2) (h.2 i hi)⟩

/-- each of ex is another one than i, and waits for it -/
def waitsX (md : Region.Mode) (ops : Array Oper) (ex : Nat → Bool) (i : Nat) : Bool := (List.range ops.size).all fun s => !(ex s) || waits md ops s i

theorem wpAnyX_first {i : Nat} {oi : Oper} {v : Value} (hi : ops[i]? = some oi) (hsel : ∀ (j : Nat) (o : Oper) cs b, ops[j]? = some o → o.op ≠ .select cs b)
    (hQ : ∀ c a w, Q (.panic c) (a.put oi.dst v) w → Q (.panic c) a w) (hsw : waitsX md ops ex i = true) :
    ∀ (fuel : Nat) (listed : Array Bool) (a : Act) (w : World),
      (∀ j oj, ops[j]? = some oj → j ≠ i → listed.getD j true = false → (∀ e ∈ oj.after, Region.binds md e = true → e.on ≠ i) → oi.apart ops oj = true) →
      i ∈ Region.ready md ops listed → YieldsIf P ops S oi v a → S w →
      wpAnyX P md ops Q S ex fuel (listed.setIfInBounds i true) (a.put oi.dst v) w → wpAnyX P md ops Q S ex (fuel + 1) listed a w := by
  have hilt : i < ops.size := (Array.getElem?_eq_some_iff.1 hi).1
  have hall : ∀ s, s < ops.size → ex s = true → waits md ops s i = true := fun s hs he => by
    have := List.all_eq_true.1 hsw s (by simpa using hs)
    rw [he] at this; simpa using this
  have hsi : ex i = false := by
    cases h : ex i with
    | false => rfl
    | true => have := hall i hilt h; simp [waits] at this
  intro fuel
  induction fuel with
  | zero =>
    intro listed a w _ hr hy hS H
    refine ⟨fun h => (by rw [h] at hr; cases hr), fun j hj => ?_⟩
    by_cases hji : j = i
    · subst hji; exact hy.wpOp hi hS ⟨fun _ => hS, H⟩
    · have := ready_mono hj hji
      rw [H.1] at this
      cases this
  | succ fuel ih =>
    intro listed a w hfree hr hy hS H
    refine ⟨fun h => (by rw [h] at hr; cases hr), fun j hj => ?_⟩
    by_cases hji : j = i
    · subst hji; exact hy.wpOp hi hS ⟨fun _ => hS, H⟩
    · obtain ⟨hjun, oj, hoj, hallj⟩ := mem_ready.1 hj
      have hjlt : j < ops.size := (Array.getElem?_eq_some_iff.1 hoj).1
      have hjs : ex j = false := by
        cases h : ex j with
        | false => rfl
        | true => exact absurd hj (waits_not_ready (hall j hjlt h) hr)
      have h1 := H.2 j (ready_mono hj hji)
      have hnot : ∀ e ∈ oj.after, Region.binds md e = true → e.on ≠ i := fun e he hb heq => by
        have h1 := hallj e he hb
        have h0 := (mem_ready.1 hr).1
        rw [heq] at h1
        rcases Nat.lt_or_ge i listed.size with h' | h'
        · simp [h'] at h0 h1; rw [h0] at h1; cases h1
        · simp [Array.getElem?_eq_none h'] at h1
      have h2 := wpOp_putIf hoj (hfree j oj hoj hji hjun hnot) (fun cs b => hsel i oi cs b hi) (fun cs b => hsel j oj cs b hoj) hQ hy h1
      have hfree' : ∀ k ok, ops[k]? = some ok → k ≠ i → (listed.setIfInBounds j true).getD k true = false →
          (∀ e ∈ ok.after, Region.binds md e = true → e.on ≠ i) → oi.apart ops ok = true := fun k ok hk hki hun hno => by
        refine hfree k ok hk hki ?_ hno
        by_cases hjk : j = k
        · subst hjk; exact hjun
        · rw [getD_set_ne true hjk] at hun; exact hun
      refine wpOp_mono (fun a' w' h3 => ⟨h3.2.1, ih (listed.setIfInBounds j true) a' w' hfree' (ready_mono hr (Ne.symm hji)) h3.1 (h3.2.1 hjs) ?_⟩) h2
      rw [Array.setIfInBounds_comm _ _ hji]
      exact h3.2.2

def takesX (md : Region.Mode) (ops : Array Oper) (listed : Array Bool) (ex : Nat → Bool) (i : Nat) : Bool :=
  Region.noSelect ops && (Region.free md ops listed i && ((Region.ready md ops listed).contains i && waitsX md ops ex i))

theorem wpAnyX_take {i : Nat} {oi : Oper} {v : Value} {fuel : Nat} {listed listed' : Array Bool} {a : Act} {w : World} (hi : ops[i]? = some oi)
    (hc : takesX md ops listed ex i = true) (hl : listed.setIfInBounds i true = listed')
    (hQ : ∀ c a w, Q (.panic c) (a.put oi.dst v) w → Q (.panic c) a w) (hS : S w) (hw : Region.wanted oi (yielded ops a.tmps) = true)
    (hy : ∀ w, S w → (execOp a.eval oi).run P w = .ok (.value v) w)
    (h : wpAnyX P md ops Q S ex fuel listed' (a.put oi.dst v) w) : wpAnyX P md ops Q S ex (fuel + 1) listed a w := by
  simp only [takesX, Bool.and_eq_true] at hc
  subst hl
  exact wpAnyX_first hi (Region.noSelect_spec hc.1) hQ hc.2.2.2 fuel listed a w (Region.free_spec hi hc.2.1) (by simpa using hc.2.2.1) (.inl ⟨hw, hy⟩) hS h

theorem wpAnyX_one {i : Nat} {oi : Oper} {fuel : Nat} {listed listed' : Array Bool} {a : Act} {w : World} (hi : ops[i]? = some oi) (hr : Region.ready md ops listed = [i]) (hl : listed.setIfInBounds i true = listed')
    (hw : Region.wanted oi (yielded ops a.tmps) = true)
    (h : ∀ K : Act → World → Prop, (∀ a' w', (ex i = false → S w') → wpAnyX P md ops Q S ex fuel listed' a' w' → K a' w') → oi.wp P a w K Q) : wpAnyX P md ops Q S ex (fuel + 1) listed a w := by
  subst hl
  refine ⟨fun h0 => (by rw [h0] at hr; cases hr), fun j hj => ?_⟩
  rw [hr] at hj
  obtain rfl : j = i := by simpa using hj
  unfold wpOp
  simp only [hi, hw, if_true]
  exact .inl (h _ fun a' w' h1 h2 => ⟨h1, h2⟩)

theorem wpAnyX_done {listed : Array Bool} {a : Act} {w : World} (hr : Region.ready md ops listed = []) (h : Q .normal a w) :
    ∀ fuel, wpAnyX P md ops Q S ex fuel listed a w
  | 0 => ⟨hr, h⟩
  | _ + 1 => ⟨fun _ => h, by rw [hr]; simp⟩

theorem wp_region_X (S : World → Prop) (ex : Nat → Bool) {id : Nat} {a : Act} {w : World} (hm : P.follows .mixedOrders = true)
    (h : wpAnyX P .any ops Q S ex ops.size (Array.replicate ops.size false) a w.drew) : (Code.region id ops true).wp P Q a w :=
  wp_region_any hm (wpAny_of_X _ _ _ _ h)
end
end Go.Proofs.YtiijfocdjcjlaaaGreat
