/- A range over a map with int keys: the laws at the operations, in the words of IMap. -/
import Derived.Test.YtglplhmclfekfaaFrame
import Derived.Maps.Range
import Derived.Maps.RangeWalk
namespace Go.Proofs.Ytglplhmclfekfaa
open Go.RowKit Go.ChangeMaps Go.MapKept
set_option linter.unusedVariables false
set_option linter.unusedSimpArgs false

/-- Block r is a loop's iterator over the map in block b, which reads as f; done: the keys that have come. -/
def IRange (w : World) (b m r : Nat) (f : Int → Option Value) (done : Int → Bool) : Prop :=
  ∃ es clock since seen c0, w.heap[b]? = some (.map es clock) ∧ IntKeys es.toList ∧ es.size ≤ m ∧ (∀ n, f n = lookE es.toList n) ∧ MapKept.Stamped es clock ∧
    w.heap[r]? = some (.mapIter (some b) since seen c0) ∧ (∀ x ∈ es.toList, x.born < since) ∧ (∀ x ∈ es.toList, ∀ n, x.key = .int .i64 n → done n = seen.contains x.born) ∧ since ≤ c0 ∧ since ≤ clock
section
variable {w w' : World} {b m r : Nat} {f : Int → Option Value} {done : Int → Bool}
theorem lookE_some {es : List MapEntry} (h : IntKeys es) {n : Int} {v : Value} : lookE es n = some v ↔ ∃ x ∈ es, x.key = .int .i64 n ∧ x.val = v := by
  unfold lookE
  constructor
  · intro hf
    rw [Option.map_eq_some_iff] at hf
    obtain ⟨x, hx, rfl⟩ := hf
    exact ⟨x, List.mem_of_find?_eq_some hx, keyIs_iff.1 (List.find?_some hx), rfl⟩
  · rintro ⟨x, hx, hk, rfl⟩
    obtain ⟨j, hj, rfl⟩ := List.getElem_of_mem hx
    rw [find_key h hj (keyIs_iff.2 hk)]; rfl
theorem IRange.map (h : IRange w b m r f done) : IMap w b m f := by
  obtain ⟨es, c, s, se, c0, h1, h2, h3, h4, h5, _⟩ := h
  exact ⟨es, c, h1, h2, h3, h4, h5⟩
theorem IRange.lt (h : IRange w b m r f done) : r < w.heap.size := by
  obtain ⟨es, c, s, se, c0, h1, h2, h3, h4, h5, h6, _⟩ := h
  exact (Array.getElem?_eq_some_iff.1 h6).1
theorem IRange.ne (h : IRange w b m r f done) : r ≠ b := by
  obtain ⟨es, c, s, se, c0, h1, h2, h3, h4, h5, h6, _⟩ := h
  intro e; rw [e, h1] at h6; cases h6
theorem IRange.same (h : IRange w b m r f done) (hb : w'.heap[b]? = w.heap[b]?) (hr : w'.heap[r]? = w.heap[r]?) : IRange w' b m r f done := by
  obtain ⟨es, c, s, se, c0, h1, h2, h3, h4, h5, h6, h7⟩ := h
  exact ⟨es, c, s, se, c0, hb.trans h1, h2, h3, h4, h5, hr.trans h6, h7⟩
theorem IRange.kept (h : IRange w b m r f done) (hk : Kept w w') : IRange w' b m r f done := h.same (hk.block_eq h.map.lt) (hk.block_eq h.lt)
theorem IRange.left_same (h : IRange w b m r f done) (hb : w'.heap[b]? = w.heap[b]?) (hr : w'.heap[r]? = w.heap[r]?) : w'.rangeLeft b r = w.rangeLeft b r := by
  unfold World.rangeLeft; rw [hb, hr]
variable {P : Program} {t k e : TypeId}
theorem IMap.range (h : IMap w b m f) (ht : P.underlying t = some (.map k e)) :
    ∃ w', (Instr.range t (.map (some b))).run P w = .ok (.pointer (some ⟨w.heap.size, 0, none⟩)) w' ∧ IRange w' b m w.heap.size f (fun _ => false) ∧ Kept w w' ∧ w'.heap.size = w.heap.size + 1 := by
  have hlt := h.lt
  obtain ⟨es, clock, hb, hi, hs, hf, hst⟩ := h
  refine ⟨_, run_range_map w t k e b es clock ht hb, ⟨es, clock, clock, #[], clock, ((MapKept.heap_alloc w _).2 b hlt).trans hb, hi, hs, hf, hst, (MapKept.heap_alloc w _).1, hst.1, fun x _ n _ => by simp, Nat.le_refl _, Nat.le_refl _⟩, (Kept.refl _).alloc _, by simp⟩
/-- the step -/
theorem IRange.next (h : IRange w b m r f done) (ty : TypeId) :
    ((∀ n v, f n = some v → done n = true) ∧ (Instr.next (.pointer (some ⟨r, 0, none⟩)) false ty).run P w = .ok (.tuple #[.bool false]) w) ∨
    ∃ n v w', f n = some v ∧ done n = false ∧ (Instr.next (.pointer (some ⟨r, 0, none⟩)) false ty).run P w = .ok (.tuple #[.bool true, .int .i64 n, v]) w' ∧
      IRange w' b m r f (fun x => done x || x == n) ∧ w'.rangeLeft b r < w.rangeLeft b r ∧ w.grownBy w' (some r) ∧ w'.heap.size = w.heap.size ∧ (Instr.entry (.pointer (some ⟨r, 0, none⟩))).run P w' = .ok (.tuple #[.int .i64 n, v]) w' := by
  have hne := h.ne
  obtain ⟨es, clock, since, seen, c0, hb, hi, hs, hf, hst, hr, hold, hd, hsc, hsk⟩ := h
  rcases run_next_at (P := P) w ty r b since c0 seen es clock hr hb hold hsc with ⟨h0, hrun⟩ | ⟨x, hx, w1, hal, hrun⟩
  · refine .inl ⟨fun n v hn => ?_, hrun⟩
    rw [hf n, lookE_some hi] at hn
    obtain ⟨y, hy, hyk, _⟩ := hn
    rw [hd y hy n hyk, all_seen es seen h0 y hy]
  · obtain ⟨hem, hes⟩ := mem_left hx
    obtain ⟨n, hn⟩ := hi.int x hem
    have hr1 : w1.heap[r]? = some (.mapIter (some b) since seen c0) := by rcases hal with rfl | rfl <;> exact hr
    have hb1 : w1.heap[b]? = some (.map es clock) := by rcases hal with rfl | rfl <;> exact hb
    have hset := heap_set (o' := .mapIter (some b) since (seen.push x.born) clock) hr1
    have hb' : (setBlock w1 r (.mapIter (some b) since (seen.push x.born) clock)).heap[b]? = some (.map es clock) := (hset.2 b (fun e1 => hne e1.symm)).trans hb1
    have hsi := (MapKept.stamped_iff es clock).1 hst
    refine .inr ⟨n, x.val, _, ?_, (hd x hem n hn).trans hes, by rw [← hn]; exact hrun, ⟨es, clock, since, seen.push x.born, clock, hb', hi, hs, hf, hst, hset.1, hold, fun y hy j hj => ?_, hsk, hsk⟩, ?_, ?_, ?_, ?_⟩
    · rw [hf n, lookE_some hi]; exact ⟨x, hem, hn, rfl⟩
    · show (done j || j == n) = _
      rw [hd y hy j hj, contains_push]
      have e1 : (j == n) = (y.born == x.born) := by
        by_cases hyx : y = x
        · have h1 : j = n := by rw [hyx, hn] at hj; injection hj with _ e; exact e.symm
          rw [h1, hyx]; simp
        · have h1 : ¬ y.born = x.born := fun e1 => hyx (born_inj hsi.2.1 hy hem e1)
          have h2 : ¬ j = n := fun e1 => hyx (entry_eq_of_key hsi.2.2 hy hem (by rw [hj, hn, e1]))
          rw [beq_eq_false_iff_ne.2 h1, beq_eq_false_iff_ne.2 h2]
      rw [e1]
    · have hr2 : (setBlock w1 r (.mapIter (some b) since (seen.push x.born) clock)).heap[r]? = some (.mapIter (some b) since (seen.push x.born) clock) := hset.1
      simp only [World.rangeLeft, hb', hr2, hb, hr]
      exact left_shrinks es seen x hx
    · rcases hal with rfl | rfl <;> exact ⟨rfl, rfl, rfl, by simp [setBlock], fun i _ hi => hset.2 i (fun e1 => hi (by rw [e1]))⟩
    · rcases hal with rfl | rfl <;> simp [setBlock]
    · rw [← hn]; exact run_entry_at _ r b since seen es clock x hset.1 hb' hem hsi.2.1
section
variable (w) {ops : Array Oper} {rest : List Oper} {o : Oper} {a : Act} {Q : Exit → Act → World → Prop}
/-- 'range m', at the operation -/
theorem wpList_range_imap (hg : o.guard = none) (x : Operand) (t : TypeId) (hop : o.op = Op.range t x) (k e : TypeId) (ht : P.underlying t = some (.map k e)) (b m : Nat) (f : Int → Option Value) (hx : a.eval x = .map (some b)) (h : IMap w b m f)
    (hK : ∀ w', IRange w' b m w.heap.size f (fun _ => false) → Kept w w' → w'.heap.size = w.heap.size + 1 → wpList P ops Q rest (a.put o.dst (.pointer (some ⟨w.heap.size, 0, none⟩))) w') : wpList P ops Q (o :: rest) a w := by
  refine wpList_plain hg fun K' hK' => ?_
  obtain ⟨w', hrun, r1, r2, r3⟩ := h.range (P := P) ht
  unfold Oper.wp
  simp [execOp, hop, hx, hrun, Result.andThen]
  exact hK' _ _ (hK w' r1 r2 r3)
/-- the step, at the operation -/
theorem wpList_next_imap (hg : o.guard = none) (it : Operand) (hop : o.op = Op.next it false) (b m r : Nat) (f : Int → Option Value) (done : Int → Bool) (hit : a.eval it = .pointer (some ⟨r, 0, none⟩)) (h : IRange w b m r f done)
    (hDone : (∀ n v, f n = some v → done n = true) → wpList P ops Q rest (a.put o.dst (.tuple #[.bool false])) w)
    (hMore : ∀ (n : Int) (v : Value) (w' : World), f n = some v → done n = false → IRange w' b m r f (fun x => done x || x == n) → w'.rangeLeft b r < w.rangeLeft b r → w.grownBy w' (some r) → w'.heap.size = w.heap.size →
      (Instr.entry (.pointer (some ⟨r, 0, none⟩))).run P w' = .ok (.tuple #[.int .i64 n, v]) w' → wpList P ops Q rest (a.put o.dst (.tuple #[.bool true, .int .i64 n, v])) w') : wpList P ops Q (o :: rest) a w := by
  refine wpList_plain hg fun K' hK' => ?_
  unfold Oper.wp
  rcases h.next (P := P) o.type with ⟨hl, hrun⟩ | ⟨n, v, w', h1, h2, hrun, h3, h4, h5, h6, h7⟩
  · simp [execOp, hop, hit, hrun, Result.andThen]
    exact hK' _ _ (hDone hl)
  · simp [execOp, hop, hit, hrun, Result.andThen]
    exact hK' _ _ (hMore n v w' h1 h2 h3 h4 h5 h6 h7)
end
/-- delete(m, k) in a round, k the key that has come -/
theorem IRange.delete {ty : TypeId} (h : IRange w b m r f done) (ht : P.underlying t = some (.map k e)) (hk : P.underlying k = some (.int .i64)) (n : Int) :
    ∃ w', (Builtin.delete_ #[t, k] ty #[.map (some b), .int .i64 n]).run P w = .ok (.tuple #[]) w' ∧ IRange w' b m r (del f n) done ∧ w'.rangeLeft b r ≤ w.rangeLeft b r ∧ (∃ o, w' = setBlock w b o) := by
  have hne := h.ne
  obtain ⟨es, c, since, seen, c0, hb, hi, hm, hf, hst, hr, hold, hd, hsc, hsk⟩ := h
  have hfk := run_findKey hk n es.toList hi w
  rcases find_cases es.toList n with ⟨h1, h2, h3⟩ | ⟨j, hj, h1, h2, h4⟩
  · rw [h1] at hfk
    refine ⟨setBlock w b (.map es c), ?_, ⟨es, c, since, seen, c0, heap_setBlock_same hb _, hi, hm, fun x => ?_, hst, (heap_setBlock_other hb _ hne).trans hr, hold, hd, hsc, hsk⟩, ?_, _, rfl⟩
    · simp [Builtin.delete_, run_underlying ht, MapKept.run_getObj_map hb, run_checkKey hk, hfk, MapKept.run_setObj_map _ hb, Result.andThen, setBlock]
    · unfold del
      split
      · rename_i hx; subst hx; simp [lookE, h2]
      · exact hf x
    · have e1 := heap_setBlock_same hb (.map es c)
      have e2 := (heap_setBlock_other hb (.map es c) hne).trans hr
      simp only [World.rangeLeft, e1, e2, hb, hr]; exact Nat.le_refl _
  · rw [h1] at hfk
    rw [Option.bind_some, List.getElem?_eq_getElem hj] at hfk
    simp only [Option.map_some] at hfk
    have hja : j < es.size := by simpa using hj
    have hl : (es.eraseIdxIfInBounds j).toList = es.toList.eraseIdx j := by simp
    have hmem : ∀ x ∈ (es.eraseIdxIfInBounds j).toList, x ∈ es.toList := fun x hx => by rw [hl] at hx; exact List.mem_of_mem_eraseIdx hx
    refine ⟨setBlock w b (.map (es.eraseIdxIfInBounds j) c), ?_, ⟨_, c, since, seen, c0, heap_setBlock_same hb _, by rw [hl]; exact hi.erase j, ?_, fun x => ?_, MapKept.stamped_erase hst j, (heap_setBlock_other hb _ hne).trans hr, fun x hx => hold x (hmem x hx), fun x hx => hd x (hmem x hx), hsc, hsk⟩, ?_, _, rfl⟩
    · simp only [Builtin.delete_, Sem.run_bind, run_underlying ht, Result.andThen_ok, MapKept.run_getObj_map hb, run_checkKey hk, hfk, Sem.run_pure, MapKept.run_setObj_map _ hb, setBlock, List.getElem?_toArray, List.getElem?_cons_zero, List.getElem?_cons_succ]
    · rw [← Array.length_toList, hl, List.length_eraseIdx, Array.length_toList]; split <;> omega
    · rw [hl, find_erase hi hj h4]; unfold del; rw [hf x]
    · have e1 := heap_setBlock_same hb (.map (es.eraseIdxIfInBounds j) c)
      have e2 := (heap_setBlock_other hb (.map (es.eraseIdxIfInBounds j) c) hne).trans hr
      have e3 : ∀ a : Array MapEntry, (leftOf a seen).size = (a.toList.filter fun e => !seen.contains e.born).length := fun a => by
        unfold leftOf
        rw [← Array.toList_filter, Array.length_toList]
      simp only [World.rangeLeft, e1, e2, hb, hr]
      rw [e3, e3, hl]
      exact ((List.eraseIdx_sublist _ _).filter _).length_le
end
end Go.Proofs.Ytglplhmclfekfaa
