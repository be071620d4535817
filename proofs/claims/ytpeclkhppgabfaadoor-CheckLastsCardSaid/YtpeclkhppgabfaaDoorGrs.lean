/- A law's own slice that grows one by one, of any elements of one cell, beside its bank. -/
import Derived.Test.YtpeclkhppgabfaaDoorPaH
import Derived.Test.YtpeclkhppgabfaaDoorScn
import Derived.Test.YtpeclkhppgabfaaDoorPaL
namespace Go.Proofs.YtpeclkhppgabfaaDoor
open Go.RowKit
set_option linter.unusedVariables false
set_option linter.unusedSimpArgs false

/-- the slice v, in a block made since w0, holds xs -/
structure OwnG (w0 W : World) (e : TypeId) (v : Value) (xs : List Value) : Prop where
  row : W.ownsRow 0 e 1 v xs.length xs
  new : ∀ k, v.ownBlock = some k → w0.heap.size ≤ k
theorem OwnG.nil (w0 W : World) (e : TypeId) : OwnG w0 W e (.slice none 0 0) [] := ⟨World.ownsRow_nil W _ _ _, fun k h => by simp [Value.ownBlock] at h⟩
section
variable {w0 W W' : World} {e : TypeId} {v v' : Value} {xs : List Value} {R : Nat → Prop} {q : Nat} {T : BankT}
theorem OwnG.kept (h : OwnG w0 W e v xs) (hk : Kept W W') : OwnG w0 W' e v xs := ⟨ownsRow_kept h.row hk, h.new⟩
theorem OwnG.same (h : OwnG w0 W e v xs) (hs : ∀ g, v.ownBlock = some g → W'.heap[g]? = W.heap[g]?) : OwnG w0 W' e v xs := ⟨own_same h.row hs, h.new⟩
theorem OwnG.not (h : OwnG w0 W e v xs) {b : Nat} {cs : Array Value} {t : TypeId} (hb : W.heap[b]? = some (.cells cs t (0, 0))) (ht : t ≠ e) : v.ownBlock ≠ some b := own_other h.row hb ht
theorem OwnG.form (h : OwnG w0 W e v xs) : ∃ ao cap, v = .slice ao xs.length cap ∧ ∀ i (hi : i < xs.length), ∃ g, ao = some ⟨g, 0, none⟩ ∧ W.cell? ⟨g, i, none⟩ = some xs[i] := by
  rcases owns_form h.row with ⟨rfl, h0, _⟩ | ⟨g, cap, rfl, hb, hg, hn, hc⟩
  · exact ⟨none, 0, by rw [h0], fun i hi => by omega⟩
  · refine ⟨_, cap, rfl, fun i hi => ⟨g, rfl, ?_⟩⟩
    have := hc i hi
    rw [Nat.zero_add] at this
    exact this
theorem BK.grwG (h : BK w0 R W q T) (hg : Grw W W' v v') (hR : ∀ k, v.ownBlock = some k → R k) (h0 : ∀ k, v.ownBlock = some k → w0.heap.size ≤ k) : BK w0 (fun k => R k ∨ v'.ownBlock = some k) W' q T := by
  rcases hg with ⟨e, hb⟩ | ⟨g, e, h1, h2, hk⟩
  · obtain ⟨Y, hy, h⟩ := h
    refine ⟨Y, hy, ⟨h.d.same fun b hb' => hb.block b (h.d.lt hb') (fun e' => (h.off b (hR b e')).2 hb'), But.to_kept h.keeps hb h0, h.own, fun k hk => ?_⟩⟩
    have hk' : R k := by
      rcases hk with hk | hk
      · exact hk
      · exact hR k (e ▸ hk)
    exact ⟨Nat.lt_of_lt_of_le (h.off k hk').1 hb.size, (h.off k hk').2⟩
  · refine (h.more hk g h1 h2).less fun k hk' => ?_
    rcases hk' with hk' | hk'
    · exact .inl hk'
    · rw [e] at hk'; exact .inr (by injection hk' with hk'; exact hk'.symm)
theorem OwnG.grown (hw : Kept w0 W) (h : OwnG w0 W e v xs) (hg : Grw W W' v v') {ys : List Value} (hr : W'.ownsRow 0 e 1 v' ys.length ys) : OwnG w0 W' e v' ys := ⟨hr, fun k hk => by
  rcases hg with ⟨e, _⟩ | ⟨g, e, h1, _, _⟩
  · exact h.new k (e ▸ hk)
  · rw [e] at hk; injection hk with hk
    have := hw.size; omega⟩
end
/-- a row of one, at the operation -/
theorem wpList_oneG {ops : Array Oper} {rest : List Oper} {o : Oper} {a : Act} {w : World} {Q : Exit → Act → World → Prop} {t e : TypeId} {z : Value} {by_ : Nat} (hu : Tryd.prog.underlying t = some (.slice e)) (hi0 : (Tryd.prog.info? e).map (fun i => (i.zero, i.size, i.bytes)) = some (some z, 1, by_)) (hby : by_ ≤ 1000)
    (hg : o.guard = none) (x : Operand) (ho : o.op = .buildSlice t 1 #[(0, x)])
    (v : Value) (hv : v.cells = #[v]) (hx : a.eval x = v)
    (h : ∀ w1, Hid (w1.heap[w.heap.size]? = some (.cells [v].toArray e (0, 0))) → w.heap.size < w1.heap.size → Kept w w1 → wpList Tryd.prog ops Q rest (a.put o.dst (.slice (some ⟨w.heap.size, 0, none⟩) 1 1)) w1) : wpList Tryd.prog ops Q (o :: rest) a w := by
  have h1 := hi0
  cases hi : Tryd.prog.info? e with
  | none => simp [hi] at h1
  | some i =>
    simp only [hi, Option.map_some, Option.some.injEq, Prod.mk.injEq] at h1
    refine wpList_buildSlice hg _ e 1 _ ho [v].toArray i _ hu hi h1.1 (by rw [h1.2.1]; decide) (by rw [h1.2.1]; decide) ?_ (h _ (Lib.hid (heap_alloc_new w _)) (by simp) ((Kept.refl _).alloc _))
    have he : (#[(0, x)].map fun (i, x) => ((i, a.eval x) : Nat × Value)).toList = [(0, v)] := by simp [hx]
    rw [he, h1.2.1]
    exact fill_cell _ v (by simp) hv
/-- append of one, at the operation -/
theorem wpList_appendG {ops : Array Oper} {rest : List Oper} {o : Oper} {a : Act} {w0 W : World} {v : Value} {Q : Exit → Act → World → Prop} {t e by_ : Nat} (E : ElemT Tryd.prog t e 1 by_) (hby : by_ ≤ 1000000) (hgd : o.guard = none) (s x : Operand) (ho : o.op = .call { callee := .builtin .append, args := #[s, x], argTypes := #[t, t] })
    (xs : List Value) (hs : a.eval s = v) (hv : OwnG w0 W e v xs) (hl : xs.length < 20000) (b : Nat) (hx : a.eval x = .slice (some ⟨b, 0, none⟩) 1 1) (u : Value) (hu : u.oneCell' = true) (hb : W.heap[b]? = some (.cells [u].toArray e (0, 0))) (hw : Kept w0 W)
    (h : ∀ v' W', OwnG w0 W' e v' (xs ++ [u]) → Grw W W' v v' → wpList Tryd.prog ops Q rest (a.put o.dst v') W') : wpList Tryd.prog ops Q (o :: rest) a W := by
  refine wpList_plain hgd fun K hK' => ?_
  obtain ⟨v', W', hr, h4, h5⟩ := own_append E (b := b) hv.row hl hby [u] rfl (fun j y hy => by
    have := cell_of_row W b j _ _ _ hb
    rw [this]; simpa using hy) (fun y hy => by rw [List.mem_singleton.1 hy]; exact hu) o.type
  unfold Oper.wp execOp
  simp only [ho, resolve, invoke, builtin, Sem.run_bind, Sem.run_pure, Result.andThen_ok, List.map_toArray, List.map_cons, List.map_nil, hs, hx, hr]
  refine hK' _ _ (h v' W' (hv.grown hw h5 (by rw [List.length_append]; exact h4)) h5)
theorem int_infoG : (Tryd.prog.info? 3).map (fun i => (i.zero, i.size, i.bytes)) = some (some (.int .i64 0), 1, 8) := by kernel_rfl
theorem ty_intsG : ElemT Tryd.prog 28 3 1 8 := by
  refine ⟨Tryd.underlying28, ?_, by decide⟩
  have h1 := int_infoG
  cases hi : Tryd.prog.info? 3 with
  | none => simp [hi] at h1
  | some i =>
    simp only [hi, Option.map_some, Option.some.injEq, Prod.mk.injEq] at h1
    exact ⟨i, _, rfl, h1.1, h1.2.1, h1.2.2, rfl⟩
theorem str_infoG : (Tryd.prog.info? 9).map (fun i => (i.zero, i.size, i.bytes)) = some (some (.string ⟨#[]⟩), 1, 16) := by kernel_rfl
theorem ty_strsG : ElemT Tryd.prog 43 9 1 16 := by
  refine ⟨Tryd.underlying43, ?_, by decide⟩
  have h1 := str_infoG
  cases hi : Tryd.prog.info? 9 with
  | none => simp [hi] at h1
  | some i =>
    simp only [hi, Option.map_some, Option.some.injEq, Prod.mk.injEq] at h1
    exact ⟨i, _, rfl, h1.1, h1.2.1, h1.2.2, rfl⟩
end Go.Proofs.YtpeclkhppgabfaaDoor
