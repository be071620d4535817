/- A law's own slice of ints that grows one by one, beside its bank. -/
import Derived.Test.YtfnjgcmghfnjhaaDlf
import Derived.Test.YtfnjgcmghfnjhaaDla
import Derived.Laws.OwnMore
namespace Go.Proofs.Ytfnjgcmghfnjhaa
open Go.RowKit
set_option linter.unusedVariables false
set_option linter.unusedSimpArgs false

theorem ty_ints3 : ElemT Try.prog 42 3 1 8 := by
  refine ⟨Try.underlying42, ?_, by decide⟩
  have h1 : (Try.prog.info? 3).map (fun i => (i.zero, i.size, i.bytes)) = some (some (.int .i64 0), 1, 8) := by kernel_rfl
  cases hi : Try.prog.info? 3 with
  | none => simp [hi] at h1
  | some i =>
    simp [hi] at h1
    exact ⟨i, _, rfl, h1.1, h1.2.1, h1.2.2, rfl⟩
def codes (L : List (Nat × Nat)) : List Value := L.map fun p => .int .i64 (code p : Int)
/-- the slice v reads L -/
def RI (W : World) (v : Value) (L : List (Nat × Nat)) : Prop := W.ownsRow 0 3 1 v L.length (codes L)
theorem RI.nil (W : World) : RI W (.slice none 0 0) [] := World.ownsRow_nil W _ _ _
theorem RI.form {W : World} {v : Value} {L : List (Nat × Nat)} (h : RI W v L) : ∃ ao cap, v = .slice ao L.length cap ∧ ∀ i (hi : i < L.length), ∃ g, ao = some ⟨g, 0, none⟩ ∧ v.ownBlock = some g ∧ W.cell? ⟨g, i, none⟩ = some (.int .i64 (code L[i] : Int)) := by
  rcases owns_form h with ⟨rfl, h0, _⟩ | ⟨g, cap, rfl, hb, hg, hn, hc⟩
  · exact ⟨none, 0, by rw [h0], fun i hi => by omega⟩
  · refine ⟨_, cap, rfl, fun i hi => ⟨g, rfl, rfl, ?_⟩⟩
    have := hc i (by simp [codes]; exact hi)
    rw [Nat.zero_add] at this
    rw [this]; simp [codes]
theorem RI.same {W W' : World} {v : Value} {L : List (Nat × Nat)} (h : RI W v L) (hs : ∀ g, v.ownBlock = some g → W'.heap[g]? = W.heap[g]?) : RI W' v L := own_same h hs
theorem RI.kept {W W' : World} {v : Value} {L : List (Nat × Nat)} (h : RI W v L) (hk : Kept W W') : RI W' v L := ownsRow_kept h hk
theorem RI.lt {W : World} {v : Value} {L : List (Nat × Nat)} (h : RI W v L) {g : Nat} (hg : v.ownBlock = some g) : g < W.heap.size := by
  rcases h.2 with ⟨rfl, _⟩ | ⟨g', cap, cur, rfl, _, hh, _⟩
  · simp [Value.ownBlock] at hg
  · simp only [Value.ownBlock, Option.some.injEq] at hg
    subst hg
    exact (Array.getElem?_eq_some_iff.1 hh).1
theorem RI.not {W : World} {v : Value} {L : List (Nat × Nat)} (h : RI W v L) {b : Nat} {cs : Array Value} {t : TypeId} (hb : W.heap[b]? = some (.cells cs t (0, 0))) (ht : t ≠ 3) : v.ownBlock ≠ some b := own_other h hb ht
/-- what one append does to the memory -/
def Grew (W W' : World) (v v' : Value) : Prop := (v'.ownBlock = v.ownBlock ∧ But (fun k => v.ownBlock = some k) W W') ∨ (∃ g, v'.ownBlock = some g ∧ W.heap.size ≤ g ∧ g < W'.heap.size ∧ Kept W W')
theorem Grew.size {W W' : World} {v v' : Value} (h : Grew W W' v v') : W.heap.size ≤ W'.heap.size := by
  rcases h with ⟨_, h⟩ | ⟨_, _, _, _, h⟩ <;> exact h.size
theorem Grew.blk {W W' : World} {v v' : Value} (h : Grew W W' v v') {b : Nat} (hb : b < W.heap.size) (hn : v.ownBlock ≠ some b) : W'.heap[b]? = W.heap[b]? := by
  rcases h with ⟨_, h⟩ | ⟨_, _, _, _, h⟩
  · exact h.block b hb hn
  · exact h.block_eq hb
theorem append_one {W : World} {v : Value} {L : List (Nat × Nat)} (hv : RI W v L) (hl : L.length < 20000) {b : Nat} {p : Nat × Nat} (hb : W.heap[b]? = some (.cells #[.int .i64 (code p : Int)] 3 (0, 0))) (ty : TypeId) :
    ∃ v' W', (Builtin.append_ #[42, 42] ty #[v, .slice (some ⟨b, 0, none⟩) 1 1]).run Try.prog W = .ok v' W' ∧ RI W' v' (L ++ [p]) ∧ Grew W W' v v' := by
  have hcb : ∀ j u, [Value.int .i64 (code p : Int)][j]? = some u → W.cell? ((⟨b, 0, none⟩ : Addr).add j) = some u := by
    intro j u hu
    match j with
    | 0 => simp at hu; subst hu; simpa [Addr.add] using one_cell hb
    | j + 1 => simp at hu
  have hsrc : Src W 1 (.slice (some ⟨b, 0, none⟩) 1 1) 1 [Value.int .i64 (code p : Int)] := ⟨rfl, _, 1, rfl, Nat.le_refl _, by simp, fun b' hb' j u hu => by cases hb'; exact hcb j u hu⟩
  have hc : codes (L ++ [p]) = codes L ++ [Value.int .i64 (code p : Int)] := by simp [codes]
  have fresh : App W W.heap.size 3 1 v L.length (codes L) → (∀ k, v.ownBlock = some k → k < W.heap.size) → ∃ v' W', (Builtin.append_ #[42, 42] ty #[v, .slice (some ⟨b, 0, none⟩) 1 1]).run Try.prog W = .ok v' W' ∧ RI W' v' (L ++ [p]) ∧ Grew W W' v v' := by
    intro ha hob
    obtain ⟨v', W', hr, _, hg, hB, hown⟩ := run_append_app (P := Try.prog) W ty_ints3 ty W.heap.size v L.length (codes L) ha _ 1 _ hsrc (by intro u hu; simp at hu; subst hu; rfl) (by simp only [maxLen]; omega) (by omega) (Nat.le_refl _)
    have ho := hown (.inl (by decide))
    refine ⟨v', W', hr, ?_, ?_⟩
    · unfold RI
      rw [hc, List.length_append]
      exact ownsRow_base ho (Nat.zero_le _)
    · rcases ho.2 with ⟨_, h0⟩ | ⟨g, c, cur, rfl, hge, hh, _⟩
      · omega
      · exact .inr ⟨g, rfl, hge, (Array.getElem?_eq_some_iff.1 hh).1, ⟨hB.os, hB.tape, hB.output, hB.size, fun k hk => hB.block k hk⟩⟩
  have hv0 := hv
  rcases hv.2 with ⟨rfl, h0⟩ | ⟨g, cap, cur, rfl, hbg, hh, hn, hcm, hcs, htk⟩
  · have hL : L = [] := List.eq_nil_of_length_eq_zero h0
    subst hL
    exact fresh (App.empty W _ _ _) (fun k hk => by simp [Value.ownBlock] at hk)
  · by_cases hfull : L.length = cap
    · refine fresh (.inr ⟨by simp [codes], some ⟨g, 0, none⟩, by rw [hfull], by simp, fun b' hb' j u hu => ?_⟩) (fun k hk => hv0.lt hk)
      cases hb'
      have hj : j < (codes L).length := by
        rcases Nat.lt_or_ge j (codes L).length with h | h
        · exact h
        · rw [List.getElem?_eq_none h] at hu; cases hu
      rw [Addr.add_mid, Nat.zero_add, cell_of_row _ _ _ _ _ _ hh, ← hu, ← htk, List.getElem?_take, if_pos (by simp [codes] at hj; omega), Array.getElem?_toList]
    · obtain ⟨ht, ⟨i, z, hi, hz, hsz, hby, hzs⟩, hpos⟩ := ty_ints3
      obtain ⟨W', hr, ho, hg⟩ := run_append_fits (P := Try.prog) (w := W) 0 _ ty _ i 1 ht hi hsz g L.length cap (codes L) hv0 ⟨b, 0, none⟩ 1 1 [Value.int .i64 (code p : Int)] rfl hcb (by intro u hu; simp at hu; subst hu; rfl) (by omega)
      refine ⟨_, W', hr, ?_, .inl ⟨rfl, ⟨hg.os, hg.tape, hg.output, hg.size, fun k hk hne => hg.block k hk (fun e => hne e.symm)⟩⟩⟩
      unfold RI
      rw [hc, List.length_append]
      exact ho
/-- append of one, at the operation -/
theorem wpList_append1 {ops : Array Oper} {rest : List Oper} {o : Oper} {a : Act} {W : World} {Q : Exit → Act → World → Prop} (hgd : o.guard = none) (s x : Operand) (ho : o.op = .call { callee := .builtin .append, args := #[s, x], argTypes := #[42, 42] })
    (v : Value) (L : List (Nat × Nat)) (p : Nat × Nat) (hs : a.eval s = v) (hv : RI W v L) (hl : L.length < 20000) (b : Nat) (hx : a.eval x = .slice (some ⟨b, 0, none⟩) 1 1) (hb : W.heap[b]? = some (.cells #[.int .i64 (code p : Int)] 3 (0, 0)))
    (h : ∀ v' W', RI W' v' (L ++ [p]) → Grew W W' v v' → wpList Try.prog ops Q rest (a.put o.dst v') W') : wpList Try.prog ops Q (o :: rest) a W := by
  refine wpList_plain hgd fun K hK => ?_
  obtain ⟨v', W', hr, h1, h2⟩ := append_one hv hl hb o.type
  unfold Oper.wp execOp
  simp only [ho, resolve, invoke, builtin, Sem.run_bind, Sem.run_pure, Result.andThen_ok, List.map_toArray, List.map_cons, List.map_nil, hs, hx, hr]
  exact hK _ _ (h v' W' h1 h2)
section
variable {w0 W W' : World} {R : Nat → Prop} {q : Nat} {T : BankT} {v v' : Value}
/-- the bank behind an append to a slice that R names -/
theorem BK.grew (h : BK w0 R W q T) (hg : Grew W W' v v') (hR : ∀ k, v.ownBlock = some k → R k) (h0 : ∀ k, v.ownBlock = some k → w0.heap.size ≤ k) : BK w0 (fun k => R k ∨ v'.ownBlock = some k) W' q T := by
  rcases hg with ⟨e, hb⟩ | ⟨g, e, h1, h2, hk⟩
  · obtain ⟨Y, hy, h⟩ := h
    refine ⟨Y, hy, ⟨h.d.same fun b hb' => hb.block b (h.d.lt hb') (fun e' => (h.off b (hR b e')).2 hb'), But.to_kept h.keeps hb h0, h.own, fun k hk => ?_⟩⟩
    have hk' : R k := by
      rcases hk with hk | hk
      · exact hk
      · exact hR k (e ▸ hk)
    exact ⟨Nat.lt_of_lt_of_le (h.off k hk').1 hb.size, (h.off k hk').2⟩
  · refine (h.more hk g h1 h2).less fun k hk' => ?_
    rcases hk' with hk' | hk'
    · exact .inl hk'
    · rw [e] at hk'; exact .inr (by injection hk' with hk'; exact hk'.symm)
end
end Go.Proofs.Ytfnjgcmghfnjhaa
