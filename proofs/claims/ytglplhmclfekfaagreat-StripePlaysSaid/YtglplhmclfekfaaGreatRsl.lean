/- Slices of sectors in memory, in a block of their own beside a bank. -/
import Derived.Test.YtglplhmclfekfaaGreatFbA
import Derived.Great.BuildSlice
namespace Go.Proofs.YtglplhmclfekfaaGreat
open Go.RowKit
set_option linter.unusedVariables false
set_option linter.unusedSimpArgs false

theorem ty_secs : ElemT Tryz.prog 56 43 64 64 := by
  refine ⟨Tryz.underlying56, ?_, by decide⟩
  have h1 := secs_info
  cases hi : Tryz.prog.info? 43 with
  | none => simp [hi] at h1
  | some i =>
    simp only [hi, Option.map_some, Option.some.injEq, Prod.mk.injEq] at h1
    exact ⟨i, _, rfl, h1.1, h1.2.1, h1.2.2, by decide⟩
/-- the slice v, in a block of its own, reads L -/
def SL (W : World) (v : Value) (L : List (List Int)) : Prop := W.ownsRow 0 43 64 v L.length (secs L) ∧ ∀ s ∈ L, s.length = 64
theorem SL.nil (W : World) : SL W (.slice none 0 0) [] := ⟨World.ownsRow_nil W _ _ _, fun s h => by cases h⟩
theorem SL.kept {W W' : World} {v : Value} {L : List (List Int)} (h : SL W v L) (hk : Kept W W') : SL W' v L := ⟨ownsRow_kept h.1 hk, h.2⟩
theorem SL.same {W W' : World} {v : Value} {L : List (List Int)} (h : SL W v L) (hs : ∀ g, v.ownBlock = some g → W'.heap[g]? = W.heap[g]?) : SL W' v L := ⟨own_same h.1 hs, h.2⟩
theorem SL.form {W : World} {v : Value} {L : List (List Int)} (h : SL W v L) : ∃ ao cap, v = .slice ao L.length cap ∧ ∀ i (hi : i < L.length), ∃ g, ao = some ⟨g, 0, none⟩ ∧ Cells W g (i * 64) (u8s L[i]) ∧ L[i].length = 64 := by
  rcases owns_form h.1 with ⟨rfl, h0, _⟩ | ⟨g, cap, rfl, hb, hg, hn, hc⟩
  · exact ⟨none, 0, by rw [h0], fun i hi => by omega⟩
  · refine ⟨_, cap, rfl, fun i hi => ⟨g, rfl, ?_, h.2 _ (List.getElem_mem _)⟩⟩
    have := cells_sec hc h.2 hi
    rwa [List.getD_eq_getElem?_getD, List.getElem?_eq_getElem hi, Option.getD_some] at this
theorem secs_snoc (L : List (List Int)) (s : List Int) : secs (L ++ [s]) = secs L ++ u8s s := by simp [secs, u8s]
theorem fill_sec (cells : Array Value) (s : List Int) (hc : cells.size = 64) (hs : s.length = 64) : Instr.fill (fun i => some (i * 64, 64)) cells [(0, .agg (u8s s).toArray)] = some (u8s s).toArray := by
  have hl := u8s_length s
  obtain ⟨r, hr, hsz, hk⟩ := Great.fill_dense (s := 64) (by decide) [.agg (u8s s).toArray] 0 cells (fun v hv => by rw [List.mem_singleton.1 hv]; show (u8s s).toArray.size = 64; rw [List.size_toArray, hl, hs]) (by rw [hc, List.length_singleton]; decide)
  refine hr.trans (congrArg some (Array.ext_getElem? fun k => ?_))
  rw [hk k]
  by_cases h : k < 64
  · rw [if_pos ⟨by omega, by show k < (0 + 1) * 64; omega⟩, Nat.div_eq_of_lt h, Nat.mod_eq_of_lt h]; rfl
  · rw [if_neg (by show ¬ (0 * 64 ≤ k ∧ k < (0 + 1) * 64); omega), Array.getElem?_eq_none (by omega), Array.getElem?_eq_none (by rw [List.size_toArray, hl, hs]; omega)]
/-- '[]api.Sector{s}', and what is appended to -/
theorem wpList_one_sec {ops : Array Oper} {rest : List Oper} {o : Oper} {a : Act} {w : World} {Q : Exit → Act → World → Prop} (hg : o.guard = none) (x : Operand) (ho : o.op = .buildSlice 56 1 #[(0, x)])
    (s : List Int) (hs : s.length = 64) (hx : a.eval x = .agg (u8s s).toArray)
    (h : ∀ w1, Hid (w1.heap[w.heap.size]? = some (.cells (u8s s).toArray 43 (0, 0))) → w.heap.size < w1.heap.size → Kept w w1 → wpList Tryz.prog ops Q rest (a.put o.dst (.slice (some ⟨w.heap.size, 0, none⟩) 1 1)) w1) : wpList Tryz.prog ops Q (o :: rest) a w := by
  have h1 := secs_info
  cases hi : Tryz.prog.info? 43 with
  | none => simp [hi] at h1
  | some i =>
    simp only [hi, Option.map_some, Option.some.injEq, Prod.mk.injEq] at h1
    refine wpList_buildSlice hg _ 43 1 _ ho (u8s s).toArray i _ Tryz.underlying56 hi h1.1 (by rw [h1.2.1]; decide) (by rw [h1.2.1]; decide) ?_ (h _ (Lib.hid (heap_alloc_new w _)) (by simp) ((Kept.refl _).alloc _))
    have he : (#[(0, x)].map fun (i, x) => ((i, a.eval x) : Nat × Value)).toList = [(0, .agg (u8s s).toArray)] := by simp [hx]
    rw [he, h1.2.1]
    exact fill_sec _ s (by simp) hs
section
variable {w0 W W' : World} {R : Nat → Prop} {q : Nat} {T : BankT} {v v' : Value}
theorem BK.grw (h : BK w0 R W q T) (hg : Grw W W' v v') (hR : ∀ k, v.ownBlock = some k → R k) (h0 : ∀ k, v.ownBlock = some k → w0.heap.size ≤ k) : BK w0 (fun k => R k ∨ v'.ownBlock = some k) W' q T := by
  rcases hg with ⟨e, hb⟩ | ⟨g, e, h1, h2, hk⟩
  · obtain ⟨Y, hy, h⟩ := h
    refine ⟨Y, hy, ⟨h.d.same fun b hb' => hb.block b (h.d.lt hb') (fun e' => (h.off b (hR b e')).2 hb'), But.to_kept h.keeps hb h0, h.own, fun k hk => ?_⟩⟩
    have hk' : R k := by
      rcases hk with hk | hk
      · exact hk
      · exact hR k (e ▸ hk)
    exact ⟨Nat.lt_of_lt_of_le (h.off k hk').1 hb.size, (h.off k hk').2⟩
  · refine (h.more hk g h1 h2).less fun k hk' => ?_
    rcases hk' with hk' | hk'
    · exact .inl hk'
    · rw [e] at hk'; exact .inr (by injection hk' with hk'; exact hk'.symm)
/-- one sector more in a slice beside the bank -/
theorem wpList_append_sec {ops : Array Oper} {rest : List Oper} {o : Oper} {a : Act} {Q : Exit → Act → World → Prop} (hgd : o.guard = none) (s x : Operand) (ho : o.op = .call { callee := .builtin .append, args := #[s, x], argTypes := #[56, 56] })
    (L : List (List Int)) (hs : a.eval s = v) (hv : SL W v L) (hl : L.length < 20000) (b : Nat) (hx : a.eval x = .slice (some ⟨b, 0, none⟩) 1 1) (z : List Int) (hz : z.length = 64) (hb : W.heap[b]? = some (.cells (u8s z).toArray 43 (0, 0)))
    (h : ∀ v' W', SL W' v' (L ++ [z]) → Grw W W' v v' → wpList Tryz.prog ops Q rest (a.put o.dst v') W') : wpList Tryz.prog ops Q (o :: rest) a W := by
  refine wpList_plain hgd fun K hK => ?_
  obtain ⟨v', W', hr, h1, h2⟩ := own_append ty_secs (b := b) hv.1 hl (by decide) (u8s z) (by rw [u8s_length, hz]) (fun j u hu => by
    have := cell_of_row W b j _ _ _ hb
    rw [this]; simpa using hu) (u8s_one _) o.type
  unfold Oper.wp execOp
  simp only [ho, resolve, invoke, builtin, Sem.run_bind, Sem.run_pure, Result.andThen_ok, List.map_toArray, List.map_cons, List.map_nil, hs, hx, hr]
  refine hK _ _ (h v' W' ⟨by rw [secs_snoc, List.length_append]; exact h1, fun t ht => ?_⟩ h2)
  rcases List.mem_append.1 ht with ht | ht
  · exact hv.2 t ht
  · rw [List.mem_singleton.1 ht]; exact hz
end
end Go.Proofs.YtglplhmclfekfaaGreat
