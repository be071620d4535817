/- ExtentApart: what a law holds beside its map of extents; Add of a member that there is. -/
import Derived.Test.YtglplhmclfekfaaDoorEap
import Derived.Test.YtglplhmclfekfaaDoorMap
import Derived.Great.BuildSlice
namespace Go.Proofs.YtglplhmclfekfaaDoor
open Go.RowKit Go.ChangeMaps Go.MapKept
set_option linter.unusedVariables false
set_option linter.unusedSimpArgs false

/-- a block of cells that is none of a map's of extents, by its type -/
def OthT (t : TypeId) : Prop := t ≠ 51 ∧ t ≠ 76
def Oth (W : World) : Nat → Prop := fun k => ∃ cur t fr, W.heap[k]? = some (.cells cur t fr) ∧ OthT t
theorem oth_ext : OthT 33 := ⟨by decide, by decide⟩
theorem oth_int : OthT 3 := ⟨by decide, by decide⟩
section
variable {w0 W W' : World} {q : Nat} {E : XT}
/-- none of these is the map's -/
theorem XO.some_ (h : XO w0 (fun _ => False) W q E) : XO w0 (Oth W) W q E := by
  obtain ⟨S, ⟨g, blk, X⟩, h2, h3, h4⟩ := h
  have sub : ∀ k, (k = q ∨ k = g ∨ ∃ d, E d ≠ none ∧ k = blk d) → S k := by
    rintro k (rfl | rfl | ⟨d, hd, rfl⟩)
    · exact X.sp
    · exact X.sg
    · exact X.own d hd
  refine ⟨fun k => k = q ∨ k = g ∨ ∃ d, E d ≠ none ∧ k = blk d, ⟨g, blk, X.top, X.gm, X.row, fun d hd => .inr (.inr ⟨d, hd, rfl⟩), X.inj, .inl rfl, .inr (.inl rfl), fun k hk => X.slt k (sub k hk)⟩, h2, fun k hk => h3 k (sub k hk), ?_⟩
  rintro k ⟨cur, t, fr, hb, ht1, ht2⟩
  refine ⟨(Array.getElem?_eq_some_iff.1 hb).1, ?_⟩
  rintro (rfl | rfl | ⟨d, hd, rfl⟩)
  · have h1 := X.top
    rw [hb] at h1
    have h2 : t = 51 := by
      injection h1 with h1; injection h1 with _ h1 _
    exact ht1 h2
  · obtain ⟨_, _, _, hg1, _⟩ := X.gm
    rw [hb] at hg1; cases hg1
  · cases hE : E d with
    | none => exact hd hE
    | some x =>
      obtain ⟨n, s⟩ := x
      obtain ⟨_, _, ws, _, hb2, _⟩ := X.row d n s hE
      rw [hb] at hb2
      have h2 : t = 76 := by
        injection hb2 with h1; injection h1 with _ h1 _
      exact ht2 h2
theorem XO.grownA (h : XO w0 (fun _ => False) W q E) {row : Option Nat} (hg : W.grownBy W' row) (hr : ∀ k, row = some k → Oth W k ∧ w0.heap.size ≤ k) : XO w0 (fun _ => False) W' q E := by
  obtain ⟨S, ⟨g, blk, X⟩, h2, h3, h4⟩ := h.some_
  have hbut : But (fun k => row = some k) W W' := ⟨hg.os, hg.tape, hg.output, hg.size, fun i hi hn => hg.block i hi (fun e => hn e.symm)⟩
  exact ⟨S, ⟨g, blk, X.but hbut fun k hk e => (h4 k (hr k e).1).2 hk⟩, But.to_kept h2 hbut (fun i hi => (hr i hi).2), h3, fun k hk => hk.elim⟩
theorem row_same {base e sz n : Nat} {v : Value} {xs : List Value} (h : W.ownsRow base e sz v n xs) (he : OthT e) (hs : SameR (Oth W) W W') : W'.ownsRow base e sz v n xs := by
  refine ⟨h.1, ?_⟩
  rcases h.2 with h2 | ⟨g, cap, cur, rfl, hg, hh, r⟩
  · exact .inl h2
  · exact .inr ⟨g, cap, cur, rfl, hg, (hs g ⟨cur, e, _, hh, he⟩).trans hh, r⟩
/-- two kinds of rows are in unlike blocks -/
theorem row_other {base e sz n : Nat} {v : Value} {xs : List Value} (h : W.ownsRow base e sz v n xs) {row : Option Nat} {t : TypeId} (ht : t ≠ e) (hg : W.grownBy W' row) (hr : ∀ k, row = some k → ∃ cur fr, W.heap[k]? = some (.cells cur t fr)) : W'.ownsRow base e sz v n xs := by
  refine ⟨h.1, ?_⟩
  rcases h.2 with h2 | ⟨g, cap, cur, rfl, hbg, hh, r⟩
  · exact .inl h2
  · refine .inr ⟨g, cap, cur, rfl, hbg, (hg.block g (Array.getElem?_eq_some_iff.1 hh).1 fun e' => ?_).trans hh, r⟩
    obtain ⟨cur', fr', h'⟩ := hr g e'.symm
    rw [hh] at h'
    injection h' with h'
    injection h' with _ h' _
    exact ht h'.symm
end
/-- the law's extents: a row of its own, or an empty slice without room -/
def HeldA (W : World) (base : Nat) (v : Value) (H : List (Nat × Nat)) : Prop := (H = [] ∧ ∃ ao, v = .slice ao 0 0) ∨ W.ownsRow base 33 2 v H.length (exs H)
section
variable {w0 W W' : World} {q base : Nat} {E : XT} {v : Value} {H : List (Nat × Nat)}
theorem HeldA.same (h : HeldA W base v H) (hs : SameR (Oth W) W W') : HeldA W' base v H := by
  rcases h with h | h
  · exact .inl h
  · exact .inr (row_same h oth_ext hs)
theorem HeldA.kept (h : HeldA W base v H) (hk : Kept W W') : HeldA W' base v H := by
  rcases h with h | h
  · exact .inl h
  · exact .inr (ownsRow_kept h hk)
theorem HeldA.form (h : HeldA W base v H) : ∃ ao cap, v = .slice ao H.length cap := by
  rcases h with ⟨rfl, ao, rfl⟩ | h
  · exact ⟨ao, 0, rfl⟩
  · rcases h.2 with ⟨rfl, h0⟩ | ⟨g, cap, cur, rfl, _⟩
    · exact ⟨none, 0, by rw [h0]⟩
    · exact ⟨_, cap, rfl⟩
/-- where there is one -/
theorem HeldA.held (h : HeldA W base v H) (h0 : H ≠ []) : Held W base v H := by
  rcases h with ⟨h, _⟩ | h
  · exact absurd h h0
  · exact .inr ⟨h0, h⟩
/-- append of one, at the operation -/
theorem wpList_append_held {ops : Array Oper} {rest : List Oper} {o : Oper} {a : Act} {Q : Exit → Act → World → Prop} (hgd : o.guard = none) (s x : Operand) (ho : o.op = .call { callee := .builtin .append, args := #[s, x], argTypes := #[29, 29] })
    (hX : XO w0 (fun _ => False) W q E) (hH : HeldA W base v H) (hb : w0.heap.size ≤ base) (hbW : base ≤ W.heap.size) (hl : H.length ≤ 1000) (hs : a.eval s = v) (b : Nat) (d i : Nat)
    (hx : a.eval x = .slice (some ⟨b, 0, none⟩) 1 1) (hc : Cells W b 0 [Value.int .i64 (d : Int), .int .i64 (114 + (i : Int) * 8)])
    (h : ∀ v' W', XO w0 (fun _ => False) W' q E → HeldA W' base v' (H ++ [(d, i)]) → (∀ e sz n u xs, e ≠ 33 → W.ownsRow base e sz u n xs → W'.ownsRow base e sz u n xs) → Kept w0 W' → wpList Tryd.prog ops Q rest (a.put o.dst v') W') : wpList Tryd.prog ops Q (o :: rest) a W := by
  have hsrc : Src W 2 (.slice (some ⟨b, 0, none⟩) 1 1) 1 (exs [(d, i)]) := Src.of_cells (by simpa [exs] using hc) rfl (Nat.le_refl _)
  rcases hH with ⟨rfl, ao, rfl⟩ | hH
  · refine wpList_append_app _ hgd _ _ ho ty_exts W.heap.size _ 0 [] hs (.inr ⟨rfl, ao, rfl, fun _ => rfl, fun b _ j u hu => by simp at hu⟩) _ 1 (exs [(d, i)]) hx hsrc (exs_one _) (by decide) (by decide) (Nat.le_refl _) ?_
    intro v' W' _ _ hbl hown
    have hk : Kept W W' := hbl
    have ho' := hown (.inl (by decide))
    exact h v' W' (hX.kept hk).1 (.inr (ownsRow_base ho' hbW)) (fun e sz n u xs _ hr => ownsRow_kept hr hk) (hX.keeps.trans hk)
  · refine wpList_append_app _ hgd _ _ ho ty_exts base _ H.length (exs H) hs (.inl hH) _ 1 (exs [(d, i)]) hx hsrc (exs_one _) (by unfold maxLen; omega) (by omega) hbW ?_
    intro v' W' _ hg hbl hown
    have ho' := hown (.inl (by decide))
    have hrow : ∀ k, v.ownBlock = some k → ∃ cur fr, W.heap[k]? = some (.cells cur 33 fr) ∧ base ≤ k := by
      intro k hk
      rcases hH.2 with ⟨rfl, _⟩ | ⟨g, cap, cur, rfl, hbg, hh, _⟩
      · simp [Value.ownBlock] at hk
      · simp only [Value.ownBlock, Option.some.injEq] at hk
        subst hk
        exact ⟨cur, _, hh, hbg⟩
    have hX' := hX.grownA hg (fun k hk => by
      obtain ⟨cur, fr, hh, hbk⟩ := hrow k hk
      exact ⟨⟨cur, _, fr, hh, oth_ext⟩, Nat.le_trans hb hbk⟩)
    refine h v' W' hX' (.inr ?_) (fun e sz n u xs he hr => row_other hr (Ne.symm he) hg fun k hk => ?_) hX'.keeps
    · rw [exs_append, List.length_append]; exact ho'
    · obtain ⟨cur, fr, hh, _⟩ := hrow k hk; exact ⟨cur, fr, hh⟩
end
section
variable {w : World} {q : Nat} {S : Nat → Prop} {E : XT}
set_option maxHeartbeats 1000000
set_option maxRecDepth 100000
theorem ext_Add_state (H : XAt w q S E) (d z : Int) (hd0 : 0 ≤ d) (hz0 : 0 ≤ z) (hz : z ≤ 4096) {n : Nat} {s : Nat → Bool} (hd : E d = some (n, s)) :
    Calls Tryd.prog 7 #[.pointer (some ⟨q, 0, none⟩), .int .i64 d, .int .i64 z] w fun e w' => e = .returned (.int .i64 9) ∧ w = w' := by
  obtain ⟨g, blk, H⟩ := H
  have c0 := H.c0
  have HD := Lib.hid hd; clear hd
  go_enter Tryd.func7, Tryd.ntmps7
  go_wp2_with (at_lookup; refine wpList_mem_some H HD.out rfl _ _ rfl rfl rfl ?_)
  go_ret
  exact ⟨rfl, rfl⟩
end
theorem xo_Add_state {w0 W : World} {R : Nat → Prop} {q : Nat} {E : XT} (h : XO w0 R W q E) (d z : Int) (hd0 : 0 ≤ d) (hz0 : 0 ≤ z) (hz : z ≤ 4096) {n : Nat} {s : Nat → Bool} (hd : E d = some (n, s)) :
    Calls Tryd.prog 7 #[.pointer (some ⟨q, 0, none⟩), .int .i64 d, .int .i64 z] W fun e w' => e = .returned (.int .i64 9) ∧ W = w' := by
  obtain ⟨S, h1, _⟩ := h
  exact ext_Add_state h1 d z hd0 hz0 hz hd
theorem ty_ints : ElemT Tryd.prog 22 3 1 8 := by
  refine ⟨Tryd.underlying22, ?_, by decide⟩
  have h1 : (Tryd.prog.info? 3).map (fun i => (i.zero, i.size, i.bytes)) = some (some (.int .i64 0), 1, 8) := by kernel_rfl
  cases hi : Tryd.prog.info? 3 with
  | none => simp [hi] at h1
  | some i =>
    simp [hi] at h1
    exact ⟨i, _, rfl, h1.1, h1.2.1, h1.2.2, rfl⟩
def natV (zs : List Nat) : List Value := zs.map fun (z : Nat) => Value.int .i64 (z : Int)
theorem natV_len (zs : List Nat) : (natV zs).length = zs.length := by simp [natV]
theorem natV_snoc (zs : List Nat) (z : Nat) : natV (zs ++ [z]) = natV zs ++ [.int .i64 (z : Int)] := by simp [natV]
theorem natV_one (zs : List Nat) : ∀ u ∈ natV zs, u.oneCell' = true := by
  intro u hu; simp only [natV, List.mem_map] at hu; obtain ⟨z, _, rfl⟩ := hu; rfl
/-- a row of numbers, read -/
theorem row_at {W : World} {base : Nat} {v : Value} {zs : List Nat} (h : W.ownsRow base 3 1 v zs.length (natV zs)) {k : Nat} (hk : k < zs.length) : ∃ g cap, v = .slice (some ⟨g, 0, none⟩) zs.length cap ∧ W.cell? ⟨g, k, none⟩ = some (.int .i64 (zs.getD k 0 : Nat)) := by
  rcases owns_form h with ⟨rfl, h0, _⟩ | ⟨g, cap, rfl, hb, hg, hn, hc⟩
  · omega
  · refine ⟨g, cap, rfl, ?_⟩
    have := hc k (by rw [natV_len]; exact hk)
    rw [Nat.zero_add] at this
    rw [this]
    simp [natV, List.getD_eq_getElem?_getD, hk]
theorem size500 (a : Int) : ∃ (y z n : Nat), bits .and .i64 a 1048575 = (y : Int) ∧ (y : Int) % 4097 = (z : Int) ∧ (y : Int).tmod 4097 = (z : Int) ∧ z ≤ 4096 ∧ cntX z = (n : Int) ∧ n ≤ 500 ∧ (114 + 8 * n ≤ z ∨ n = 0) := by
  obtain ⟨y, hand, hy⟩ := and_i64 a 20 (by decide) (m := 1048575) (by decide)
  have hz : y % 4097 < 4097 := Nat.mod_lt _ (by decide)
  refine ⟨y, y % 4097, (cntX ((y % 4097 : Nat) : Int)).toNat, hand, by omega, ?_, by omega, ?_, ?_, ?_⟩
  · rw [Int.tmod_eq_emod_of_nonneg (by omega)]; omega
  · unfold cntX; split <;> omega
  · unfold cntX; split <;> omega
  · unfold cntX; split <;> omega
theorem fill_cellA (cells : Array Value) (v : Value) (hc : cells.size = 1) (hv : v.cells = #[v]) : Instr.fill (fun i => some (i * 1, 1)) cells [(0, v)] = some [v].toArray := by
  obtain ⟨c⟩ := cells
  rcases c with _ | ⟨c0, _ | ⟨c1, c⟩⟩
  · simp at hc
  · simp [Instr.fill, hv]
  · simp at hc
/-- a row of one number, at the operation -/
theorem wpList_one_int {ops : Array Oper} {rest : List Oper} {o : Oper} {a : Act} {w : World} {Q : Exit → Act → World → Prop} (hg : o.guard = none) (x : Operand) (ho : o.op = .buildSlice 22 1 #[(0, x)]) (n : Int) (hx : a.eval x = .int .i64 n)
    (h : ∀ w1, Hid (w1.heap[w.heap.size]? = some (.cells [Value.int .i64 n].toArray 3 (0, 0))) → w.heap.size < w1.heap.size → Kept w w1 → wpList Tryd.prog ops Q rest (a.put o.dst (.slice (some ⟨w.heap.size, 0, none⟩) 1 1)) w1) : wpList Tryd.prog ops Q (o :: rest) a w := by
  have h1 : (Tryd.prog.info? 3).map (fun i => (i.zero, i.size, i.bytes)) = some (some (.int .i64 0), 1, 8) := by kernel_rfl
  cases hi : Tryd.prog.info? 3 with
  | none => simp [hi] at h1
  | some i =>
    simp only [hi, Option.map_some, Option.some.injEq, Prod.mk.injEq] at h1
    refine wpList_buildSlice hg _ 3 1 _ ho [Value.int .i64 n].toArray i _ Tryd.underlying22 hi h1.1 (by rw [h1.2.1]; decide) (by rw [h1.2.1]; decide) ?_ (h _ (Lib.hid (heap_alloc_new w _)) (by simp) ((Kept.refl _).alloc _))
    have he : (#[(0, x)].map fun (i, x) => ((i, a.eval x) : Nat × Value)).toList = [(0, .int .i64 n)] := by simp [hx]
    rw [he, h1.2.1]
    exact fill_cellA _ _ (by simp) rfl
section
variable {w0 W W' : World} {q base : Nat} {E : XT} {v : Value} {zs : List Nat} {H : List (Nat × Nat)}
/-- append of a number to the law's own -/
theorem wpList_append_size {ops : Array Oper} {rest : List Oper} {o : Oper} {a : Act} {Q : Exit → Act → World → Prop} (hgd : o.guard = none) (s x : Operand) (ho : o.op = .call { callee := .builtin .append, args := #[s, x], argTypes := #[22, 22] })
    (hX : XO w0 (fun _ => False) W q E) (hR : W.ownsRow base 3 1 v zs.length (natV zs)) (hb : w0.heap.size ≤ base) (hbW : base ≤ W.heap.size) (hl : zs.length ≤ 1000) (hs : a.eval s = v) (b z : Nat)
    (hx : a.eval x = .slice (some ⟨b, 0, none⟩) 1 1) (hc : Cells W b 0 [Value.int .i64 (z : Int)])
    (h : ∀ v' W', XO w0 (fun _ => False) W' q E → W'.ownsRow base 3 1 v' (zs ++ [z]).length (natV (zs ++ [z])) → wpList Tryd.prog ops Q rest (a.put o.dst v') W') : wpList Tryd.prog ops Q (o :: rest) a W := by
  have hsrc : Src W 1 (.slice (some ⟨b, 0, none⟩) 1 1) 1 (natV [z]) := Src.of_cells hc rfl (Nat.le_refl _)
  refine wpList_append_app _ hgd _ _ ho ty_ints base _ zs.length (natV zs) hs (.inl hR) _ 1 (natV [z]) hx hsrc (natV_one _) (by unfold maxLen; omega) (by omega) hbW ?_
  intro v' W' _ hg hbl hown
  have ho' := hown (.inl (by decide))
  refine h v' W' (hX.grownA hg fun k hk => ?_) (by rw [natV_snoc, List.length_append]; exact ho')
  rcases hR.2 with ⟨rfl, _⟩ | ⟨g, cap, cur, rfl, hbg, hh, _⟩
  · simp [Value.ownBlock] at hk
  · simp only [Value.ownBlock, Option.some.injEq] at hk
    subst hk
    exact ⟨⟨cur, _, _, hh, oth_int⟩, Nat.le_trans hb hbg⟩
theorem row_form {e sz n : Nat} {xs : List Value} (h : W.ownsRow base e sz v n xs) : ∃ ao cap, v = .slice ao n cap := by
  rcases h.2 with ⟨rfl, rfl⟩ | ⟨g, cap, cur, rfl, _⟩
  · exact ⟨_, _, rfl⟩
  · exact ⟨_, _, rfl⟩
theorem HeldA.spliced {w7 w8 : World} {base b6 : Nat} (hb : base ≤ b6) {k : Nat} (hk : k < H.length) {v7 v8 : Value} {X7 : Prop}
    (hA8 : App w8 b6 33 2 v8 (0 + k + (H.length - (k + 1))) ([] ++ exs (H.take k) ++ exs (H.drop (k + 1))))
    (h7 : (0 < k ∨ X7) → w7.ownsRow b6 33 2 v7 (0 + k) ([] ++ exs (H.take k)))
    (h8 : (0 < H.length - (k + 1) ∨ w7.ownsRow b6 33 2 v7 (0 + k) ([] ++ exs (H.take k))) → w8.ownsRow b6 33 2 v8 (0 + k + (H.length - (k + 1))) ([] ++ exs (H.take k) ++ exs (H.drop (k + 1)))) :
    HeldA w8 base v8 (H.eraseIdx k) := by
  have hl : (H.eraseIdx k).length = H.length - 1 := by rw [List.length_eraseIdx, if_pos hk]
  have hn : 0 + k + (H.length - (k + 1)) = (H.eraseIdx k).length := by omega
  have hx : [] ++ exs (H.take k) ++ exs (H.drop (k + 1)) = exs (H.eraseIdx k) := by rw [List.nil_append, ← exs_append, List.eraseIdx_eq_take_drop_succ]
  rw [hn, hx] at hA8 h8
  by_cases he : H.eraseIdx k = []
  · rcases hA8 with h | ⟨_, ao, rfl, _⟩
    · exact .inr (ownsRow_base h hb)
    · exact .inl ⟨he, ao, by rw [he]; rfl⟩
  · refine .inr (ownsRow_base (h8 ?_) hb)
    have : 0 < (H.eraseIdx k).length := List.length_pos_iff.2 he
    by_cases hk0 : 0 < k
    · exact .inr (h7 (.inl hk0))
    · exact .inl (by omega)
end
/-- the members' sizes, and how many extents each has -/
structure SzOk (zs L : List Nat) : Prop where
  len : zs.length = L.length
  at_ : ∀ k, k < L.length → zs.getD k 0 ≤ 4096 ∧ cntX (zs.getD k 0 : Nat) = (L.getD k 0 : Nat) ∧ L.getD k 0 ≤ 500 ∧ (114 + 8 * L.getD k 0 ≤ zs.getD k 0 ∨ L.getD k 0 = 0)
theorem SzOk.nil : SzOk [] [] := ⟨rfl, fun k h => by cases h⟩
theorem SzOk.snoc {zs L : List Nat} (h : SzOk zs L) {z n : Nat} (h1 : z ≤ 4096) (h2 : cntX (z : Int) = (n : Int)) (h3 : n ≤ 500) (h4 : 114 + 8 * n ≤ z ∨ n = 0) : SzOk (zs ++ [z]) (L ++ [n]) := by
  refine ⟨by rw [List.length_append, List.length_append, h.len]; rfl, fun k hk => ?_⟩
  rw [List.length_append, List.length_singleton] at hk
  have hl := h.len
  by_cases e : k < L.length
  · have := h.at_ k e
    rw [List.getD_eq_getElem?_getD, List.getD_eq_getElem?_getD] at this ⊢
    rw [List.getElem?_append_left (by omega), List.getElem?_append_left e]
    exact this
  · obtain rfl : k = L.length := by omega
    rw [List.getD_eq_getElem?_getD, List.getD_eq_getElem?_getD, List.getElem?_append_right (by omega), List.getElem?_append_right (Nat.le_refl _), hl, Nat.sub_self]
    exact ⟨h1, h2, h3, h4⟩
end Go.Proofs.YtglplhmclfekfaaDoor
