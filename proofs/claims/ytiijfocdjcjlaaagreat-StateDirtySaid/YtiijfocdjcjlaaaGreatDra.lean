/- A slice of one's own that grows by a list; slices.Sort and slices.Compact at numbers. -/
import Derived.Test.YtiijfocdjcjlaaaGreatHla
import Derived.Test.YtiijfocdjcjlaaaGreatMso
import Derived.Sort.OwnSortedInts
namespace Go.Proofs.YtiijfocdjcjlaaaGreat
open Go.RowKit Go.ChangeMaps Go.MapKept
set_option linter.unusedVariables false
set_option linter.unusedSimpArgs false
section
variable {α : Type} {enc : α → List Value} {n lo hi : Nat} {W : World} {v : Value} {l : List α} {P : Program} {t e bytes : Nat}
/-- a list is put behind: into the slice's own block, or into a new one -/
theorem own_push (henc : ∀ x, (enc x).length = n) (E : ElemT P t e n bytes) (ty : TypeId) (hO : Own e enc n W lo hi v l) (hhi : hi ≤ W.heap.size) (l2 : List α) (xv : Value) (hx : Src W n xv l2.length (l2.flatMap enc)) (h1 : ∀ u ∈ l2.flatMap enc, u.oneCell' = true)
    (h63 : l.length + l2.length ≤ maxLen) (hbytes : (l.length + l2.length) * bytes ≤ 140737488355328) :
    ∃ v' W' lo' hi', (Builtin.append_ #[t, t] ty #[v, xv]).run P W = .ok v' W' ∧ Own e enc n W' lo' hi' v' (l ++ l2) ∧ hi' ≤ W'.heap.size ∧ ((lo ≤ lo' ∧ hi' ≤ hi) ∨ W.heap.size ≤ lo') ∧ But (fun k => lo ≤ k ∧ k < hi) W W' := by
  have hE := E
  obtain ⟨ht, ⟨i, z, hi', hz, hsz, hby, hzs⟩, hpos⟩ := E
  have hx0 := hx
  obtain ⟨hnl, ax, c, rfl, hmc, hnone, hcells⟩ := hx
  have hfl : (l ++ l2).flatMap enc = l.flatMap enc ++ l2.flatMap enc := List.flatMap_append
  rcases hO with ⟨g, cap, rfl, g1, g2, ho⟩ | ⟨rfl, ao, rfl⟩
  · cases ax with
    | none =>
      obtain ⟨h0, rfl⟩ := hnone rfl
      have hl2 : l2 = [] := List.eq_nil_of_length_eq_zero h0
      subst hl2
      have hr := run_append_owned_none (P := P) (w := W) lo t ty e i n ht hi' _ _ _ ho
      rw [List.append_nil]
      exact ⟨_, W, lo, hi, hr, .inl ⟨g, cap, rfl, g1, g2, ho⟩, hhi, .inl ⟨Nat.le_refl _, Nat.le_refl _⟩, But.refl _ _⟩
    | some b =>
      by_cases hroom : l.length + l2.length ≤ cap
      · obtain ⟨W', hr, ho', hg⟩ := run_append_fits (P := P) (w := W) lo t ty e i n ht hi' hsz g l.length cap _ ho b l2.length c _ hnl (hcells b rfl) h1 hroom
        refine ⟨_, W', lo, hi, hr, .inl ⟨g, cap, by rw [List.length_append], g1, g2, ?_⟩, Nat.le_trans hhi hg.size, .inl ⟨Nat.le_refl _, Nat.le_refl _⟩, ⟨hg.os, hg.tape, hg.output, hg.size, fun k hk hn => hg.block k hk (fun e => hn (by simp [Value.ownBlock] at e; omega))⟩⟩
        rw [List.length_append, hfl]; exact ho'
      · have hlo : lo ≤ W.heap.size := by omega
        obtain ⟨v', W', hr, ho', hg, _⟩ := run_append_own (P := P) W lo t ty e i z n bytes ht hi' hz hsz hby hzs hpos _ _ _ ho b l2.length c _ hnl (hcells b rfl) h1 h63 hbytes hlo
        have hcs : ∀ j u, (l.flatMap enc)[j]? = some u → W.cell? ((⟨g, 0, none⟩ : Addr).add j) = some u := ho.cells (g := g) rfl
        subst hsz
        subst hby
        have hex := run_append_grow (P := P) W t ty e i z ht hi' hz ⟨g, 0, none⟩ l.length cap _ ho.1 hcs b l2.length c _ hnl (hcells b rfl) (by omega) (by simp only [maxLen] at h63; omega) (growslice_fits (by omega) hbytes)
        rw [hex] at hr
        injection hr with e1 e2
        have hk : Kept W W' := by
          rw [← e2]
          exact (Kept.refl W).drew.alloc _
        have hlt : W.heap.size < W'.heap.size := by rw [← e2]; simp
        subst e1
        refine ⟨_, W', W.heap.size, W'.heap.size, by rw [hex, e2], .inl ⟨W.heap.size, _, by rw [List.length_append], Nat.le_refl _, hlt, ?_⟩, Nat.le_refl _, .inr (Nat.le_refl _), But.kept hk⟩
        rw [List.length_append, hfl]
        refine ⟨ho'.1, ?_⟩
        rcases ho'.2 with ⟨hv, _⟩ | ⟨g', cap', cur, hv, _, r⟩
        · cases hv
        · cases hv
          exact .inr ⟨_, _, cur, rfl, Nat.le_refl _, r⟩
  · have ha : App W W.heap.size e n (.slice ao 0 0) 0 (([] : List α).flatMap enc) := .inr ⟨by simp, ao, rfl, fun _ => rfl, fun b hb j u hu => by simp at hu⟩
    obtain ⟨v', W', hr, ha', _, hb, ho'⟩ := run_append_app (P := P) W hE ty W.heap.size _ 0 _ ha _ l2.length _ hx0 h1 (by simpa using h63) (by simpa using hbytes) (Nat.le_refl _)
    have hk : Kept W W' := hb
    refine ⟨v', W', W.heap.size, W'.heap.size, hr, ?_, Nat.le_refl _, .inr (Nat.le_refl _), But.kept hk⟩
    rw [List.nil_append]
    rw [Nat.zero_add] at ha' ho'
    exact Own.of_clone ha' (fun h => ho' (.inl h))
end
/-- .. in a drawn region -/
theorem wp_own_push {α : Type} {enc : α → List Value} {n lo hi : Nat} {w : World} {v : Value} {l : List α} {P : Program} {t e bytes : Nat} {o : Oper} {a : Act} {K : Act → World → Prop} {Q : Exit → Act → World → Prop} (s x : Operand)
    (ho : o.op = .call { callee := .builtin .append, args := #[s, x], argTypes := #[t, t] }) (henc : ∀ x, (enc x).length = n) (E : ElemT P t e n bytes) (hs : a.eval s = v) (hO : Own e enc n w lo hi v l) (hhi : hi ≤ w.heap.size) (l2 : List α) (xv : Value) (hxe : a.eval x = xv) (hx : Src w n xv l2.length (l2.flatMap enc)) (h1 : ∀ u ∈ l2.flatMap enc, u.oneCell' = true)
    (h63 : l.length + l2.length ≤ maxLen) (hbytes : (l.length + l2.length) * bytes ≤ 140737488355328)
    (h : ∀ v' W' lo' hi', Own e enc n W' lo' hi' v' (l ++ l2) → hi' ≤ W'.heap.size → ((lo ≤ lo' ∧ hi' ≤ hi) ∨ w.heap.size ≤ lo') → But (fun k => lo ≤ k ∧ k < hi) w W' → K (a.put o.dst v') W') : o.wp P a w K Q := by
  obtain ⟨v', W', lo', hi', hr, h2, h3, h4, h5⟩ := own_push henc E o.type hO hhi l2 xv hx h1 h63 hbytes
  unfold Oper.wp execOp
  simp only [ho, resolve, invoke, builtin, Sem.run_bind, Sem.run_pure, Result.andThen_ok, List.map_toArray, List.map_cons, List.map_nil, hs, hxe, hr]
  exact h v' W' lo' hi' h2 h3 h4 h5
theorem oneV_flat (l : List Int) : l.flatMap oneV = l.map (Value.int .i64) := by
  induction l with
  | nil => rfl
  | cons x l ih => rw [List.flatMap_cons, ih]; rfl
def sortL (l : List Int) : List Int := l.mergeSort fun x y => decide (x ≤ y)
theorem sort_i (l : List Int) (v : Value) (lo hi : Nat) (w : World) (hlen : l.length ≤ 10000) (hO : Own 3 oneV 1 w lo hi v l) :
    Calls Tryz.prog 89 #[v] w fun e w' => e = .returned (.tuple #[]) ∧ Own 3 oneV 1 w' lo hi v (sortL l) ∧ But (fun k => lo ≤ k ∧ k < hi) w w' := by
  rcases hO with ⟨g, cap, rfl, g1, g2, ho⟩ | ⟨rfl, ao, rfl⟩
  · rcases ho.2 with ⟨hv, _⟩ | ⟨g', cap', cur, hv, _, hh, hn, hm, hcs, htk⟩
    · cases hv
    · cases hv
      have hH := holds_of_blockI (ss := l) hh (by rw [← oneV_flat, ← htk, Nat.mul_one])
      have hlt := (Array.getElem?_eq_some_iff.1 hh).1
      refine (AnyM.slices_Sort_int Tryz.mstL g 0 cap l w hH hlt (by omega)).mono ?_
      rintro e w' ⟨rfl, k, os, rfl⟩
      have hsl : (sortL l).length = l.length := List.length_mergeSort _
      have hrow := ownsRow_sortedI (n := k) (os := os) (ts := sortL l) hsl g1 hh hn hm hcs
      have hgb := grownBy_sortedI (w := w) (g := g) (n := k) (os := os) (sortL l).toArray
      refine ⟨rfl, .inl ⟨g, cap, by rw [hsl], g1, g2, ?_⟩, ⟨hgb.os, hgb.tape, hgb.output, hgb.size, fun j hj hnj => hgb.block j hj (fun e => hnj (by simp at e; omega))⟩⟩
      rw [hsl, oneV_flat]; exact hrow
  · refine (AnyM.slices_Sort_int_none Tryz.mstL ao 0 w).mono ?_
    rintro e w' ⟨rfl, rfl⟩
    exact ⟨rfl, .inr ⟨by unfold sortL; simp, ao, rfl⟩, But.refl _ _⟩
theorem compact_len (l : List Int) : (Lib.compact l).length ≤ l.length := by
  unfold Lib.compact Lib.compactUpTo
  rw [List.length_map]
  refine Nat.le_trans (List.length_filter_le _ _) ?_
  simp
theorem compact_i (l : List Int) (v : Value) (lo hi : Nat) (w : World) (hlen : l.length ≤ 10000) (hO : Own 3 oneV 1 w lo hi v l) :
    Calls Tryz.prog 90 #[v] w fun e w' => ∃ v', e = .returned v' ∧ Own 3 oneV 1 w' lo hi v' (Lib.compact l) ∧ But (fun k => lo ≤ k ∧ k < hi) w w' := by
  rcases hO with ⟨g, cap, rfl, g1, g2, ho⟩ | ⟨rfl, ao, rfl⟩
  · rcases ho.2 with ⟨hv, _⟩ | ⟨g', cap', cur, hv, _, hh, hn, hm, hcs, htk⟩
    · cases hv
    · cases hv
      have hH := holds_of_blockI (ss := l) hh (by rw [← oneV_flat, ← htk, Nat.mul_one])
      refine (AnyG.slices_Compact_int Tryz.mcpL g 0 cap l w hH (by omega) hn).mono ?_
      rintro e w' ⟨rfl, k, rfl⟩
      have hcl := compact_len l
      obtain ⟨ts, hts⟩ : ∃ ts, ts = Lib.compact l ++ List.replicate (l.length - (Lib.compact l).length) 0 := ⟨_, rfl⟩
      have htl : ts.length = l.length := by rw [hts]; simp; omega
      rw [← hts, ← Go.Sort.grow_empty (Go.Sort.putRow _ _ _ _ _)]
      have hrow := ownsRow_sortedI (n := k) (os := #[]) (ts := ts) htl g1 hh hn hm hcs
      have hgb := grownBy_sortedI (w := w) (g := g) (n := k) (os := #[]) ts.toArray
      refine ⟨_, rfl, .inl ⟨g, cap, rfl, g1, g2, ?_⟩, ⟨hgb.os, hgb.tape, hgb.output, hgb.size, fun j hj hnj => hgb.block j hj (fun e => hnj (by simp at e; omega))⟩⟩
      rcases hrow.2 with ⟨hv, _⟩ | ⟨g', cap', cur', hv, _, hh', hn', hm', hcs', htk'⟩
      · cases hv
      · cases hv
        refine ⟨by rw [oneV_flat]; simp, .inr ⟨g, cap, cur', rfl, g1, hh', by omega, hm, hcs', ?_⟩⟩
        have h2 : (cur'.toList.take (l.length * 1)).take ((Lib.compact l).length * 1) = (ts.map (Value.int .i64)).take ((Lib.compact l).length * 1) := by rw [htk']
        rw [List.take_take, Nat.min_eq_left (by omega)] at h2
        rw [h2, hts, oneV_flat, Nat.mul_one, List.map_append, List.take_append_of_le_length (by simp), List.take_of_length_le (by simp)]
  · refine (AnyG.slices_Compact_int_empty Tryz.mcpL ao 0 w).mono ?_
    rintro e w' ⟨rfl, rfl⟩
    exact ⟨_, rfl, .inr ⟨rfl, ao, rfl⟩, But.refl _ _⟩
/-- what is compacted: the same numbers, each once where they rose -/
theorem compact_mem (l : List Int) (x : Int) : x ∈ Lib.compact l ↔ x ∈ l := by
  have key : ∀ m, m ≤ l.length → (x ∈ Lib.compactUpTo l.toArray m ↔ ∃ j, j < m ∧ l.toArray[j]! = x) := by
    intro m
    induction m with
    | zero => intro _; simp [Lib.compactUpTo]
    | succ m ih =>
      intro hm
      rw [Lib.compactUpTo_succ, List.mem_append, ih (by omega)]
      constructor
      · rintro (⟨j, h1, h2⟩ | h)
        · exact ⟨j, by omega, h2⟩
        · split at h
          · rw [List.mem_singleton] at h
            exact ⟨m, by omega, h.symm⟩
          · cases h
      · rintro ⟨j, h1, h2⟩
        rcases Nat.lt_or_ge j m with h | h
        · exact .inl ⟨j, h, h2⟩
        · have : j = m := by omega
          subst this
          by_cases hk : Lib.keeps l.toArray j = true
          · right; rw [if_pos hk, List.mem_singleton, h2]
          · left
            have hj : 0 < j := by
              rcases Nat.eq_zero_or_pos j with h0 | h0
              · subst h0; exact absurd (Lib.keeps_lt_one _ 0 (by omega)) hk
              · exact h0
            refine ⟨j - 1, by omega, ?_⟩
            rw [← h2]
            by_cases he : l.toArray[j]! = l.toArray[j - 1]!
            · exact he.symm
            · exact absurd (Lib.keeps_pos he) hk
  unfold Lib.compact
  rw [key l.length (Nat.le_refl _)]
  constructor
  · rintro ⟨j, h1, h2⟩
    rw [← h2]
    simp only [List.getElem!_toArray, List.getElem!_eq_getElem?_getD, List.getElem?_eq_getElem h1, Option.getD_some]
    exact List.getElem_mem h1
  · intro h
    obtain ⟨j, h1, h2⟩ := List.getElem_of_mem h
    refine ⟨j, h1, ?_⟩
    simp only [List.getElem!_toArray, List.getElem!_eq_getElem?_getD, List.getElem?_eq_getElem h1, Option.getD_some]
    exact h2
theorem compact_rises (l : List Int) (h : l.Pairwise (· ≤ ·)) : (Lib.compact l).Pairwise (· < ·) := by
  unfold Lib.compact Lib.compactUpTo
  rw [List.pairwise_map]
  have hr : (List.range l.length).Pairwise (· < ·) := List.pairwise_lt_range
  have hf := hr.filter (Lib.keeps l.toArray)
  refine List.Pairwise.imp_of_mem ?_ hf
  intro a b ha hb hab
  have hb1 := List.mem_filter.1 hb
  have hbl : b < l.length := List.mem_range.1 hb1.1
  have hal : a < l.length := by omega
  have hk := hb1.2
  have hne : l.toArray[b]! ≠ l.toArray[b - 1]! := by
    intro he
    rw [Lib.keeps_neg (by omega) he] at hk
    cases hk
  have g : ∀ j (hj : j < l.length), l.toArray[j]! = l[j] := fun j hj => by
    simp only [List.getElem!_toArray, List.getElem!_eq_getElem?_getD, List.getElem?_eq_getElem hj, Option.getD_some]
  rw [g b hbl, g (b - 1) (by omega)] at hne
  rw [g a hal, g b hbl]
  rw [List.pairwise_iff_getElem] at h
  have h2 : l[a] ≤ l[b - 1] := by
    rcases Nat.lt_or_ge a (b - 1) with h3 | h3
    · exact h a (b - 1) hal (by omega) h3
    · have : a = b - 1 := by omega
      subst this
      exact Int.le_refl _
  have h4 : l[b - 1] ≤ l[b] := h (b - 1) b (by omega) hbl (by omega)
  omega
/-- numbers put among others, each once, rising -/
def joinL (d l : List Int) : List Int := Lib.compact (sortL (d ++ l))
theorem joinL_mem (d l : List Int) (x : Int) : x ∈ joinL d l ↔ x ∈ d ∨ x ∈ l := by
  unfold joinL sortL
  rw [compact_mem, List.mem_mergeSort, List.mem_append]
theorem joinL_rises (d l : List Int) : risesB (joinL d l) = true := by
  rw [risesB_iff]
  refine compact_rises _ ?_
  have h := List.pairwise_mergeSort (le := fun x y : Int => decide (x ≤ y)) (fun a b c h1 h2 => by simp only [decide_eq_true_eq] at *; omega) (fun a b => by simp only [Bool.or_eq_true, decide_eq_true_eq]; omega) (d ++ l)
  exact h.imp (fun {a b} hab => by simpa using hab)
theorem joinL_len (d l : List Int) : (joinL d l).length ≤ d.length + l.length := by
  unfold joinL sortL
  refine Nat.le_trans (compact_len _) ?_
  rw [List.length_mergeSort, List.length_append]
  exact Nat.le_refl _
end Go.Proofs.YtiijfocdjcjlaaaGreat
