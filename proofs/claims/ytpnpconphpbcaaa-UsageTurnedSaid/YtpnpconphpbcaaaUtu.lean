/- UsageTurned: plain laws; numbers. -/
import Derived.Test.YtpnpconphpbcaaaUho
namespace Go.Proofs.Ytpnpconphpbcaaa
open Go.RowKit Go.ChangeMaps Go.MapKept
set_option linter.unusedVariables false
set_option linter.unusedSimpArgs false

/-- n groups of at most 32 slots, blocks below 64 -/
structure TV (T : Tab) (n : Nat) : Prop where
  ok : T.Ok
  g : ∀ i : Nat, i < n → ∃ l, T.g (i : Int) = some l ∧ 1 ≤ l.length ∧ l.length ≤ 32
  no : ∀ m : Int, m < 0 ∨ (n : Int) ≤ m → T.g m = none
  used : ∀ x, T.f x ≠ none → 0 ≤ x ∧ x < 64
theorem TV.opens (szs : List Nat) (h : ∀ N ∈ szs, 1 ≤ N ∧ N ≤ 32) : TV (opensT szs) szs.length := by
  refine ⟨opensT_ok _ (fun N hN => by have := h N hN; omega), fun i hi => ⟨_, opensT_g szs i hi, ?_⟩, fun m hm => ?_, fun x hx => absurd rfl hx⟩
  · rw [List.length_replicate]; exact h _ (List.getElem_mem hi)
  · simp only [opensT]
    split
    · rw [List.getElem?_eq_none (by omega)]; rfl
    · rfl
theorem TV.put {T : Tab} {n : Nat} (h : TV T n) {g : Int} {i : Nat} (hd : T.slot g i = some (-1)) {b : Int} (h0 : 0 ≤ b) (h1 : b < 64) : TV (T.put g i b) n := by
  refine ⟨h.ok.put hd h0, fun j hj => ?_, fun m hm => ?_, fun x hx => ?_⟩
  · obtain ⟨l, hl, ha, hb⟩ := h.g j hj
    obtain ⟨l', hl', e⟩ := put_len hl g i b
    exact ⟨l', hl', by omega, by omega⟩
  · have hno := h.no m hm
    cases hp : (T.put g i b).g m with
    | none => rfl
    | some l =>
      have hlen := (h.ok.put hd h0).len m l hp
      have hs : (T.put g i b).slot m 0 = some l[0] := by rw [Tab.slot_of hp, List.getElem?_eq_getElem hlen.1]
      rw [Tab.slot_put h.ok hd h0] at hs
      have hmg : ¬ (m = g ∧ 0 = i) := by
        rintro ⟨rfl, rfl⟩
        rw [Tab.slot, hno] at hd; cases hd
      rw [if_neg hmg] at hs
      split at hs
      · rename_i hf
        obtain ⟨_, j, _, hs'⟩ := h.ok.at_ b m _ hf
        rw [Tab.slot, hno] at hs'; cases hs'
      · rw [Tab.slot, hno] at hs; cases hs
  · rw [Tab.f_put] at hx
    split at hx
    · omega
    · exact h.used x hx
theorem TV.clear {T : Tab} {n : Nat} (h : TV T n) {g : Int} {i : Nat} {b : Int} (hs : T.slot g i = some b) (hb : b ≠ -1) : TV (T.clear g i b) n := by
  refine ⟨h.ok.clear hs hb, fun j hj => ?_, fun m hm => ?_, fun x hx => ?_⟩
  · obtain ⟨l, hl, ha, hc⟩ := h.g j hj
    obtain ⟨l', hl', e⟩ := clear_len hl g i b
    exact ⟨l', hl', by omega, by omega⟩
  · have hno := h.no m hm
    cases hp : (T.clear g i b).g m with
    | none => rfl
    | some l =>
      have hlen := (h.ok.clear hs hb).len m l hp
      have hsl : (T.clear g i b).slot m 0 = some l[0] := by rw [Tab.slot_of hp, List.getElem?_eq_getElem hlen.1]
      rw [Tab.slot_clear hs] at hsl
      split at hsl
      · rename_i hc; obtain ⟨rfl, rfl⟩ := hc
        rw [Tab.slot, hno] at hs; cases hs
      · rw [Tab.slot, hno] at hsl; cases hsl
  · rw [Tab.f_clear] at hx
    split at hx
    · exact absurd rfl hx
    · exact h.used x hx
/-- what the law has seen ahead of slot s of group g -/
def seenB (T : Tab) (g s : Nat) (b : Nat) : Bool := match T.f (b : Int) with | none => false | some x => decide (x.1 < (g : Int) ∨ (x.1 = (g : Int) ∧ x.2 < (s : Int)))
def seenL (T : Tab) (g s : Nat) : List Bool := (List.range 64).map (seenB T g s)
theorem seenL_length (T : Tab) (g s : Nat) : (seenL T g s).length = 64 := by simp [seenL]
theorem seenL_at (T : Tab) (g s b : Nat) (h : b < (seenL T g s).length) : (seenL T g s)[b] = seenB T g s b := by simp [seenL]
theorem seenL_zero {T : Tab} {n : Nat} (h : TV T n) : seenL T 0 0 = noB 64 := by
  apply List.ext_getElem
  · simp [seenL, noB]
  · intro b h1 h2
    rw [seenL_at, seenB]
    simp only [noB, List.getElem_replicate]
    cases hf : T.f (b : Int) with
    | none => rfl
    | some x =>
      obtain ⟨m, s⟩ := x
      obtain ⟨_, i, rfl, hs⟩ := h.ok.at_ _ m s hf
      obtain ⟨l, hl, _⟩ := Tab.slot_some hs
      have : ¬ (m < 0) := fun hm => by rw [h.no m (.inl hm)] at hl; cases hl
      simp; omega
theorem seenL_dead {T : Tab} {n : Nat} (h : TV T n) {g s : Nat} (hs : T.slot g s = some (-1)) : seenL T g (s + 1) = seenL T g s := by
  apply List.ext_getElem
  · simp [seenL]
  · intro b h1 h2
    rw [seenL_at, seenL_at, seenB, seenB]
    cases hf : T.f (b : Int) with
    | none => rfl
    | some x =>
      obtain ⟨m, t⟩ := x
      obtain ⟨hb, i, rfl, hsl⟩ := h.ok.at_ _ m t hf
      dsimp only
      have : ¬ (m = (g : Int) ∧ (i : Int) = (s : Int)) := by
        rintro ⟨rfl, hi⟩
        have : i = s := by omega
        subst this
        rw [hs] at hsl; injection hsl with e; omega
      rw [decide_eq_decide]
      omega
theorem seenL_live {T : Tab} {n : Nat} (h : TV T n) {g s b : Nat} (hs : T.slot g s = some (b : Int)) : seenL T g (s + 1) = (seenL T g s).set b true := by
  have hf := h.ok.of g s b hs (by omega)
  apply List.ext_getElem
  · simp [seenL]
  · intro c h1 h2
    rw [seenL_at, List.getElem_set]
    split
    · rename_i e; subst e
      rw [seenB, hf]; simp; omega
    · rename_i e
      rw [seenL_at, seenB, seenB]
      cases hc : T.f (c : Int) with
      | none => rfl
      | some x =>
        obtain ⟨m, t⟩ := x
        obtain ⟨_, i, rfl, hsl⟩ := h.ok.at_ _ m t hc
        dsimp only
        have : ¬ (m = (g : Int) ∧ (i : Int) = (s : Int)) := by
          rintro ⟨rfl, hi⟩
          have : i = s := by omega
          subst this
          rw [hs] at hsl; injection hsl with e'; omega
        rw [decide_eq_decide]
        omega
theorem seenL_next {T : Tab} {n : Nat} (h : TV T n) {g : Nat} {l : List Int} (hl : T.g g = some l) : seenL T g l.length = seenL T (g + 1) 0 := by
  apply List.ext_getElem
  · simp [seenL]
  · intro c h1 h2
    rw [seenL_at, seenL_at, seenB, seenB]
    cases hc : T.f (c : Int) with
    | none => rfl
    | some x =>
      obtain ⟨m, t⟩ := x
      obtain ⟨_, i, rfl, hsl⟩ := h.ok.at_ _ m t hc
      dsimp only
      rw [decide_eq_decide]
      by_cases hm : m = (g : Int)
      · subst hm
        obtain ⟨l', hl', hi, _⟩ := Tab.slot_some hsl
        rw [hl] at hl'; injection hl' with hl'; subst hl'
        omega
      · omega
theorem seenB_own {T : Tab} {n : Nat} (h : TV T n) {g s b : Nat} (hs : T.slot g s = some (b : Int)) : seenB T g s b = false := by
  rw [seenB, h.ok.of g s b hs (by omega)]; simp
theorem seenB_end {T : Tab} {n : Nat} (h : TV T n) (b : Nat) : seenB T n 0 b = (T.f (b : Int)).isSome := by
  rw [seenB]
  cases hf : T.f (b : Int) with
  | none => rfl
  | some x =>
    obtain ⟨m, t⟩ := x
    obtain ⟨_, i, rfl, hs⟩ := h.ok.at_ _ m t hf
    obtain ⟨l, hl, _⟩ := Tab.slot_some hs
    have : m < (n : Int) := by
      rcases Int.lt_or_le m n with h' | h'
      · exact h'
      · rw [h.no m (.inr h')] at hl; cases hl
    simp; omega
theorem idxI_snoc (l : List Int) (x : Int) : idxI (l ++ [x]) (-1) = if idxI l (-1) = -1 then (if x = -1 then (l.length : Int) else -1) else idxI l (-1) := by
  rcases idxI_cases l (-1) with ⟨h1, h2⟩ | ⟨k, hk, h1, h2, h3⟩
  · rw [h1, if_pos rfl]
    split
    · rename_i e
      refine idxI_hit (by simp) (fun i hi hik => ?_) (by simp [e])
      rw [List.getElem_append_left hik]; exact h2 i hik
    · rename_i e
      refine idxI_miss fun i hi => ?_
      rw [List.getElem_append]
      split
      · exact h2 i _
      · simpa using e
  · rw [h1, if_neg (by omega)]
    refine idxI_hit (by simp; omega) (fun i hi hik => ?_) ?_
    · rw [List.getElem_append_left (by omega)]; exact h3 i (by omega) hik
    · rw [List.getElem_append_left hk]; exact h2
theorem idxI_range (l : List Int) : idxI l (-1) = -1 ∨ ∃ k : Nat, idxI l (-1) = (k : Int) := by
  rcases idxI_cases l (-1) with ⟨h, _⟩ | ⟨k, _, h, _⟩
  · exact .inl h
  · exact .inr ⟨k, h⟩
theorem zero_64 : ∀ w, (zeroValue 60).run Try.prog w = .ok (.agg (bools (noB 64)).toArray) w := fun w => by
  have h1 : (Try.prog.info? 60).map (·.zero) = some (some (.agg (bools (noB 64)).toArray)) := by kernel_rfl
  cases hi : Try.prog.info? 60 with
  | none => simp [hi] at h1
  | some i =>
    have hz : i.zero = some (.agg (bools (noB 64)).toArray) := by simpa [hi] using h1
    simp [zeroValue, typeInfo, hi, hz]
/-- a slice value whose cells read l -/
def NSl (w : World) (v : Value) (l : List Int) : Prop := ∃ oa cap, v = .slice oa l.length cap ∧ ∀ k (hk : k < l.length), ∃ b off, oa = some ⟨b, off, none⟩ ∧ w.cell? ⟨b, off + k, none⟩ = some (.int .i64 l[k])
theorem NSl.kept {w w' : World} {v : Value} {l : List Int} (h : NSl w v l) (hk : Kept w w') : NSl w' v l := by
  obtain ⟨oa, cap, rfl, h3⟩ := h
  refine ⟨oa, cap, rfl, fun k hkl => ?_⟩
  obtain ⟨b, off, e, hc⟩ := h3 k hkl
  exact ⟨b, off, e, hk.cell' hc⟩
theorem NSl.of_irow {w : World} {g cap : Nat} {l : List Int} (h : IRow w g l) : NSl w (.slice (some ⟨g, 0, none⟩) l.length cap) l :=
  ⟨_, _, rfl, fun k hk => ⟨g, 0, rfl, by rw [Nat.zero_add]; exact h.at k hk⟩⟩
theorem NSl.of_owns {w : World} {base e : Nat} {v : Value} {l : List Int} (h : w.ownsRow base e 1 v l.length (ints l)) : NSl w v l := by
  rcases owns_form h with ⟨rfl, h0, _⟩ | ⟨g, cap, rfl, _, _, _, hc⟩
  · have : l = [] := List.eq_nil_of_length_eq_zero h0
    subst this
    exact ⟨none, 0, rfl, fun k hk => by cases hk⟩
  · exact NSl.of_irow hc
theorem NSl.at {w : World} {oa : Option Addr} {n cap : Nat} {l : List Int} (h : NSl w (.slice oa n cap) l) (k : Nat) (hk : k < l.length) : ∃ b off, oa = some ⟨b, off, none⟩ ∧ w.cell? ⟨b, off + k, none⟩ = some (.int .i64 l[k]) := by
  obtain ⟨oa', cap', e, h3⟩ := h
  cases e
  exact h3 k hk
section
variable {w W : World} {R : Nat → Prop} {p : Nat} {T : Tab}
set_option maxHeartbeats 2000000
set_option maxRecDepth 100000
theorem law_numbers (v1 v2 : Value) (l : List Int) (w : World) (hl : l.length ≤ 4096) (h1 : NSl w v1 l) (h2 : NSl w v2 l) :
    Calls Try.prog 31 #[v1, v2] w fun e w' => e = .returned (.bool true) ∧ Kept w w' := by
  have H1 := Lib.hid h1
  have H2 := Lib.hid h2
  obtain ⟨o1, c1, rfl, _⟩ := h1
  obtain ⟨o2, c2, rfl, _⟩ := h2
  have hne : ((l.length : Int) != (l.length : Int)) = false := by simp
  go_enter Try.func31, Try.ntmps31
  go_wp2
  go_loopw [5] (fun i wr => ∃ k : Nat, k ≤ l.length ∧ i = .int .i64 k ∧ Kept w wr) (fun i _ => l.length - (intOf i).toNat)
  case atStart => exact ⟨0, Nat.zero_le _, rfl, Kept.refl _⟩
  case round =>
    obtain ⟨k, hk, rfl, hkr⟩ := hrel
    by_cases hlt : k < l.length
    · obtain ⟨b1, f1, rfl, d1⟩ := (H1.out.kept hkr).at k hlt
      obtain ⟨b2, f2, rfl, d2⟩ := (H2.out.kept hkr).at k hlt
      generalize l[k] = x at *
      have hx : (x != x) = false := by simp
      have hk0 : (0 : Int) ≤ (k : Int) := by omega
      have hkl : (k : Int) < (l.length : Int) := by omega
      go_wp2
      go_quiet (fail)
      go_wp2
      go_roundw
      case rel => exact ⟨k + 1, by omega, by go_num, hkr.drewN _⟩
      case measure => simp [intOf]; omega
    · go_wp2
      go_ret
      exact ⟨rfl, hkr⟩
theorem Own.but {W' : World} {B : Nat} (h : Own w R W p T) (hb : But (fun k => k = B) W W') (hB : R B) (hw : w.heap.size ≤ B) : Own w R W' p T := by
  obtain ⟨S, g1, g2, g3, g4⟩ := h
  exact ⟨S, g1.but hb (fun k hk e => (g4 B hB).2 (e ▸ hk)), But.to_kept g2 hb (fun i e => by rw [e]; exact hw), g3, fun k hk => ⟨Nat.lt_of_lt_of_le (g4 k hk).1 hb.size, (g4 k hk).2⟩⟩
theorem ownsRow_wrote' {W' : World} {g : Nat} {cs : List Value} {t : TypeId} (h : Wrote W W' g cs t) {base e size n : Nat} {v : Value} {xs : List Value} (ho : W.ownsRow base e size v n xs) (hg : g < base) : W'.ownsRow base e size v n xs := by
  refine ⟨ho.1, ?_⟩
  rcases ho.2 with h2 | ⟨g', cap, cur, hv, hb, hh, r⟩
  · exact .inl h2
  · exact .inr ⟨g', cap, cur, hv, hb, by rw [h.oth g' (by omega)]; exact hh, r⟩
theorem But.upto {S : Nat → Prop} {a b c : World} (h : But S a b) (k : Below a.heap.size b c) : But S a c :=
  ⟨k.os.trans h.os, k.tape.trans h.tape, k.output.trans h.output, Nat.le_trans h.size k.size, fun i hi hn => (k.block i hi).trans (h.block i hi hn)⟩
/-- any Put -/
theorem own_PutAny {n : Nat} (h : Own w R W p T) (hv : TV T n) (g : Nat) (hg : g < n) (s b : Nat) (hb : b < 64) :
    Calls Try.prog 22 #[.pointer (some ⟨p, 0, none⟩), .int .i64 g, .int .i64 s, .int .i64 b] W fun e w' => ∃ E T', e = .returned (.int .i64 E) ∧ TV T' n ∧ Own w R w' p T' := by
  obtain ⟨l, hl, _, _⟩ := hv.g g hg
  by_cases hs : s < l.length
  · have hsl : T.slot g s = some l[s] := by rw [Tab.slot_of hl, List.getElem?_eq_getElem hs]
    by_cases hd : l[s] = -1
    · rw [hd] at hsl
      exact (own_Put h hv.ok g b s hsl (by omega)).mono fun e w' ⟨he, ho, _⟩ => ⟨0, _, he, hv.put hsl (by omega) (by omega), ho⟩
    · exact (own_Put_live h hv.ok g b s hsl hd (by omega)).mono fun e w' ⟨he, hw⟩ => ⟨9, T, he, hv, by rw [← hw]; exact h⟩
  · exact (own_Put_out h g s b hl (.inr (by omega))).mono fun e w' ⟨he, hw⟩ => ⟨3, T, he, hv, by rw [← hw]; exact h⟩
theorem own_ClearAny {n : Nat} (h : Own w R W p T) (hv : TV T n) (g : Nat) (hg : g < n) (s : Nat) :
    Calls Try.prog 29 #[.pointer (some ⟨p, 0, none⟩), .int .i64 g, .int .i64 s] W fun e w' => ∃ E T', e = .returned (.int .i64 E) ∧ TV T' n ∧ Own w R w' p T' := by
  obtain ⟨l, hl, _, _⟩ := hv.g g hg
  by_cases hs : s < l.length
  · have hsl : T.slot g s = some l[s] := by rw [Tab.slot_of hl, List.getElem?_eq_getElem hs]
    by_cases hd : l[s] = -1
    · rw [hd] at hsl
      exact (own_Clear_dead h hv.ok g s hsl).mono fun e w' ⟨he, hw⟩ => ⟨9, T, he, hv, by rw [← hw]; exact h⟩
    · exact (own_Clear h hv.ok g s hsl hd).mono fun e w' ⟨he, ho, _⟩ => ⟨0, _, he, hv.clear hsl hd, ho⟩
  · exact (own_Clear_out h g s hl (.inr (by omega))).mono fun e w' ⟨he, hw⟩ => ⟨3, T, he, hv, by rw [← hw]; exact h⟩
end
end Go.Proofs.Ytpnpconphpbcaaa
