/- usage.Table: what the memory of one reads as; New, in. -/
import Derived.Test.YtglplhmclfekfaaFrame
namespace Go.Proofs.Ytglplhmclfekfaa
open Go.RowKit Go.ChangeMaps Go.MapKept
set_option linter.unusedVariables false
set_option linter.unusedSimpArgs false

/-- a table: the groups' slots, and where each block is -/
structure Tab where
  g : Int → Option (List Int)
  f : Int → Option (Int × Int)
def Tab.empty : Tab := ⟨fun _ => none, fun _ => none⟩
def spotV (s : Int × Int) : Value := .agg #[.int .i64 s.1, .int .i64 s.2]
/-- where each group's slots lie, and what stands behind them in their block -/
structure Blk where
  b : Int → Nat
  j : Int → List Value
def slV (b c : Nat) (l : List Int) : Value := .slice (some ⟨b, 0, none⟩) l.length (l.length + c)
structure TabD (w : World) (p : Nat) (S : Nat → Prop) (T : Tab) (g h : Nat) (blk : Blk) : Prop where
  top : w.heap[p]? = some (.cells #[.map (some g), .map (some h)] 121 (0, 0))
  gm : ∃ m, IMap w g m (fun n => (T.g n).map (slV (blk.b n) (blk.j n).length))
  fm : ∃ m, IMap w h m (fun b => (T.f b).map spotV)
  row : ∀ n l, T.g n = some l → w.heap[blk.b n]? = some (.cells (ints l ++ blk.j n).toArray 3 (0, 0))
  own : ∀ n, T.g n ≠ none → S (blk.b n)
  inj : ∀ n n', T.g n ≠ none → T.g n' ≠ none → blk.b n = blk.b n' → n = n'
  gh : g ≠ h
  sp : S p
  sg : S g
  sh : S h
  slt : ∀ k, S k → k < w.heap.size
/-- Block p of w is a table that reads as T; S names all its blocks. -/
def TabAt (w : World) (p : Nat) (S : Nat → Prop) (T : Tab) : Prop := ∃ g h blk, TabD w p S T g h blk

theorem TabD.lt {w : World} {p : Nat} {S : Nat → Prop} {T : Tab} {g h : Nat} {blk : Blk} (H : TabD w p S T g h blk) : p < w.heap.size ∧ g < w.heap.size ∧ h < w.heap.size ∧ ∀ n, T.g n ≠ none → blk.b n < w.heap.size := by
  obtain ⟨_, h1⟩ := H.gm
  obtain ⟨_, h2⟩ := H.fm
  refine ⟨(Array.getElem?_eq_some_iff.1 H.top).1, h1.lt, h2.lt, fun n hn => ?_⟩
  cases hg : T.g n with
  | none => exact absurd hg hn
  | some l => exact (Array.getElem?_eq_some_iff.1 (H.row n l hg)).1
theorem TabD.same {w w' : World} {p : Nat} {S : Nat → Prop} {T : Tab} {g h : Nat} {blk : Blk} (H : TabD w p S T g h blk) (hk : Kept w w') : TabD w' p S T g h blk := by
  obtain ⟨m1, h1⟩ := H.gm
  obtain ⟨m2, h2⟩ := H.fm
  exact ⟨hk.block H.top, ⟨m1, h1.kept hk⟩, ⟨m2, h2.kept hk⟩, fun n l hl => hk.block (H.row n l hl), H.own, H.inj, H.gh, H.sp, H.sg, H.sh, fun k h => Nat.lt_of_lt_of_le (H.slt k h) hk.size⟩
theorem TabAt.kept {w w' : World} {p : Nat} {S : Nat → Prop} {T : Tab} (H : TabAt w p S T) (hk : Kept w w') : TabAt w' p S T := by
  obtain ⟨g, h, blk, H⟩ := H
  exact ⟨g, h, blk, H.same hk⟩
theorem TabD.but {w w' : World} {p : Nat} {S R : Nat → Prop} {T : Tab} {g h : Nat} {blk : Blk} (H : TabD w p S T g h blk) (hk : But R w w') (hr : ∀ k, S k → ¬ R k) : TabD w' p S T g h blk := by
  obtain ⟨m1, h1⟩ := H.gm
  obtain ⟨m2, h2⟩ := H.fm
  have hlt := H.lt
  refine ⟨hk.blk (hr _ H.sp) H.top, ⟨m1, hk.imap (hr _ H.sg) h1⟩, ⟨m2, hk.imap (hr _ H.sh) h2⟩, fun n l hl => hk.blk (hr _ (H.own n (by simp [hl]))) (H.row n l hl), H.own, H.inj, H.gh, H.sp, H.sg, H.sh, fun k h => Nat.lt_of_lt_of_le (H.slt k h) hk.size⟩
theorem TabAt.but {w w' : World} {p : Nat} {S R : Nat → Prop} {T : Tab} (H : TabAt w p S T) (hk : But R w w') (hr : ∀ k, S k → ¬ R k) : TabAt w' p S T := by
  obtain ⟨g, h, blk, H⟩ := H
  exact ⟨g, h, blk, H.but hk hr⟩

theorem usage_New (w : World) :
    Calls Try.prog 21 #[] w fun e w' => ∃ p S, e = .returned (.pointer (some ⟨p, 0, none⟩)) ∧ TabAt w' p S Tab.empty ∧ Kept w w' ∧ (∀ k, S k → w.heap.size ≤ k) := by
  have hmm := @run_makeMap Try.prog
  go_enter Try.func21, Try.ntmps21
  go_wp2
  go_ret
  refine ⟨w.heap.size + 1 + 1, fun k => w.heap.size ≤ k ∧ k < w.heap.size + 3, rfl, ⟨w.heap.size, w.heap.size + 1, ⟨fun _ => 0, fun _ => []⟩, ?_⟩, ((((Kept.refl w).alloc _).alloc _).alloc _), fun k h => h.1⟩
  have h2 := (IMap.made (w.alloc (.map #[] 0))).kept ((Kept.refl _).alloc (.cells #[.map (some w.heap.size), .map (some (w.heap.size + 1))] 121))
  have h3 := heap_alloc_new ((w.alloc (.map #[] 0)).alloc (.map #[] 0)) (.cells #[.map (some w.heap.size), .map (some (w.heap.size + 1))] 121)
  simp only [World.size_alloc] at h2 h3
  exact ⟨h3, ⟨0, (IMap.made w).kept (((Kept.refl _).alloc _).alloc _)⟩, ⟨0, h2⟩, (fun n l h => by cases h), fun n h => absurd rfl h, fun n _ h => absurd rfl h, by omega, ⟨by omega, by omega⟩, ⟨by omega, by omega⟩, ⟨by omega, by omega⟩, fun k h => by simp; omega⟩

theorem TabD.c0 {w : World} {p : Nat} {S : Nat → Prop} {T : Tab} {g h : Nat} {blk : Blk} (H : TabD w p S T g h blk) : w.cell? ⟨p, 0, none⟩ = some (.map (some g)) := by
  rw [cell_of_row _ _ _ _ _ _ H.top]; rfl
theorem TabD.c1 {w : World} {p : Nat} {S : Nat → Prop} {T : Tab} {g h : Nat} {blk : Blk} (H : TabD w p S T g h blk) : w.cell? ⟨p, 1, none⟩ = some (.map (some h)) := by
  rw [cell_of_row _ _ _ _ _ _ H.top]; rfl
theorem eq_nil (w : World) (a : Option Addr) (n c : Nat) : (binOp .eql 56 (.slice a n c) (.slice none 0 0)).run Try.prog w = .ok (.bool a.isNone) w := by
  simp only [binOp]
  simp [Op.equal, Op.maxDepth, Lib.run_equalIn_slice_nil w 9999 56 3 a n c 0 0 Try.underlying56]
theorem ne_nil (w : World) (a : Option Addr) (n c : Nat) : (binOp .neq 56 (.slice a n c) (.slice none 0 0)).run Try.prog w = .ok (.bool (!a.isNone)) w :=
  run_neq_slice_nil_any w 56 3 a n c 0 0 Try.underlying56
section
variable {ops : Array Oper} {rest : List Oper} {o : Oper} {a : Act} {Q : Exit → Act → World → Prop} {w : World} {p : Nat} {S : Nat → Prop} {T : Tab} {g h : Nat} {blk : Blk}
/-- groups[n] is read -/
theorem wpList_look_some (H : TabD w p S T g h blk) {n : Int} {l : List Int} (hn : T.g n = some l) (hgd : Region.wanted o (yielded ops a.tmps) = true) (m x : Operand) (ho : o.op = .lookup 118 m x false) (hm : a.eval m = .map (some g)) (hx : a.eval x = .int .i64 n)
    (hK : wpList Try.prog ops Q rest (a.put o.dst (.slice (some ⟨blk.b n, 0, none⟩) l.length (l.length + (blk.j n).length))) w) : wpList Try.prog ops Q (o :: rest) a w := by
  obtain ⟨c, hc⟩ := H.gm
  exact wpList_lookup_im hgd m x false ho Try.underlying118 Try.underlying3 zero_slice hm n hx hc _ (by simp [hn, slV]) hK
theorem wpList_look_none (H : TabD w p S T g h blk) {n : Int} (hn : T.g n = none) (hgd : Region.wanted o (yielded ops a.tmps) = true) (m x : Operand) (ho : o.op = .lookup 118 m x false) (hm : a.eval m = .map (some g)) (hx : a.eval x = .int .i64 n)
    (hK : wpList Try.prog ops Q rest (a.put o.dst (.slice none 0 0)) w) : wpList Try.prog ops Q (o :: rest) a w := by
  obtain ⟨c, hc⟩ := H.gm
  exact wpList_lookup_im hgd m x false ho Try.underlying118 Try.underlying3 zero_slice hm n hx hc _ (by simp [hn]) hK
end
section
variable {w : World} {p : Nat} {S : Nat → Prop} {T : Tab}
set_option maxHeartbeats 400000
set_option maxRecDepth 100000
theorem tab_in_none (H : TabAt w p S T) (n s : Int) (hn : T.g n = none) :
    Calls Try.prog 90 #[.pointer (some ⟨p, 0, none⟩), .int .i64 n, .int .i64 s] w fun e w' => e = .returned (.int .i64 8) ∧ w = w' := by
  obtain ⟨g, h, blk, H⟩ := H
  have c0 := H.c0
  have HN := Lib.hid hn; clear hn
  have e1 := eq_nil
  go_enter Try.func90, Try.ntmps90
  go_wp2_with (at_lookup; refine wpList_look_none H HN.out rfl _ _ rfl rfl rfl ?_)
  go_ret
  exact ⟨rfl, rfl⟩
theorem tab_in_out (H : TabAt w p S T) (n s : Int) {l : List Int} (hn : T.g n = some l) (hs : s < 0 ∨ l.length ≤ s) :
    Calls Try.prog 90 #[.pointer (some ⟨p, 0, none⟩), .int .i64 n, .int .i64 s] w fun e w' => e = .returned (.int .i64 3) ∧ w = w' := by
  obtain ⟨g, h, blk, H⟩ := H
  have c0 := H.c0
  have HN := Lib.hid hn; clear hn
  have e1 := eq_nil
  by_cases h0 : s < 0
  · go_enter Try.func90, Try.ntmps90
    go_wp2_with (at_lookup; refine wpList_look_some H HN.out rfl _ _ rfl rfl rfl ?_)
    go_ret
    exact ⟨rfl, rfl⟩
  · have h1 : (l.length : Int) ≤ s := by omega
    clear hs
    go_enter Try.func90, Try.ntmps90
    go_wp2_with (at_lookup; refine wpList_look_some H HN.out rfl _ _ rfl rfl rfl ?_)
    go_ret
    exact ⟨rfl, rfl⟩
theorem tab_in_ok (H : TabAt w p S T) (n s : Int) {l : List Int} (hn : T.g n = some l) (h0 : 0 ≤ s) (h1 : s < l.length) :
    Calls Try.prog 90 #[.pointer (some ⟨p, 0, none⟩), .int .i64 n, .int .i64 s] w fun e w' => e = .returned (.int .i64 0) ∧ w = w' := by
  obtain ⟨g, h, blk, H⟩ := H
  have c0 := H.c0
  have HN := Lib.hid hn; clear hn
  have e1 := eq_nil
  go_enter Try.func90, Try.ntmps90
  go_wp2_with (at_lookup; refine wpList_look_some H HN.out rfl _ _ rfl rfl rfl ?_)
  go_ret
  exact ⟨rfl, rfl⟩
end
end Go.Proofs.Ytglplhmclfekfaa
