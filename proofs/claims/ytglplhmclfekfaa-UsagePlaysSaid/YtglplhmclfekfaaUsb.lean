/- usage.Table: rules for a slot that is set and for where; Put, Clear. -/
import Derived.Test.YtglplhmclfekfaaUsa
import Derived.Test.YtglplhmclfekfaaRule
namespace Go.Proofs.Ytglplhmclfekfaa
open Go.RowKit Go.ChangeMaps Go.MapKept
set_option linter.unusedVariables false
set_option linter.unusedSimpArgs false

def Tab.setG (T : Tab) (n : Int) (i : Nat) (x : Int) : Tab := ⟨fun m => if m = n then (T.g n).map (fun l => l.set i x) else T.g m, T.f⟩
def Tab.setF (T : Tab) (b : Int) (s : Int × Int) : Tab := ⟨T.g, fun x => if x = b then some s else T.f x⟩
def Tab.delF (T : Tab) (b : Int) : Tab := ⟨T.g, fun x => if x = b then none else T.f x⟩

section
variable {w : World} {p : Nat} {S : Nat → Prop} {T : Tab} {g h : Nat} {blk : Blk}
theorem ints_set (l : List Int) (i : Nat) (x : Int) : (ints l).set i (.int .i64 x) = ints (l.set i x) := by simp [ints, List.map_set]
theorem TabD.ne_top (H : TabD w p S T g h blk) {n : Int} (hn : T.g n ≠ none) : blk.b n ≠ p := by
  intro e
  cases hg : T.g n with
  | none => exact hn hg
  | some l =>
    have h1 := H.row n l hg
    rw [e, H.top] at h1
    have h2 : (121 : Nat) = 3 := by
      injection h1 with h1; injection h1 with _ h1 _
    exact absurd h2 (by decide)
theorem TabD.ne_map (H : TabD w p S T g h blk) {n : Int} (hn : T.g n ≠ none) : blk.b n ≠ g ∧ blk.b n ≠ h := by
  obtain ⟨_, _, _, hg1, _⟩ := H.gm
  obtain ⟨_, _, _, hg2, _⟩ := H.fm
  cases hg : T.g n with
  | none => exact absurd hg hn
  | some l =>
    have h1 := H.row n l hg
    constructor
    · intro e; rw [e, hg1] at h1; cases h1
    · intro e; rw [e, hg2] at h1; cases h1
theorem TabD.top_ne (H : TabD w p S T g h blk) : p ≠ g ∧ p ≠ h := by
  obtain ⟨_, _, _, hg1, _⟩ := H.gm
  obtain ⟨_, _, _, hg2, _⟩ := H.fm
  have h1 := H.top
  constructor
  · intro e; rw [e, hg1] at h1; cases h1
  · intro e; rw [e, hg2] at h1; cases h1
theorem TabD.set (H : TabD w p S T g h blk) {n : Int} {l : List Int} (hn : T.g n = some l) (i : Nat) (x : Int) {w1 : World} (hw : Wrote w w1 (blk.b n) (ints (l.set i x) ++ blk.j n) 3) : TabD w1 p S (T.setG n i x) g h blk := by
  have hnn : T.g n ≠ none := by simp [hn]
  obtain ⟨m1, h1⟩ := H.gm
  obtain ⟨m2, h2⟩ := H.fm
  have hne := H.ne_map hnn
  have dom : ∀ m, (T.setG n i x).g m ≠ none → T.g m ≠ none := by
    intro m hm; simp only [Tab.setG] at hm; split at hm
    · rename_i e; rw [e]; exact hnn
    · exact hm
  refine ⟨(hw.oth p (H.ne_top hnn).symm).trans H.top, ⟨m1, ?_⟩, ⟨m2, h2.same (hw.oth h hne.2.symm)⟩, ?_, fun m hm => H.own m (dom m hm), fun m m' hm hm' => H.inj m m' (dom m hm) (dom m' hm'), H.gh, H.sp, H.sg, H.sh, fun k h => by rw [hw.size]; exact H.slt k h⟩
  · have e : (fun m => ((T.setG n i x).g m).map (slV (blk.b m) (blk.j m).length)) = fun m => (T.g m).map (slV (blk.b m) (blk.j m).length) := by
      funext m
      simp only [Tab.setG]
      split
      · rename_i e; subst e; simp [hn, slV]
      · rfl
    rw [e]
    exact h1.same (hw.oth g hne.1.symm)
  · intro m l' hl'
    simp only [Tab.setG] at hl'
    split at hl'
    · rename_i e; subst e
      rw [hn] at hl'; simp at hl'; subst hl'
      exact hw.blk
    · rename_i e
      have : blk.b m ≠ blk.b n := fun h => e (H.inj m n (by simp [hl']) hnn h)
      rw [hw.oth _ this]
      exact H.row m l' hl'
theorem TabD.imapF (H : TabD w p S T g h blk) {b : Int} {v : Option (Int × Int)} {w1 : World} {m : Nat} (hb : But (fun k => k = h) w w1) (hi : IMap w1 h m (fun x => if x = b then v.map spotV else (T.f x).map spotV)) :
    TabD w1 p S ⟨T.g, fun x => if x = b then v else T.f x⟩ g h blk := by
  obtain ⟨m1, h1⟩ := H.gm
  have t := H.top_ne
  refine ⟨hb.blk t.2 H.top, ⟨m1, hb.imap H.gh h1⟩, ⟨m, ?_⟩, fun n l hl => hb.blk (H.ne_map (by simp [show T.g n = some l from hl])).2 (H.row n l hl), H.own, H.inj, H.gh, H.sp, H.sg, H.sh, fun k h => Nat.lt_of_lt_of_le (H.slt k h) hb.size⟩
  have e : (fun x => (if x = b then v else T.f x).map spotV) = fun x => if x = b then v.map spotV else (T.f x).map spotV := by
    funext x; split <;> rfl
  show IMap w1 h m fun x => (if x = b then v else T.f x).map spotV
  rw [e]; exact hi
theorem But.block1 (w : World) (k : Nat) (o : Obj) : But (fun i => i = k) w (ChangeMaps.setBlock w k o) := But.setBlock (But.refl _ w) o (.inl rfl)
theorem upd_if (f : Int → Option (Int × Int)) (n : Int) (s : Int × Int) : upd (fun b => (f b).map spotV) n (spotV s) = fun x => if x = n then (some s).map spotV else (f x).map spotV := rfl
theorem del_if (f : Int → Option (Int × Int)) (n : Int) : del (fun b => (f b).map spotV) n = fun x => if x = n then (none : Option (Int × Int)).map spotV else (f x).map spotV := rfl

theorem zero_spot (w : World) : (zeroValue 128).run Try.prog w = .ok (.agg #[.int .i64 0, .int .i64 0]) w := by kernel_rfl
variable {ops : Array Oper} {rest : List Oper} {o : Oper} {a : Act} {Q : Exit → Act → World → Prop}
/-- groups[n][i] = x -/
theorem wpList_slot (H : TabD w p S T g h blk) {n : Int} {l : List Int} (hn : T.g n = some l) {i : Nat} (hi : i < l.length) (x : Int) (hgd : Region.wanted o (yielded ops a.tmps) = true) (ad y : Operand) (ho : o.op = .store 3 ad y)
    (had : a.eval ad = .pointer (some ⟨blk.b n, i, none⟩)) (hy : a.eval y = .int .i64 x)
    (hK : ∀ w1, TabD w1 p S (T.setG n i x) g h blk → But S w w1 → wpList Try.prog ops Q rest (a.put o.dst undef) w1) : wpList Try.prog ops Q (o :: rest) a w :=
  wpList_set_cell hgd ad y ho size_int (blk.b n) i had (.int .i64 x) hy rfl rfl (ints l ++ blk.j n) 3 (H.row n l hn) (by rw [List.length_append, ints_length]; omega) fun w1 hw => by
    rw [List.set_append_left _ _ (by rw [ints_length]; exact hi), ints_set] at hw
    exact hK w1 (H.set hn i x hw) (But.wrote hw (H.own n (by simp [hn])))
/-- where[b] = s -/
theorem wpList_where (H : TabD w p S T g h blk) (b : Int) (s : Int × Int) (hgd : Region.wanted o (yielded ops a.tmps) = true) (m x y : Operand) (ho : o.op = .mapUpdate 119 m x y)
    (hm : a.eval m = .map (some h)) (hx : a.eval x = .int .i64 b) (hy : a.eval y = .agg #[.int .i64 s.1, .int .i64 s.2])
    (hK : ∀ w1, TabD w1 p S (T.setF b s) g h blk → But S w w1 → wpList Try.prog ops Q rest (a.put o.dst undef) w1) : wpList Try.prog ops Q (o :: rest) a w := by
  obtain ⟨c, hc⟩ := H.fm
  refine wpList_update_im hgd m x y ho Try.underlying119 Try.underlying3 hm b hx _ hy hc fun o' hi => ?_
  exact hK _ (H.imapF (v := some s) (But.block1 w h o') (by rw [← upd_if]; exact hi)) ((But.block1 w h o').mono fun i e => by rw [e]; exact H.sh)
/-- delete(where, b) -/
theorem wpList_where_del (H : TabD w p S T g h blk) (b : Int) (hgd : Region.wanted o (yielded ops a.tmps) = true) (m x : Operand) (ho : o.op = .call { callee := .builtin .delete, args := #[m, x], argTypes := #[119, 3] })
    (hm : a.eval m = .map (some h)) (hx : a.eval x = .int .i64 b)
    (hK : ∀ w1, TabD w1 p S (T.delF b) g h blk → But S w w1 → wpList Try.prog ops Q rest (a.put o.dst (.tuple #[])) w1) : wpList Try.prog ops Q (o :: rest) a w := by
  obtain ⟨c, hc⟩ := H.fm
  refine wpList_delete_im hgd m x ho Try.underlying119 Try.underlying3 hm b hx hc fun o' hi => ?_
  exact hK _ (H.imapF (v := none) (But.block1 w h o') (by rw [← del_if]; exact hi)) ((But.block1 w h o').mono fun i e => by rw [e]; exact H.sh)
/-- where[b] is read -/
theorem wpList_find (H : TabD w p S T g h blk) (b : Int) (hgd : Region.wanted o (yielded ops a.tmps) = true) (m x : Operand) (ho : o.op = .lookup 119 m x true) (hm : a.eval m = .map (some h)) (hx : a.eval x = .int .i64 b) (v : Value)
    (hv : (match T.f b with | some s => .tuple #[.agg #[.int .i64 s.1, .int .i64 s.2], .bool true] | none => .tuple #[.agg #[.int .i64 0, .int .i64 0], .bool false]) = v)
    (hK : wpList Try.prog ops Q rest (a.put o.dst v) w) : wpList Try.prog ops Q (o :: rest) a w := by
  obtain ⟨c, hc⟩ := H.fm
  refine wpList_lookup_im hgd m x true ho Try.underlying119 Try.underlying3 zero_spot hm b hx hc v ?_ hK
  rw [← hv]
  cases T.f b <;> rfl
theorem wpList_find1 (H : TabD w p S T g h blk) (b : Int) {s : Int × Int} (hs : T.f b = some s) (hgd : Region.wanted o (yielded ops a.tmps) = true) (m x : Operand) (ho : o.op = .lookup 119 m x false) (hm : a.eval m = .map (some h)) (hx : a.eval x = .int .i64 b)
    (hK : wpList Try.prog ops Q rest (a.put o.dst (.agg #[.int .i64 s.1, .int .i64 s.2])) w) : wpList Try.prog ops Q (o :: rest) a w := by
  obtain ⟨c, hc⟩ := H.fm
  refine wpList_lookup_im hgd m x false ho Try.underlying119 Try.underlying3 zero_spot hm b hx hc _ ?_ hK
  simp [hs, spotV]
theorem still_look {K : Act → Prop} (H : TabD w p S T g h blk) {n : Int} {l : List Int} (hn : T.g n = some l) (hw : Region.wanted o (yielded ops a.tmps) = true) (m x : Operand) (ho : o.op = .lookup 118 m x false) (hm : a.eval m = .map (some g)) (hx : a.eval x = .int .i64 n)
    (hK : wpStill Try.prog ops w K rest (a.put o.dst (.slice (some ⟨blk.b n, 0, none⟩) l.length (l.length + (blk.j n).length)))) : wpStill Try.prog ops w K (o :: rest) a := by
  obtain ⟨c, hc⟩ := H.gm
  refine wpStill_val hw ?_ hK
  have := exec_lookup m x false ho Try.underlying118 Try.underlying3 zero_slice hm n hx hc
  simpa [hn, slV] using this
theorem TabD.cell (H : TabD w p S T g h blk) {n : Int} {l : List Int} (hn : T.g n = some l) {i : Nat} (hi : i < l.length) : w.cell? ⟨blk.b n, i, none⟩ = some (.int .i64 l[i]) := by
  rw [cell_of_row _ _ _ _ _ _ (H.row n l hn), List.getElem?_toArray, List.getElem?_append_left (by rw [ints_length]; exact hi)]
  simp [ints, hi]
end
end Go.Proofs.Ytglplhmclfekfaa
