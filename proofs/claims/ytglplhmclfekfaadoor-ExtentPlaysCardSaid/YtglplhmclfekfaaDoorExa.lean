/- extent.Map: what the memory of one reads as; New, Used, Room, Take. -/
import Derived.Test.YtglplhmclfekfaaDoorBme
import Derived.Test.YtglplhmclfekfaaDoorMap
import Derived.Maps.OwnOps
namespace Go.Proofs.YtglplhmclfekfaaDoor
open Go.RowKit Go.ChangeMaps Go.MapKept
set_option linter.unusedVariables false
set_option linter.unusedSimpArgs false

/-- a map of extents: of each member, how many it has, and which are taken -/
def XT : Type := Int → Option (Nat × (Nat → Bool))
def ptrV (b : Nat) : Value := .pointer (some ⟨b, 0, none⟩)
structure XD (w : World) (q : Nat) (S : Nat → Prop) (E : XT) (g : Nat) (blk : Int → Nat) : Prop where
  top : w.heap[q]? = some (.cells #[.map (some g)] 51 (0, 0))
  gm : ∃ m, IMap w g m (fun d => (E d).map fun _ => ptrV (blk d))
  row : ∀ d n s, E d = some (n, s) → BMap w (blk d) n s
  own : ∀ d, E d ≠ none → S (blk d)
  inj : ∀ d d', E d ≠ none → E d' ≠ none → blk d = blk d' → d = d'
  sp : S q
  sg : S g
  slt : ∀ k, S k → k < w.heap.size
/-- Block q of w is a map of extents that reads as E; S names all its blocks. -/
def XAt (w : World) (q : Nat) (S : Nat → Prop) (E : XT) : Prop := ∃ g blk, XD w q S E g blk
theorem BMap.kept {w w' : World} {p n : Nat} {s : Nat → Bool} (h : BMap w p n s) (hk : Kept w w') : BMap w' p n s := h.same (hk.block_eq h.lt)
section
variable {w w' : World} {q : Nat} {S : Nat → Prop} {E : XT} {g : Nat} {blk : Int → Nat}
theorem XD.same (H : XD w q S E g blk) (hk : Kept w w') : XD w' q S E g blk := by
  obtain ⟨m1, h1⟩ := H.gm
  exact ⟨hk.block H.top, ⟨m1, h1.kept hk⟩, fun d n s h => (H.row d n s h).kept hk, H.own, H.inj, H.sp, H.sg, fun k h => Nat.lt_of_lt_of_le (H.slt k h) hk.size⟩
theorem XAt.kept (H : XAt w q S E) (hk : Kept w w') : XAt w' q S E := by
  obtain ⟨g, blk, H⟩ := H
  exact ⟨g, blk, H.same hk⟩
theorem XD.but {R : Nat → Prop} (H : XD w q S E g blk) (hk : But R w w') (hr : ∀ k, S k → ¬ R k) : XD w' q S E g blk := by
  obtain ⟨m1, h1⟩ := H.gm
  exact ⟨hk.blk (hr _ H.sp) H.top, ⟨m1, hk.imap (hr _ H.sg) h1⟩, fun d n s h => (H.row d n s h).same (hk.block _ (H.row d n s h).lt (hr _ (H.own d (by rw [h]; simp)))), H.own, H.inj, H.sp, H.sg, fun k h => Nat.lt_of_lt_of_le (H.slt k h) hk.size⟩
theorem XD.c0 (H : XD w q S E g blk) : w.cell? ⟨q, 0, none⟩ = some (.map (some g)) := by
  rw [cell_of_row _ _ _ _ _ _ H.top]; rfl
theorem XD.ne (H : XD w q S E g blk) {d : Int} (hd : E d ≠ none) : blk d ≠ q ∧ blk d ≠ g := by
  obtain ⟨_, _, _, hg1, _⟩ := H.gm
  cases hE : E d with
  | none => exact absurd hE hd
  | some x =>
    obtain ⟨n, s⟩ := x
    obtain ⟨_, _, ws, _, hb, _⟩ := H.row d n s hE
    constructor
    · intro e
      rw [e, H.top] at hb
      have h2 : (51 : Nat) = 76 := by
        injection hb with h1; injection h1 with _ h1 _
      exact absurd h2 (by decide)
    · intro e; rw [e, hg1] at hb; cases hb
theorem XD.qg (H : XD w q S E g blk) : q ≠ g := by
  obtain ⟨_, _, _, hg1, _⟩ := H.gm
  intro e; have h1 := H.top; rw [e, hg1] at h1; cases h1
def XT.set (E : XT) (d : Int) (n : Nat) (s : Nat → Bool) : XT := fun x => if x = d then some (n, s) else E x
/-- a member's map is turned -/
theorem XD.turn (H : XD w q S E g blk) {d : Int} {n : Nat} {s s' : Nat → Bool} (hd : E d = some (n, s)) (hb : BMap w' (blk d) n s') (hk : But (fun k => k = blk d) w w') : XD w' q S (E.set d n s') g blk := by
  have hdn : E d ≠ none := by rw [hd]; simp
  have hne := H.ne hdn
  obtain ⟨m1, h1⟩ := H.gm
  have dom : ∀ x, (E.set d n s') x ≠ none → E x ≠ none := by
    intro x hx; unfold XT.set at hx; split at hx
    · rename_i e; rw [e]; exact hdn
    · exact hx
  refine ⟨hk.blk hne.1.symm H.top, ⟨m1, ?_⟩, fun x m t hx => ?_, fun x hx => H.own x (dom x hx), fun x y hx hy => H.inj x y (dom x hx) (dom y hy), H.sp, H.sg, fun k h => Nat.lt_of_lt_of_le (H.slt k h) hk.size⟩
  · have e : (fun x => ((E.set d n s') x).map fun _ => ptrV (blk x)) = fun x => (E x).map fun _ => ptrV (blk x) := by
      funext x
      unfold XT.set
      split
      · rename_i e; subst e; simp [hd]
      · rfl
    rw [e]
    exact hk.imap hne.2.symm h1
  · unfold XT.set at hx
    split at hx
    · rename_i e; subst e
      injection hx with hx; injection hx with h1 h2; subst h1; subst h2
      exact hb
    · rename_i e
      have hxn : E x ≠ none := by rw [hx]; simp
      exact (H.row x m t hx).same (hk.block _ (H.row x m t hx).lt fun hb => e (H.inj x d hxn hdn hb))
theorem zero_ptr (w : World) : (zeroValue 52).run Tryd.prog w = .ok (.pointer none) w := by kernel_rfl
variable {ops : Array Oper} {rest : List Oper} {o : Oper} {a : Act} {Q : Exit → Act → World → Prop}
/-- members[d] is read -/
theorem wpList_mem_some (H : XD w q S E g blk) {d : Int} {n : Nat} {s : Nat → Bool} (hd : E d = some (n, s)) (hgd : Region.wanted o (yielded ops a.tmps) = true) (m x : Operand) (ho : o.op = .lookup 49 m x false) (hm : a.eval m = .map (some g)) (hx : a.eval x = .int .i64 d)
    (hK : wpList Tryd.prog ops Q rest (a.put o.dst (.pointer (some ⟨blk d, 0, none⟩))) w) : wpList Tryd.prog ops Q (o :: rest) a w := by
  obtain ⟨c, hc⟩ := H.gm
  exact wpList_lookup_im hgd m x false ho Tryd.underlying49 Tryd.underlying3 zero_ptr hm d hx hc _ (by simp [hd, ptrV]) hK
theorem wpList_mem_none (H : XD w q S E g blk) {d : Int} (hd : E d = none) (hgd : Region.wanted o (yielded ops a.tmps) = true) (m x : Operand) (ho : o.op = .lookup 49 m x false) (hm : a.eval m = .map (some g)) (hx : a.eval x = .int .i64 d)
    (hK : wpList Tryd.prog ops Q rest (a.put o.dst (.pointer none)) w) : wpList Tryd.prog ops Q (o :: rest) a w := by
  obtain ⟨c, hc⟩ := H.gm
  exact wpList_lookup_im hgd m x false ho Tryd.underlying49 Tryd.underlying3 zero_ptr hm d hx hc _ (by simp [hd]) hK
end
section
variable {w : World} {q : Nat} {S : Nat → Prop} {E : XT}
set_option maxHeartbeats 1000000
set_option maxRecDepth 100000
def XT.none_ : XT := fun _ => none
theorem ext_New (w : World) : Calls Tryd.prog 6 #[] w fun e w' => ∃ q S, e = .returned (.pointer (some ⟨q, 0, none⟩)) ∧ XAt w' q S XT.none_ ∧ Kept w w' ∧ (∀ k, S k → w.heap.size ≤ k) := by
  have hmm := @run_makeMap Tryd.prog
  go_enter Tryd.func6, Tryd.ntmps6
  go_wp2
  go_ret
  refine ⟨w.heap.size + 1, fun k => w.heap.size ≤ k ∧ k < w.heap.size + 2, rfl, ⟨w.heap.size, fun _ => 0, ?_⟩, (((Kept.refl w).alloc _).alloc _), fun k h => h.1⟩
  have h3 := heap_alloc_new (w.alloc (.map #[] 0)) (.cells #[.map (some w.heap.size)] 51)
  simp only [World.size_alloc] at h3
  exact ⟨h3, ⟨0, (IMap.made w).kept ((Kept.refl _).alloc _)⟩, (fun d n s h => by cases h), fun d h => absurd rfl h, fun d _ h => absurd rfl h, ⟨by omega, by omega⟩, ⟨by omega, by omega⟩, fun k h => by simp only [World.size_alloc]; omega⟩
def usedX (E : XT) (d : Int) : Nat := match E d with | some (n, s) => cntS n s | none => 0
def roomX (E : XT) (d : Int) : Nat := match E d with | some (n, s) => n - cntS n s | none => 0
theorem ext_Used (H : XAt w q S E) (d : Int) : Calls Tryd.prog 14 #[.pointer (some ⟨q, 0, none⟩), .int .i64 d] w fun e w' => e = .returned (.int .i64 (usedX E d : Int)) ∧ w = w' := by
  obtain ⟨g, blk, H⟩ := H
  have c0 := H.c0
  cases hd : E d with
  | none =>
    have HD := Lib.hid hd; clear hd
    have e : usedX E d = 0 := by unfold usedX; rw [HD.out]
    rw [e]
    go_enter Tryd.func14, Tryd.ntmps14
    go_wp2_with (at_lookup; refine wpList_mem_none H HD.out rfl _ _ rfl rfl rfl ?_)
    go_ret
    exact ⟨rfl, rfl⟩
  | some x =>
    obtain ⟨n, s⟩ := x
    have HD := Lib.hid hd; clear hd
    have HC := Lib.hid (bits_Count (H.row d n s HD.out))
    have e : usedX E d = cntS n s := by unfold usedX; rw [HD.out]
    rw [e]
    go_enter Tryd.func14, Tryd.ntmps14
    go_wp2_with (first
      | (at_lookup; refine wpList_mem_some H HD.out rfl _ _ rfl rfl rfl ?_)
      | (go_at_call 29; refine Calls.mono HC.out ?_; rintro e w' ⟨rfl, rfl⟩))
    go_ret
    exact ⟨rfl, rfl⟩
theorem ext_Room (H : XAt w q S E) (d : Int) : Calls Tryd.prog 10 #[.pointer (some ⟨q, 0, none⟩), .int .i64 d] w fun e w' => e = .returned (.int .i64 (roomX E d : Int)) ∧ w = w' := by
  obtain ⟨g, blk, H⟩ := H
  have c0 := H.c0
  cases hd : E d with
  | none =>
    have HD := Lib.hid hd; clear hd
    have e : roomX E d = 0 := by unfold roomX; rw [HD.out]
    rw [e]
    go_enter Tryd.func10, Tryd.ntmps10
    go_wp2_with (at_lookup; refine wpList_mem_none H HD.out rfl _ _ rfl rfl rfl ?_)
    go_ret
    exact ⟨rfl, rfl⟩
  | some x =>
    obtain ⟨n, s⟩ := x
    have HD := Lib.hid hd; clear hd
    have HC := Lib.hid (bits_Count (H.row d n s HD.out))
    have HL := Lib.hid (bits_Len (H.row d n s HD.out))
    have hle := cnt_le n s
    have hn := (H.row d n s HD.out).1
    have e : (roomX E d : Int) = (n : Int) - (cntS n s : Int) := by unfold roomX; rw [HD.out]; show ((n - cntS n s : Nat) : Int) = _; omega
    rw [e]
    generalize cntS n s = c at *
    go_enter Tryd.func10, Tryd.ntmps10
    go_wp2_with (first
      | (at_lookup; refine wpList_mem_some H HD.out rfl _ _ rfl rfl rfl ?_)
      | (go_at_call 28; refine Calls.mono HL.out ?_; rintro e w' ⟨rfl, rfl⟩)
      | (go_at_call 29; refine Calls.mono HC.out ?_; rintro e w' ⟨rfl, rfl⟩))
    go_ret
    exact ⟨rfl, rfl⟩
end
end Go.Proofs.YtglplhmclfekfaaDoor
