/- usage.Table: Put. -/
import Derived.Test.YtglplhmclfekfaaUsb
namespace Go.Proofs.Ytglplhmclfekfaa
open Go.RowKit Go.ChangeMaps Go.MapKept
set_option linter.unusedVariables false
set_option linter.unusedSimpArgs false

def Tab.clr (T : Tab) (b : Int) : Tab := match T.f b with | some s => T.setG s.1 s.2.toNat (-1) | none => T
def Tab.put (T : Tab) (n : Int) (i : Nat) (b : Int) : Tab := ((T.clr b).setF b (n, i)).setG n i b

section
variable {w : World} {p : Nat} {S : Nat → Prop} {T : Tab}
set_option maxHeartbeats 1000000
set_option maxRecDepth 100000
theorem tab_Put_new (H : TabAt w p S T) (n b : Int) {l : List Int} (hn : T.g n = some l) {i : Nat} (hi : i < l.length) (hd : l[i] = -1) (hb : 0 ≤ b) (hf : T.f b = none) (hlen : l.length ≤ 4096) :
    Calls Try.prog 28 #[.pointer (some ⟨p, 0, none⟩), .int .i64 n, .int .i64 i, .int .i64 b] w fun e w' => e = .returned (.int .i64 0) ∧ TabAt w' p S (T.put n i b) ∧ But S w w' := by
  have HA := H
  obtain ⟨g, h, blk, H⟩ := H
  have c0 := H.c0
  have c1 := H.c1
  have ci := H.cell hn hi
  have lt0 := H.lt.1
  rw [hd] at ci
  have HN := Lib.hid hn; clear hn
  have HF := Lib.hid hf; clear hf
  clear hd
  go_enter Try.func28, Try.ntmps28
  go_wp2_with (first
    | (go_at_call 90; refine (tab_in_ok HA n _ HN.out (by omega) (by omega)).mono ?_; rintro e w' ⟨rfl, rfl⟩)
    | (at_lookup; refine wpList_look_some H HN.out rfl _ _ rfl rfl rfl ?_)
    | (at_lookup; refine wpList_find H b rfl _ _ rfl rfl rfl (.tuple #[.agg #[.int .i64 0, .int .i64 0], .bool false]) (by rw [HF.out]) ?_)
    | (refine stop_at (o := ⟨none, .mapUpdate _ _ _ _, _, _, _, _⟩) ?_))
  refine Stop.mk ?_
  have hk : Kept w (w.alloc (Obj.cells #[Value.int IntKind.i64 0, Value.int IntKind.i64 0] 128)) := (Kept.refl w).alloc _
  have HS := H.same hk
  refine wpList_where HS b (n, i) rfl _ _ _ rfl rfl rfl rfl ?_
  intro w1 H1 B1
  have B1' : But S w w1 := (But.kept hk).trans B1
  have HN1 : Hid ((T.setF b (n, i)).g n = some l) := HN
  have c0 := H1.c0
  clear HS hk B1 ci c1
  go_wp2_with (first
    | (at_lookup; refine wpList_look_some H1 HN1.out rfl _ _ rfl rfl rfl ?_)
    | (refine stop_at (o := ⟨none, .store _ _ _, _, _, _, _⟩) ?_))
  refine Stop.mk ?_
  refine wpList_slot H1 HN1.out hi b rfl _ _ rfl rfl rfl ?_
  intro w2 H2 B2
  go_wp2
  go_ret
  refine ⟨rfl, ⟨g, h, blk, ?_⟩, B1'.trans B2⟩
  have e : T.put n i b = (T.setF b (n, i)).setG n i b := by simp [Tab.put, Tab.clr, HF.out]
  rw [e]; exact H2
theorem tab_Put_move (H : TabAt w p S T) (n b : Int) {l : List Int} (hn : T.g n = some l) {i : Nat} (hi : i < l.length) (hd : l[i] = -1) (hb : 0 ≤ b) {g0 : Int} {i0 : Nat} (hf : T.f b = some (g0, ((i0 : Nat) : Int)))
    {l0 : List Int} (hn0 : T.g g0 = some l0) (hi0 : i0 < l0.length) (hlen : l.length ≤ 4096) (hlen0 : l0.length ≤ 4096) :
    Calls Try.prog 28 #[.pointer (some ⟨p, 0, none⟩), .int .i64 n, .int .i64 i, .int .i64 b] w fun e w' => e = .returned (.int .i64 0) ∧ TabAt w' p S (T.put n i b) ∧ But S w w' := by
  have HA := H
  obtain ⟨g, h, blk, H⟩ := H
  have c0 := H.c0
  have c1 := H.c1
  have ci := H.cell hn hi
  have lt0 := H.lt.1
  rw [hd] at ci
  have HN := Lib.hid hn; clear hn
  have HN0 := Lib.hid hn0; clear hn0
  have HF := Lib.hid hf; clear hf
  clear hd
  go_enter Try.func28, Try.ntmps28
  go_wp2_with (first
    | (go_at_call 90; refine (tab_in_ok HA n _ HN.out (by omega) (by omega)).mono ?_; rintro e w' ⟨rfl, rfl⟩)
    | (at_lookup; refine wpList_look_some H HN.out rfl _ _ rfl rfl rfl ?_)
    | (at_lookup; refine wpList_find H b rfl _ _ rfl rfl rfl (.tuple #[.agg #[.int .i64 g0, .int .i64 i0], .bool true]) (by rw [HF.out]) ?_))
  clear ci c1
  refine wp_still_tail 10 (by kernel_rfl) (by kernel_rfl) fun ws hks hhs => ?_
  have hk : Kept w ws := ((Kept.refl w).alloc _).trans hks
  have HS := H.same hk
  have c0 := HS.c0
  have d := hks.block (heap_alloc_new w _)
  have d0 := cell_of_row _ _ 0 _ _ _ d
  have d1 := cell_of_row _ _ 1 _ _ _ d
  clear d hks hhs
  simp only [List.take_succ_cons, List.take_zero, List.drop_succ_cons, List.drop_zero]
  iterate 6 still_step
  refine still_look HS HN0.out rfl _ _ rfl rfl rfl ?_
  simp only [Act.put, List.setIfInBounds_toArray, List.set_cons_zero, List.set_cons_succ]
  iterate 3 still_step
  refine wpStill_nil ?_
  refine wpList_slot HS HN0.out hi0 (-1) rfl _ _ rfl rfl rfl ?_
  intro w1 H1 B1
  have B1' : But S w w1 := (But.kept hk).trans B1
  clear HS hk B1
  have c1 := H1.c1
  have hl' : ∃ l', (T.setG g0 i0 (-1)).g n = some l' ∧ l'.length = l.length := by
    simp only [Tab.setG]
    split
    · rename_i e; subst e
      have : l0 = l := by have := HN0.out; rw [HN.out] at this; injection this with this; exact this.symm
      subst this
      exact ⟨_, by rw [HN0.out]; rfl, by simp⟩
    · exact ⟨l, HN.out, rfl⟩
  obtain ⟨l', hn', hll⟩ := hl'
  have HN1 := Lib.hid hn'; clear hn'
  have HLL := Lib.hid hll
  have hi' : i < l'.length := by omega
  have hlen' : l'.length ≤ 4096 := by omega
  clear hll
  go_wp2_with (refine stop_at (o := ⟨none, .mapUpdate _ _ _ _, _, _, _, _⟩) ?_)
  refine Stop.mk ?_
  refine wpList_where H1 b (n, i) rfl _ _ _ rfl rfl rfl rfl ?_
  intro w2 H2 B2
  have HN2 : Hid (((T.setG g0 i0 (-1)).setF b (n, i)).g n = some l') := HN1
  clear c0 c1
  have c0 := H2.c0
  go_wp2_with (first
    | (at_lookup; refine wpList_look_some H2 HN2.out rfl _ _ rfl rfl rfl ?_)
    | (refine stop_at (o := ⟨none, .store _ _ _, _, _, _, _⟩) ?_))
  refine Stop.mk ?_
  refine wpList_slot H2 HN2.out hi' b rfl _ _ rfl rfl rfl ?_
  intro w3 H3 B3
  go_wp2
  go_ret
  refine ⟨rfl, ⟨g, h, blk, ?_⟩, (B1'.trans B2).trans B3⟩
  have e : T.put n i b = ((T.setG g0 i0 (-1)).setF b (n, i)).setG n i b := by simp [Tab.put, Tab.clr, HF.out]
  rw [e]; exact H3
end
end Go.Proofs.Ytglplhmclfekfaa
