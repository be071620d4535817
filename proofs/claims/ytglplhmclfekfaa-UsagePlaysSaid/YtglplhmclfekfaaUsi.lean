/- Open. -/
import Derived.Test.YtglplhmclfekfaaUsh
namespace Go.Proofs.Ytglplhmclfekfaa
open Go.RowKit Go.ChangeMaps Go.MapKept
set_option linter.unusedVariables false
set_option linter.unusedSimpArgs false

def Tab.open_ (T : Tab) (n : Int) (N : Nat) : Tab := ⟨fun x => if x = n then some (List.replicate N (-1)) else T.g x, T.f⟩
section
variable {w : World} {p : Nat} {S : Nat → Prop} {T : Tab}
theorem TabD.opened {w3 w4 : World} {g h B N m : Nat} {blk : Blk} {n : Int} (H : TabD w3 p S T g h blk) (hn : T.g n = none) (hm : IMap w3 g m (fun n => (T.g n).map (slV (blk.b n) (blk.j n).length)))
    (hi : IMap w4 g (m + 1) (upd (fun n => (T.g n).map (slV (blk.b n) (blk.j n).length)) n (.slice (some ⟨B, 0, none⟩) N N))) (hB : w.heap.size ≤ B) (hb : w3.heap[B]? = some (.cells (ints (List.replicate N (-1))).toArray 3 (0, 0)))
    (hlt : ∀ x, T.g x ≠ none → blk.b x < w.heap.size) (hbt : But (fun k => k = g) w3 w4) :
    TabD w4 p (fun k => S k ∨ k = B) (T.open_ n N) g h ⟨fun x => if x = n then B else blk.b x, fun x => if x = n then [] else blk.j x⟩ := by
  have hBg : B ≠ g := by
    obtain ⟨_, _, hg1, _⟩ := hm
    intro e; rw [e, hg1] at hb; cases hb
  obtain ⟨m2, h2⟩ := H.fm
  have dom : ∀ x, (T.open_ n N).g x ≠ none → x = n ∨ T.g x ≠ none := by
    intro x hx; simp only [Tab.open_] at hx; split at hx
    · exact .inl ‹_›
    · exact .inr hx
  refine ⟨hbt.blk H.top_ne.1 H.top, ⟨m + 1, ?_⟩, ⟨m2, hbt.imap H.gh.symm h2⟩, ?_, ?_, ?_, H.gh, .inl H.sp, .inl H.sg, .inl H.sh, fun k hk => Nat.lt_of_lt_of_le (by rcases hk with h | h; exact H.slt k h; rw [h]; exact (Array.getElem?_eq_some_iff.1 hb).1) hbt.size⟩
  · show IMap w4 g (m + 1) (fun x => ((T.open_ n N).g x).map (slV (if x = n then B else blk.b x) (if x = n then [] else blk.j x).length))
    have e : (fun x => ((T.open_ n N).g x).map (slV (if x = n then B else blk.b x) (if x = n then [] else blk.j x).length)) = upd (fun n => (T.g n).map (slV (blk.b n) (blk.j n).length)) n (.slice (some ⟨B, 0, none⟩) N N) := by
      funext x
      simp only [Tab.open_, upd]
      split
      · simp [slV]
      · rfl
    rw [e]; exact hi
  · intro x l hl
    simp only [Tab.open_] at hl
    show w4.heap[if x = n then B else blk.b x]? = some (.cells (ints l ++ (if x = n then [] else blk.j x)).toArray 3 (0, 0))
    split at hl
    · rename_i e; simp at hl; subst hl
      rw [if_pos e, if_pos e, List.append_nil]; exact hbt.blk hBg hb
    · rename_i e
      rw [if_neg e, if_neg e]; exact hbt.blk (H.ne_map (by simp [hl])).1 (H.row x l hl)
  · intro x hx
    show S (if x = n then B else blk.b x) ∨ (if x = n then B else blk.b x) = B
    split
    · exact .inr rfl
    · rcases dom x hx with h' | h'
      · contradiction
      · exact .inl (H.own x h')
  · intro x y hx hy hxy
    replace hxy : (if x = n then B else blk.b x) = (if y = n then B else blk.b y) := hxy
    split at hxy <;> split at hxy
    · rename_i a b; rw [a, b]
    · rename_i a b
      rcases dom y hy with h' | h'
      · contradiction
      · have := hlt y h'; omega
    · rename_i a b
      rcases dom x hx with h' | h'
      · contradiction
      · have := hlt x h'; omega
    · rename_i a b
      rcases dom x hx with h' | h'
      · contradiction
      · rcases dom y hy with h'' | h''
        · contradiction
        · exact H.inj x y h' h'' hxy

set_option maxHeartbeats 1000000
set_option maxRecDepth 100000
theorem tab_Open (H : TabAt w p S T) (n : Int) (N : Nat) (hn0 : 0 ≤ n) (hN : 1 ≤ N) (hM : N ≤ 4096) (hn : T.g n = none) :
    Calls Try.prog 27 #[.pointer (some ⟨p, 0, none⟩), .int .i64 n, .int .i64 N] w fun e w' => e = .returned (.int .i64 0) ∧ ∃ S', TabAt w' p S' (T.open_ n N) ∧ (∀ k, S' k → S k ∨ w.heap.size ≤ k) ∧ But S w w' := by
  obtain ⟨g, h, blk, H⟩ := H
  have c0 := H.c0
  have lt0 := H.lt.1
  have HN := Lib.hid hn; clear hn
  have e1 := ne_nil
  go_enter Try.func27, Try.ntmps27
  go_wp2_with (at_lookup; refine wpList_look_none H HN.out rfl _ _ rfl rfl rfl ?_)
  have hS : w.drew.cell? ⟨p, 0, none⟩ = some (.map (some g)) := by simpa using c0
  have hS1 : ∀ o, (w.alloc o).drew.cell? ⟨p, 0, none⟩ = some (.map (some g)) := fun o => (((Kept.refl w).alloc o).drew).cell' c0
  refine wp_region_calm ?_
  refine wp_region_E (fun W => W.cell? ⟨p, 0, none⟩ = some (.map (some g))) 100 (by kernel_rfl) ?_
  refine wpAnyE_take (i := 0) (v := ?_) (listed' := #[true, false, false, false, false, false, false, false, false]) (by rfl) (by kernel_rfl) (by kernel_rfl) calm_put hS (by rfl) ?_ ?_
  rotate_left
  · intro W hW; clear hW; go_simp; try (with_reducible rfl)
  simp only [Act.put, List.getElem_toArray, List.getElem_cons_succ, List.getElem_cons_zero, List.setIfInBounds_toArray, List.set_cons_zero, List.set_cons_succ]
  refine wpAnyE_take (i := 1) (v := ?_) (listed' := #[true, true, false, false, false, false, false, false, false]) (by rfl) (by kernel_rfl) (by kernel_rfl) calm_put hS (by rfl) ?_ ?_
  rotate_left
  · intro W hW; clear hW; go_simp; try (with_reducible rfl)
  simp only [Act.put, List.getElem_toArray, List.getElem_cons_succ, List.getElem_cons_zero, List.setIfInBounds_toArray, List.set_cons_zero, List.set_cons_succ]
  refine wpAnyE_take (i := 2) (v := ?_) (listed' := #[true, true, true, false, false, false, false, false, false]) (by rfl) (by kernel_rfl) (by kernel_rfl) calm_put hS (by rfl) ?_ ?_
  rotate_left
  · intro W hW; clear hW; go_simp; try (with_reducible rfl)
  simp only [Act.put, List.getElem_toArray, List.getElem_cons_succ, List.getElem_cons_zero, List.setIfInBounds_toArray, List.set_cons_zero, List.set_cons_succ]
  refine wpAnyE_take (i := 3) (v := ?_) (listed' := #[true, true, true, true, false, false, false, false, false]) (by rfl) (by kernel_rfl) (by kernel_rfl) calm_put hS (by rfl) ?_ ?_
  rotate_left
  · intro W hW; go_simp; try (with_reducible rfl)
  simp only [Act.put, List.getElem_toArray, List.getElem_cons_succ, List.getElem_cons_zero, List.setIfInBounds_toArray, List.set_cons_zero, List.set_cons_succ]
  refine wpAnyE_take (i := 4) (v := ?_) (listed' := #[true, true, true, true, true, false, false, false, false]) (by rfl) (by kernel_rfl) (by kernel_rfl) calm_put hS (by rfl) ?_ ?_
  rotate_left
  · intro W hW; clear hW; go_simp; try (with_reducible rfl)
  simp only [Act.put, List.getElem_toArray, List.getElem_cons_succ, List.getElem_cons_zero, List.setIfInBounds_toArray, List.set_cons_zero, List.set_cons_succ]
  refine wpAnyE_take (i := 6) (v := ?_) (listed' := #[true, true, true, true, true, false, true, false, false]) (by rfl) (by kernel_rfl) (by kernel_rfl) calm_put hS (by rfl) ?_ ?_
  rotate_left
  · intro W hW; clear hW; go_simp; try (with_reducible rfl)
  simp only [Act.put, List.getElem_toArray, List.getElem_cons_succ, List.getElem_cons_zero, List.setIfInBounds_toArray, List.set_cons_zero, List.set_cons_succ]
  refine wpAnyE_one (i := 5) (listed' := #[true, true, true, true, true, true, true, false, false]) (by rfl) (by kernel_rfl) (by kernel_rfl) (by rfl) (fun K hK => ?_)
  simp only [Act.put, List.getElem_toArray, List.getElem_cons_succ, List.getElem_cons_zero, List.setIfInBounds_toArray, List.set_cons_zero, List.set_cons_succ]
  go_wp2
  refine hK _ _ (fun _ => hS1 _) ?_; clear hK K
  have hS := hS1 (Obj.cells #[Value.int IntKind.i64 (-1)] 3)
  refine wpAnyE_one (i := 7) (listed' := #[true, true, true, true, true, true, true, true, false]) (by rfl) (by kernel_rfl) (by kernel_rfl) (by rfl) (fun K hK => ?_)
  simp only [Act.put, List.getElem_toArray, List.getElem_cons_succ, List.getElem_cons_zero, List.setIfInBounds_toArray, List.set_cons_zero, List.set_cons_succ]
  go_wp2_with (go_at_call 89; refine (slices_Repeat _ N _ (by simp) hN hM).mono ?_; rintro e w3 ⟨B, rfl, hB3, hgB, hk3⟩; have HB3 := Lib.hid hB3; clear hB3)
  have hkw : Kept w w3 := (((Kept.refl w).alloc _).drew).trans hk3
  have hS := hkw.cell' c0
  refine hK _ _ (fun _ => hS) ?_; clear hK K
  refine wpAnyE_one (i := 8) (listed' := #[true, true, true, true, true, true, true, true, true]) (by rfl) (by kernel_rfl) (by kernel_rfl) (by rfl) (fun K hK => ?_)
  simp only [Act.put, List.getElem_toArray, List.getElem_cons_succ, List.getElem_cons_zero, List.setIfInBounds_toArray, List.set_cons_zero, List.set_cons_succ]
  have H3 := H.same hkw
  obtain ⟨m, hm⟩ := H3.gm
  refine wp_update_im _ _ _ (by rfl) Try.underlying118 Try.underlying3 (by rfl) n (by rfl) _ (by rfl) hm ?_
  intro o' hi'
  have hbt := But.block1 w3 g o'
  refine hK _ _ (fun _ => hbt.cell H3.top_ne.1 hS) ?_; clear hK K
  refine wpAnyE_done (by kernel_rfl) ?_ _
  refine calm_normal ?_
  go_wp2
  go_ret
  have hBg : w.heap.size ≤ B := by have h1 := hgB; simp at h1; omega
  refine ⟨rfl, fun k => S k ∨ k = B, ⟨g, h, ⟨fun x => if x = n then B else blk.b x, fun x => if x = n then [] else blk.j x⟩, H3.opened HN.out hm hi' hBg HB3.out (fun x hx => (H.lt.2.2.2 x hx)) hbt⟩, fun k hk => ?_, ?_⟩
  · rcases hk with hk | rfl
    · exact .inl hk
    · exact .inr hBg
  · exact (But.kept hkw).trans (hbt.mono fun i e => by rw [e]; exact H.sg)
end
end Go.Proofs.Ytglplhmclfekfaa
