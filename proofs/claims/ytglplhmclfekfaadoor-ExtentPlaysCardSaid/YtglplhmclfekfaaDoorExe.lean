/- extent.Map: Add. -/
import Derived.Test.YtglplhmclfekfaaDoorExd
import Derived.Test.YtglplhmclfekfaaDoorText
namespace Go.Proofs.YtglplhmclfekfaaDoor
open Go.RowKit Go.ChangeMaps Go.MapKept
set_option linter.unusedVariables false
set_option linter.unusedSimpArgs false

theorem But.block1 (w : World) (k : Nat) (o : Obj) : But (fun i => i = k) w (ChangeMaps.setBlock w k o) := But.setBlock (But.refl _ w) o (.inl rfl)
section
variable {w w' : World} {q : Nat} {S : Nat → Prop} {E : XT} {g : Nat} {blk : Int → Nat}
/-- a member more: block B is its map -/
theorem XD.added {d : Int} {n B m : Nat} {w3 w4 : World} (H : XD w q S E g blk) (hd : E d = none) (hkw : Kept w w3) (hB : BMap w3 B n (fun _ => false)) (hBs : w.heap.size ≤ B) (hbt : But (fun i => i = g) w3 w4)
    (hi : IMap w4 g m (upd (fun x => (E x).map fun _ => ptrV (blk x)) d (ptrV B))) : XD w4 q (fun k => S k ∨ k = B) (E.set d n (fun _ => false)) g (fun x => if x = d then B else blk x) := by
  have H3 := H.same hkw
  have hgl := H.slt g H.sg
  have lt : ∀ x, E x ≠ none → blk x < w.heap.size := fun x hx => H.slt _ (H.own x hx)
  have dom : ∀ x, (E.set d n (fun _ => false)) x ≠ none → x = d ∨ E x ≠ none := by
    intro x hx; unfold XT.set at hx; split at hx
    · rename_i e; exact .inl e
    · exact .inr hx
  refine ⟨hbt.blk H3.qg H3.top, ⟨m, ?_⟩, ?_, ?_, ?_, .inl H.sp, .inl H.sg, ?_⟩
  · have e : (fun x => ((E.set d n (fun _ => false)) x).map fun _ => ptrV (if x = d then B else blk x)) = upd (fun x => (E x).map fun _ => ptrV (blk x)) d (ptrV B) := by
      funext x
      unfold XT.set upd
      split
      · rfl
      · rfl
    rw [e]; exact hi
  · intro x k t hx
    unfold XT.set at hx
    by_cases hxd : x = d
    · subst hxd
      rw [if_pos rfl] at hx ⊢
      injection hx with hx; injection hx with h1 h2; subst h1; subst h2
      exact hB.same (hbt.block B hB.lt (by show ¬ B = g; omega))
    · rw [if_neg hxd] at hx ⊢
      have hxn : E x ≠ none := by rw [hx]; simp
      exact (H3.row x k t hx).same (hbt.block _ (H3.row x k t hx).lt (H3.ne hxn).2)
  · intro x hx
    by_cases hxd : x = d
    · rw [if_pos hxd]; exact .inr rfl
    · rw [if_neg hxd]
      rcases dom x hx with h | h
      · exact absurd h hxd
      · exact .inl (H.own x h)
  · intro x y hx hy hxy
    rcases dom x hx with h1 | h1 <;> rcases dom y hy with h2 | h2
    · rw [h1, h2]
    · by_cases hyd : y = d
      · rw [h1, hyd]
      · rw [if_pos h1, if_neg hyd] at hxy; have := lt y h2; omega
    · by_cases hxd : x = d
      · rw [h2, hxd]
      · rw [if_pos h2, if_neg hxd] at hxy; have := lt x h1; omega
    · by_cases hxd : x = d <;> by_cases hyd : y = d
      · rw [hxd, hyd]
      · rw [if_pos hxd, if_neg hyd] at hxy; have := lt y h2; omega
      · rw [if_neg hxd, if_pos hyd] at hxy; have := lt x h1; omega
      · rw [if_neg hxd, if_neg hyd] at hxy; exact H.inj x y h1 h2 hxy
  · intro k hk
    have h1 := hbt.size; have h2 := hkw.size
    rcases hk with h | h
    · have := H.slt k h; omega
    · have := hB.lt; omega
theorem ne_ptr_none (w : World) : (binOp .neq 52 (.pointer none) (.pointer none)).run Tryd.prog w = .ok (.bool false) w := by kernel_rfl
set_option maxHeartbeats 1000000
set_option maxRecDepth 100000
theorem ext_Add (H : XAt w q S E) (d : Int) (z n : Nat) (hd0 : 0 ≤ d) (hz : z ≤ 4096) (hcn : cntX z = (n : Int)) (hd : E d = none) :
    Calls Tryd.prog 7 #[.pointer (some ⟨q, 0, none⟩), .int .i64 d, .int .i64 (z : Int)] w fun e w' => e = .returned (.int .i64 0) ∧ ∃ S', XAt w' q S' (E.set d n (fun _ => false)) ∧ (∀ k, S' k → S k ∨ w.heap.size ≤ k) ∧ But S w w' := by
  obtain ⟨g, blk, H⟩ := H
  have c0 := H.c0
  have HD := Lib.hid hd; clear hd
  have hn512 : n ≤ 512 := by unfold cntX at hcn; split at hcn <;> omega
  have HC := Lib.hid hcn; clear hcn
  go_enter Tryd.func7, Tryd.ntmps7
  go_wp2_with (at_lookup; refine wpList_mem_none H HD.out rfl _ _ rfl rfl rfl ?_)
  have hS : w.drew.cell? ⟨q, 0, none⟩ = some (.map (some g)) := by simpa using c0
  refine wp_region_calm ?_
  refine wp_region_E (fun W => W.cell? ⟨q, 0, none⟩ = some (.map (some g))) 100 (by kernel_rfl) ?_
  refine wpAnyE_take (i := 0) (v := ?_) (listed' := #[true, false, false, false, false, false, false, false, false]) (by rfl) (by kernel_rfl) (by kernel_rfl) calm_put hS (by rfl) ?_ ?_
  rotate_left
  · intro W hW; clear hW; go_simp; try (with_reducible rfl)
  simp only [Act.put, List.getElem_toArray, List.getElem_cons_succ, List.getElem_cons_zero, List.setIfInBounds_toArray, List.set_cons_zero, List.set_cons_succ]
  refine wpAnyE_take (i := 1) (v := ?_) (listed' := #[true, true, false, false, false, false, false, false, false]) (by rfl) (by kernel_rfl) (by kernel_rfl) calm_put hS (by rfl) ?_ ?_
  rotate_left
  · intro W hW; clear hW; go_simp; try (with_reducible rfl)
  simp only [Act.put, List.getElem_toArray, List.getElem_cons_succ, List.getElem_cons_zero, List.setIfInBounds_toArray, List.set_cons_zero, List.set_cons_succ]
  refine wpAnyE_take (i := 2) (v := ?_) (listed' := #[true, true, true, false, false, false, false, false, false]) (by rfl) (by kernel_rfl) (by kernel_rfl) calm_put hS (by rfl) ?_ ?_
  rotate_left
  · intro W hW; clear hW; go_simp; try (with_reducible rfl)
  simp only [Act.put, List.getElem_toArray, List.getElem_cons_succ, List.getElem_cons_zero, List.setIfInBounds_toArray, List.set_cons_zero, List.set_cons_succ]
  refine wpAnyE_take (i := 3) (v := ?_) (listed' := #[true, true, true, true, false, false, false, false, false]) (by rfl) (by kernel_rfl) (by kernel_rfl) calm_put hS (by rfl) ?_ ?_
  rotate_left
  · intro W hW; go_simp; try (with_reducible rfl)
  simp only [Act.put, List.getElem_toArray, List.getElem_cons_succ, List.getElem_cons_zero, List.setIfInBounds_toArray, List.set_cons_zero, List.set_cons_succ]
  refine wpAnyE_take (i := 4) (v := ?_) (listed' := #[true, true, true, true, true, false, false, false, false]) (by rfl) (by kernel_rfl) (by kernel_rfl) calm_put hS (by rfl) ?_ ?_
  rotate_left
  · intro W hW; clear hW; go_simp; try (with_reducible rfl)
  simp only [Act.put, List.getElem_toArray, List.getElem_cons_succ, List.getElem_cons_zero, List.setIfInBounds_toArray, List.set_cons_zero, List.set_cons_succ]
  refine wpAnyE_take (i := 5) (v := ?_) (listed' := #[true, true, true, true, true, true, false, false, false]) (by rfl) (by kernel_rfl) (by kernel_rfl) calm_put hS (by rfl) ?_ ?_
  rotate_left
  · intro W hW; clear hW; go_simp; try (with_reducible rfl)
  simp only [Act.put, List.getElem_toArray, List.getElem_cons_succ, List.getElem_cons_zero, List.setIfInBounds_toArray, List.set_cons_zero, List.set_cons_succ]
  refine wpAnyE_one (i := 6) (listed' := #[true, true, true, true, true, true, true, false, false]) (by rfl) (by kernel_rfl) (by kernel_rfl) (by rfl) (fun K hK => ?_)
  simp only [Act.put, List.getElem_toArray, List.getElem_cons_succ, List.getElem_cons_zero, List.setIfInBounds_toArray, List.set_cons_zero, List.set_cons_succ]
  go_wp2_with (go_at_call 15; refine Calls.mono (ext_Count (z : Int) (by omega) (by omega) _) ?_; rintro e w' ⟨rfl, rfl⟩)
  refine hK _ _ (fun _ => hS) ?_; clear hK K
  refine wpAnyE_one (i := 7) (listed' := #[true, true, true, true, true, true, true, true, false]) (by rfl) (by kernel_rfl) (by kernel_rfl) (by rfl) (fun K hK => ?_)
  simp only [Act.put, List.getElem_toArray, List.getElem_cons_succ, List.getElem_cons_zero, List.setIfInBounds_toArray, List.set_cons_zero, List.set_cons_succ]
  rw [HC.out]
  go_wp2_with (go_at_call 23; refine Calls.mono (bits_New n (by omega) _) ?_; rintro e w3 ⟨rfl, hB3, hs3, hk3⟩)
  have hkw : Kept w w3 := ((Kept.refl w).drew).trans hk3
  have hS := hkw.cell' c0
  refine hK _ _ (fun _ => hS) ?_; clear hK K
  refine wpAnyE_one (i := 8) (listed' := #[true, true, true, true, true, true, true, true, true]) (by rfl) (by kernel_rfl) (by kernel_rfl) (by rfl) (fun K hK => ?_)
  simp only [Act.put, List.getElem_toArray, List.getElem_cons_succ, List.getElem_cons_zero, List.setIfInBounds_toArray, List.set_cons_zero, List.set_cons_succ]
  have H3 := H.same hkw
  obtain ⟨m, hm⟩ := H3.gm
  refine wp_update_im _ _ _ (by rfl) Tryd.underlying49 Tryd.underlying3 (by rfl) d (by rfl) _ (by rfl) hm ?_
  intro o' hi'
  have hbt := But.block1 w3 g o'
  refine hK _ _ (fun _ => hbt.cell H3.qg hS) ?_; clear hK K
  refine wpAnyE_done (by kernel_rfl) ?_ _
  refine calm_normal ?_
  go_wp2
  go_ret
  refine ⟨rfl, fun k => S k ∨ k = w.heap.size, ⟨g, _, H.added HD.out hkw hB3 (by simp) hbt hi'⟩, fun k hk => ?_, ?_⟩
  · rcases hk with hk | rfl
    · exact .inl hk
    · exact .inr (Nat.le_refl _)
  · exact (But.kept hkw).trans (hbt.mono fun i e => by rw [e]; exact H.sg)
end
end Go.Proofs.YtglplhmclfekfaaDoor
