/- extent: Disks. -/
import Derived.Test.YtglplhmclfekfaaDoorKey
import Derived.Test.YtglplhmclfekfaaDoorMpe
import Derived.Test.YtglplhmclfekfaaDoorExf
import Derived.Shelf.AbstractIn
namespace Go.Proofs.YtglplhmclfekfaaDoor
open Go.RowKit Go.ChangeMaps Go.MapKept Go.Shelf
set_option linter.unusedVariables false
set_option linter.unusedSimpArgs false

/-- slices.Sort's two contracts -/
theorem sorts_int (m : Nat) : AnyZI.SortsIn Tryd.prog Tryd.msoL_ren Fence.wide m :=
  ⟨fun blk off cap ss W hH hblk hsz => callsIn_wide.2 (AnyM.slices_Sort_int Tryd.mstL blk off cap ss W hH hblk hsz),
   fun p cap W => callsIn_wide.2 (AnyM.slices_Sort_int_none Tryd.mstL p cap W)⟩
section
set_option maxHeartbeats 2000000
set_option maxRecDepth 100000
theorem ext_Disks {w : World} {q : Nat} {S : Nat → Prop} {E : XT} (H : XAt w q S E) (D : List Int) (hD : ∀ n, E n ≠ none → n ∈ D ∧ (Lit.int .i64 n).wf = true) (hl : D.length ≤ 100000) :
    Calls Tryd.prog 8 #[.pointer (some ⟨q, 0, none⟩)] w fun e w' => ∃ (v : Value) (ks : List Int), e = .returned v ∧ (∀ n, n ∈ ks ↔ E n ≠ none) ∧ ks.Pairwise (· < ·) ∧ w'.ownsRow w.heap.size 3 1 v ks.length (ints ks) ∧ (v = .slice none 0 0 ↔ ks = []) ∧ Kept w w' := by
  obtain ⟨g, blk, H⟩ := H
  obtain ⟨m, hm⟩ := H.gm
  have c0 := H.c0
  obtain ⟨D0, ks, hown, hsz, hperm, hnod, hmem⟩ := hm.owns (P := Tryd.prog) (k := 3) Tryd.underlying3 D (fun n hn => hD n (fun e => hn (by rw [e]; rfl))) hl
  have hmem' : ∀ n, n ∈ ks ↔ E n ≠ none := fun n => by
    rw [hmem n]
    cases E n <;> simp
  have HM := Lib.hid hmem'; have HP := Lib.hid hperm; have HND := Lib.hid hnod
  have hbl := hown.lt
  have hmax : Maps.size D0 ≤ maxLen := by unfold maxLen; omega
  have hbytes : Maps.size D0 * 8 ≤ 140737488355328 := by omega
  clear hmem hmem' hperm hnod hD hm H
  refine (callsIn_wide (n := 6)).1 ?_
  have hseq : SeqGives Fence.wide 2 Tryd.prog 45 #[.pointer (some ⟨w.heap.size, 0, none⟩)] encZ (fun ss => ss.Perm (intKeys D0)) (Maps.size D0) (w.alloc (.cells #[.map (some g)] 49)) :=
    AnyZI.keys_gives (ρ := Tryd.mkeyL_ren) { Tryd.mkeyL with } Fence.wide _ trivial rfl (by omega) w.heap.size g D.length D0 _ (by simp) (by simp) (by
      obtain ⟨es, clock, hb, Ft, hs, hD⟩ := hown
      exact ⟨es, clock, (Below.heap_alloc _ _ g hbl).trans hb, Ft, hs, hD⟩)
  have cK : ∀ mb W, CallsIn Fence.wide 5 Tryd.prog 25 #[.map mb] W fun e w' => e = .returned (.func (.func 45) #[] #[.pointer (some ⟨W.heap.size, 0, none⟩)]) ∧ w' = W.alloc (.cells #[.map mb] 49) := fun mb W => AnyZI.keys_in Tryd.mkeyL Fence.wide 5 trivial rfl mb W
  have cS := AnyZI.sorted_in Tryd.msoL Fence.wide 5 trivial trivial trivial trivial rfl (by omega) (sorts_int _) (enters_of Tryd.func44 (by kernel_rfl) rfl) 45 #[.pointer (some ⟨w.heap.size, 0, none⟩)] trivial (enters_of Tryd.func45 (by kernel_rfl) rfl) _ _ hmax hbytes _ hseq
  change CallsIn _ _ Tryd.prog 24 _ _ _ at cS
  have hfK : Fence.wide.fn 25 := trivial
  have hfS : Fence.wide.fn 24 := trivial
  refine callsIn_of_wp Tryd.func8 rfl trivial ?_ rfl
  simp only [Tryd.ntmps8, List.size_toArray, List.length_cons, List.length_nil, Nat.reduceAdd, Nat.reduceSub, Array.replicate_succ, Array.replicate_zero, List.push_toArray, List.append_toArray, List.nil_append, List.cons_append]
  gi_wp2_with (first
    | (gi_at_call 25; refine (cK _ _).mono ?_; rintro e w' ⟨rfl, rfl⟩)
    | (gi_at_call 24; refine cS.mono ?_; rintro e w' ⟨v, ss, rfl, hS, hrow, hnil, hb⟩))
  go_ret
  have hp2 := hS.trans HP.out
  refine ⟨v, ss.mergeSort (fun x y => decide (x ≤ y)), rfl, fun n => ?_, sorted_rising hp2 HND.out, ?_, ?_, ((Below.refl _ w).alloc (Nat.le_refl _) _).trans (hb.mono (by simp))⟩
  · rw [← HM.out n]; exact ((List.mergeSort_perm ss _).trans hp2).mem_iff
  · have := ownsRow_base_a hrow (show w.heap.size ≤ _ by simp)
    rw [List.length_mergeSort]
    exact this
  · rw [hnil]
    constructor
    · rintro rfl; simp
    · intro e
      have := congrArg List.length e
      rw [List.length_mergeSort] at this
      exact List.eq_nil_of_length_eq_zero this
end
end Go.Proofs.YtglplhmclfekfaaDoor
