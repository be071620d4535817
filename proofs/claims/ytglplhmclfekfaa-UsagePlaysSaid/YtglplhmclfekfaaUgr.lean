/- usage: Groups. -/
import Derived.Test.YtglplhmclfekfaaKey
import Derived.Test.YtglplhmclfekfaaMpl
import Derived.Test.YtglplhmclfekfaaUsk
import Derived.Shelf.AbstractIn
namespace Go.Proofs.Ytglplhmclfekfaa
open Go.RowKit Go.ChangeMaps Go.MapKept Go.Shelf
set_option linter.unusedVariables false
set_option linter.unusedSimpArgs false

/-- slices.Sort's two contracts -/
theorem sorts_int (m : Nat) : AnyZI.SortsIn Try.prog Try.msoL_ren Fence.wide m :=
  ⟨fun blk off cap ss W hH hblk hsz => callsIn_wide.2 (AnyM.slices_Sort_int Try.mstL blk off cap ss W hH hblk hsz),
   fun p cap W => callsIn_wide.2 (AnyM.slices_Sort_int_none Try.mstL p cap W)⟩
section
set_option maxHeartbeats 2000000
set_option maxRecDepth 100000
theorem tab_Groups {w : World} {p : Nat} {S : Nat → Prop} {T : Tab} (H : TabAt w p S T) (D : List Int) (hD : ∀ n, T.g n ≠ none → n ∈ D ∧ (Lit.int .i64 n).wf = true) (hl : D.length ≤ 100000) :
    Calls Try.prog 31 #[.pointer (some ⟨p, 0, none⟩)] w fun e w' => ∃ (v : Value) (ks : List Int), e = .returned v ∧ (∀ n, n ∈ ks ↔ T.g n ≠ none) ∧ ks.Pairwise (· < ·) ∧ w'.ownsRow w.heap.size 3 1 v ks.length (ints ks) ∧ (v = .slice none 0 0 ↔ ks = []) ∧ Kept w w' := by
  obtain ⟨g, h, blk, H⟩ := H
  obtain ⟨m, hm⟩ := H.gm
  have c0 := H.c0
  obtain ⟨D0, ks, hown, hsz, hperm, hnod, hmem⟩ := hm.owns (P := Try.prog) (k := 3) Try.underlying3 D (fun n hn => hD n (fun e => hn (by rw [e]; rfl))) hl
  have hmem' : ∀ n, n ∈ ks ↔ T.g n ≠ none := fun n => by
    rw [hmem n]
    cases T.g n <;> simp
  have HM := Lib.hid hmem'; have HP := Lib.hid hperm; have HND := Lib.hid hnod
  have hbl := hown.lt
  have hmax : Maps.size D0 ≤ maxLen := by unfold maxLen; omega
  have hbytes : Maps.size D0 * 8 ≤ 140737488355328 := by omega
  clear hmem hmem' hperm hnod hD hm H
  refine (callsIn_wide (n := 6)).1 ?_
  have hseq : SeqGives Fence.wide 2 Try.prog 134 #[.pointer (some ⟨w.heap.size, 0, none⟩)] encZ (fun ss => ss.Perm (intKeys D0)) (Maps.size D0) (w.alloc (.cells #[.map (some g)] 118)) :=
    AnyZI.keys_gives (ρ := Try.mkeyL_ren) { Try.mkeyL with } Fence.wide _ trivial rfl (by omega) w.heap.size g D.length D0 _ (by simp) (by simp) (by
      obtain ⟨es, clock, hb, Ft, hs, hD⟩ := hown
      exact ⟨es, clock, (Below.heap_alloc _ _ g hbl).trans hb, Ft, hs, hD⟩)
  have cK : ∀ mb W, CallsIn Fence.wide 5 Try.prog 94 #[.map mb] W fun e w' => e = .returned (.func (.func 134) #[] #[.pointer (some ⟨W.heap.size, 0, none⟩)]) ∧ w' = W.alloc (.cells #[.map mb] 118) := fun mb W => AnyZI.keys_in Try.mkeyL Fence.wide 5 trivial rfl mb W
  have cS := AnyZI.sorted_in Try.msoL Fence.wide 5 trivial trivial trivial trivial rfl (by omega) (sorts_int _) (enters_of Try.func133 (by kernel_rfl) rfl) 134 #[.pointer (some ⟨w.heap.size, 0, none⟩)] trivial (enters_of Try.func134 (by kernel_rfl) rfl) _ _ hmax hbytes _ hseq
  change CallsIn _ _ Try.prog 93 _ _ _ at cS
  have hfK : Fence.wide.fn 94 := trivial
  have hfS : Fence.wide.fn 93 := trivial
  refine callsIn_of_wp Try.func31 rfl trivial ?_ rfl
  simp only [Try.ntmps31, List.size_toArray, List.length_cons, List.length_nil, Nat.reduceAdd, Nat.reduceSub, Array.replicate_succ, Array.replicate_zero, List.push_toArray, List.append_toArray, List.nil_append, List.cons_append]
  gi_wp2_with (first
    | (gi_at_call 94; refine (cK _ _).mono ?_; rintro e w' ⟨rfl, rfl⟩)
    | (gi_at_call 93; refine cS.mono ?_; rintro e w' ⟨v, ss, rfl, hS, hrow, hnil, hb⟩))
  go_ret
  have hp2 := hS.trans HP.out
  refine ⟨v, ss.mergeSort (fun x y => decide (x ≤ y)), rfl, fun n => ?_, sorted_rising hp2 HND.out, ?_, ?_, ((Below.refl _ w).alloc (Nat.le_refl _) _).trans (hb.mono (by simp))⟩
  · rw [← HM.out n]; exact ((List.mergeSort_perm ss _).trans hp2).mem_iff
  · have := ownsRow_base_a hrow (show w.heap.size ≤ _ by simp)
    rw [List.length_mergeSort]
    exact this
  · rw [hnil]
    constructor
    · rintro rfl; simp
    · intro e
      have := congrArg List.length e
      rw [List.length_mergeSort] at this
      exact List.eq_nil_of_length_eq_zero this
end
end Go.Proofs.Ytglplhmclfekfaa
