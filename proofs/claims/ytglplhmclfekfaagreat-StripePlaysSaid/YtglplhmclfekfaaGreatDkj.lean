/- A disk.Bank: Crash collects what is loose. -/
import Derived.Test.YtglplhmclfekfaaGreatDki
namespace Go.Proofs.YtglplhmclfekfaaGreat
open Go.RowKit
set_option linter.unusedVariables false
set_option linter.unusedSimpArgs false

def places (Y : Lay) : List (Nat × Nat) → List Value
  | [] => []
  | p :: L => .pointer (some ⟨Y.A (2 + 4 * p.1), 0, none⟩) :: .int .i64 (p.2 : Int) :: places Y L
theorem places_append (Y : Lay) : ∀ L M : List (Nat × Nat), places Y (L ++ M) = places Y L ++ places Y M
  | [], _ => rfl
  | p :: L, M => by simp [places, places_append Y L M]
theorem places_length (Y : Lay) : ∀ L : List (Nat × Nat), (places Y L).length = L.length * 2
  | [] => rfl
  | p :: L => by simp [places, places_length Y L]; omega
/-- the list of what is loose, in its variable c -/
def AllAt (w : World) (c base : Nat) (Y : Lay) (L : List (Nat × Nat)) : Prop :=
  ∃ v, w.heap[c]? = some (.cells #[v] 108 (0, 0)) ∧ w.ownsRow base 110 2 v L.length (places Y L)
theorem ty_all : ElemT Tryz.prog 108 110 2 16 := by
  refine ⟨Tryz.underlying108, ?_, by decide⟩
  have h1 : (Tryz.prog.info? 110).map (fun i => (i.zero, i.size, i.bytes)) = some (some (.agg #[.pointer none, .int .i64 0]), 2, 16) := by kernel_rfl
  cases hi : Tryz.prog.info? 110 with
  | none => simp [hi] at h1
  | some i =>
    simp [hi] at h1
    exact ⟨i, _, rfl, h1.1, h1.2.1, h1.2.2, rfl⟩
theorem size_all : (Tryz.prog.info? 108).map (·.size) = some 1 := by kernel_rfl
theorem zero_all (w : World) : (zeroValue 108).run Tryz.prog w = .ok (.slice none 0 0) w := by kernel_rfl
theorem own_other {w : World} {base e size n : Nat} {v : Value} {xs : List Value} (h : w.ownsRow base e size v n xs) {b : Nat} {cs : Array Value} {t : TypeId} (hb : w.heap[b]? = some (.cells cs t (0, 0))) (ht : t ≠ e) : v.ownBlock ≠ some b := by
  rcases h.2 with ⟨rfl, _⟩ | ⟨g, cap, cur, rfl, _, hg, _⟩
  · simp [Value.ownBlock]
  · intro e
    simp only [Value.ownBlock, Option.some.injEq] at e
    subst e
    rw [hg] at hb
    injection hb with hb; injection hb with _ hb _
    exact ht hb.symm
theorem own_slice {w : World} {base e size n : Nat} {v : Value} {xs : List Value} (h : w.ownsRow base e size v n xs) : v.cells = #[v] ∧ v.oneCell' = true := by
  rcases h.2 with ⟨rfl, _⟩ | ⟨g, cap, cur, rfl, _, hg, _⟩ <;> exact ⟨rfl, rfl⟩
theorem own_same {w w' : World} {base e size n : Nat} {v : Value} {xs : List Value} (h : w.ownsRow base e size v n xs) (hs : ∀ g, v.ownBlock = some g → w'.heap[g]? = w.heap[g]?) : w'.ownsRow base e size v n xs := by
  refine ⟨h.1, ?_⟩
  rcases h.2 with h' | ⟨g, cap, cur, rfl, hb, hg, r⟩
  · exact .inl h'
  · exact .inr ⟨g, cap, cur, rfl, hb, (hs g rfl).trans hg, r⟩
section
variable {w : World} {Y : Lay} {T : BankT} {k c d base j : Nat} {L : List (Nat × Nat)}
set_option maxHeartbeats 1000000
set_option maxRecDepth 100000
theorem closure_Crash (hA : AllAt w c base Y L) (hd : w.heap[d]? = some (.cells #[.pointer (some ⟨Y.A (2 + 4 * k), 0, none⟩)] 78 (0, 0))) (hb : base ≤ c) (hlen : L.length < 200000) (hsz : base ≤ w.heap.size) :
    Calls Tryz.prog 77 #[.int .i64 (j : Int), .pointer (some ⟨c, 0, none⟩), .pointer (some ⟨d, 0, none⟩)] w fun e w2 =>
      e = .returned (.tuple #[]) ∧ AllAt w2 c base Y (L ++ [(k, j)]) ∧ w2.heap[d]? = some (.cells #[.pointer (some ⟨Y.A (2 + 4 * k), 0, none⟩)] 78 (0, 0)) ∧ Below base w w2 := by
  obtain ⟨v, hc, ho⟩ := hA
  have cc := one_cell hc
  have cd := one_cell hd
  have HC := Lib.hid hc; have HD := Lib.hid hd; have HO := Lib.hid ho
  clear hc hd ho
  go_enter Tryz.func77, Tryz.ntmps77
  go_wp2_with (refine stop_at (o := ⟨some 9, _, _, _, _, _⟩) ?_)
  refine Stop.mk ?_
  have hk7 : Kept w (w.alloc (Obj.cells #[.pointer (some ⟨Y.A (2 + 4 * k), 0, none⟩), .int .i64 (j : Int)] 110)) := (Kept.refl _).alloc _
  have hb7 := heap_alloc_new w (Obj.cells #[.pointer (some ⟨Y.A (2 + 4 * k), 0, none⟩), .int .i64 (j : Int)] 110)
  have HO7 := Lib.hid (ownsRow_kept HO.out hk7)
  refine wpList_append_app _ rfl _ _ rfl ty_all base v L.length (places Y L) rfl (.inl HO7.out) _ 1 [.pointer (some ⟨Y.A (2 + 4 * k), 0, none⟩), .int .i64 (j : Int)] rfl (Src.of_cells (by simpa using Cells.of_block hb7) rfl (Nat.le_refl _)) (by intro u hu; simp at hu; rcases hu with rfl | rfl <;> rfl) (by simp only [maxLen]; omega) (by omega) (Nat.le_trans hsz hk7.size) ?_
  intro v8 w8 _ hg8 hB8 hown8
  have ho8 := hown8 (.inl (by omega))
  have hC7 := hk7.block HC.out
  have hD7 := hk7.block HD.out
  have hlc : c < w.heap.size := (Array.getElem?_eq_some_iff.1 HC.out).1
  have hld : d < w.heap.size := (Array.getElem?_eq_some_iff.1 HD.out).1
  have hC8 := (hg8.block c (Nat.lt_of_lt_of_le hlc hk7.size) (fun e => own_other HO7.out hC7 (by decide) e.symm)).trans hC7
  have hD8 := (hg8.block d (Nat.lt_of_lt_of_le hld hk7.size) (fun e => own_other HO7.out hD7 (by decide) e.symm)).trans hD7
  have hdc : d ≠ c := fun e => by
    have := HD.out
    rw [e, HC.out] at this
    injection this with this; injection this with _ this _
    exact absurd this (by decide)
  have K8 : Below base w w8 := Below.trans (hk7.mono hsz) hB8
  have HC8 := Lib.hid hC8; have HD8 := Lib.hid hD8; have HO8 := Lib.hid ho8; have HK8 := Lib.hid K8
  clear hC8 hD8 ho8 K8 hg8 hB8 hown8 hC7 hD7 HO7 hb7 hk7 cc cd
  go_wp2_with (refine stop_at (o := ⟨none, .store _ _ _, _, _, _, _⟩) ?_)
  refine Stop.mk ?_
  refine wpList_set_cell rfl _ _ rfl size_all c 0 rfl v8 rfl (own_slice HO8.out).1 (own_slice HO8.out).2 [v] _ HC8.out (by simp) ?_
  intro w9 hw9
  have h1 : AllAt w9 c base Y (L ++ [(k, j)]) := by
    refine ⟨v8, by simpa using hw9.blk, ?_⟩
    rw [places_append, List.length_append]
    exact own_same HO8.out fun g hg => hw9.oth g fun e => own_other HO8.out HC8.out (by decide) (e ▸ hg)
  have h2 := (hw9.oth d hdc).trans HD8.out
  have h3 : Below base w w9 := Below.trans HK8.out ⟨hw9.os, hw9.tape, hw9.output, by rw [hw9.size]; exact Nat.le_refl _, fun b hb' => hw9.oth b (by omega)⟩
  have H1 := Lib.hid h1; have H2 := Lib.hid h2; have H3 := Lib.hid h3
  clear h1 h2 h3 hw9
  go_wp2
  go_end0
  exact ⟨rfl, H1.out, H2.out, H3.out⟩
theorem Med.looseTo_snoc (k : Nat) (m : Med) (j : Nat) : m.looseTo k (j + 1) = if 0 < m.sin.getD j 0 then m.looseTo k j ++ [(k, j)] else m.looseTo k j := rfl
theorem collects_Crash (h : BankD w Y T) (ok : T.Ok) (hk : k < T.l.length) (hA : AllAt w c base Y L) (hd : w.heap[d]? = some (.cells #[.pointer (some ⟨Y.A (2 + 4 * k), 0, none⟩)] 78 (0, 0))) (hb : base ≤ c) (hlen : L.length < 190000) (hsz : base ≤ w.heap.size) (hin : ∀ b, Y.In T.l.length b → b < base) :
    Calls Tryz.prog 47 #[.pointer (some ⟨Y.A (2 + 4 * k), 0, none⟩), .func (.func 77) #[] #[.pointer (some ⟨c, 0, none⟩), .pointer (some ⟨d, 0, none⟩)]] w fun e w' =>
      e = .returned (.tuple #[]) ∧ AllAt w' c base Y (L ++ (T.d k).looseTo k (T.d k).sin.length) ∧ Below base w w' := by
  have okd := ok.d hk
  refine (loose_Crash (sin := (T.d k).sin) (D := Y.A (5 + 4 * k)) (h.m2 hk) okd.len (fun j w1 => AllAt w1 c base Y (L ++ (T.d k).looseTo k j) ∧ w1.heap[d]? = some (.cells #[.pointer (some ⟨Y.A (2 + 4 * k), 0, none⟩)] 78 (0, 0)) ∧ Below base w w1) ?_ ?_ ?_ ?_).mono fun e w' ⟨h1, h2, h3, h4⟩ => ⟨h1, h2, h4⟩
  · exact ⟨by simpa [Med.looseTo] using hA, hd, Below.refl _ _⟩
  · rintro j w1 hj ⟨_, _, h2⟩
    exact (Below.cell h2 (hin _ (Y.in_ hk 5 (by decide) (by decide)))).trans (h.cell_sin hk hj)
  · rintro j w1 hj hp ⟨h1, h2, h3⟩
    have hle := Med.looseTo_le k (T.d k) j
    have hl := okd.len
    refine (closure_Crash h1 h2 hb (by rw [List.length_append]; omega) (Nat.le_trans hsz h3.size)).mono ?_
    rintro e w2 ⟨rfl, h4, h5, h6⟩
    exact ⟨rfl, by rw [Med.looseTo_snoc, if_pos hp, ← List.append_assoc]; exact h4, h5, Below.trans h3 h6⟩
  · rintro j w1 hj hp ⟨h1, h2, h3⟩
    exact ⟨by rw [Med.looseTo_snoc, if_neg hp]; exact h1, h2, h3⟩
end
end Go.Proofs.YtglplhmclfekfaaGreat
