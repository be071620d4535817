/- extent.Map: TakeAt, Free, Has. -/
import Derived.Test.YtglplhmclfekfaaDoorExc
namespace Go.Proofs.YtglplhmclfekfaaDoor
open Go.RowKit Go.ChangeMaps Go.MapKept
set_option linter.unusedVariables false
set_option linter.unusedSimpArgs false

/-- an extent is taken (b), or freed: what is told, and the map -/
def chgX (b : Bool) (E : XT) (d a : Int) : Int × XT :=
  match E d with
  | none => (8, E)
  | some (n, s) => match idxE a with
    | none => (1, E)
    | some i => if i.toNat < n then (if s i.toNat = b then (9, E) else (0, E.set d n (setS s i.toNat b))) else (1, E)
def hasX (E : XT) (d a : Int) : Int :=
  match E d with
  | none => 8
  | some (n, s) => match idxE a with
    | none => 1
    | some i => if i.toNat < n then (if s i.toNat then 0 else 9) else 1
theorem idxE_nonneg {a i : Int} (h : idxE a = some i) : 0 ≤ i := by
  unfold idxE at h; split at h
  · cases h
  · split at h
    · injection h with h; omega
    · cases h
theorem ty_change : AggT Tryd.prog 62 1 := ⟨⟨_, Tryd.underlying62, rfl⟩, by kernel_rfl⟩
theorem zero_change (w : World) : (zeroValue 62).run Tryd.prog w = .ok (.agg [Value.nilFunc].toArray) w := by kernel_rfl
section
variable {w : World} {q : Nat} {S : Nat → Prop} {E : XT} {g : Nat} {blk : Int → Nat}
set_option maxHeartbeats 1000000
set_option maxRecDepth 100000
theorem has_do {p n : Nat} {s : Nat → Bool} (h : BMap w p n s) (i : Nat) (hi : i < n) : Calls Tryd.prog 31 #[.pointer (some ⟨p, 0, none⟩), .int .i64 (i : Int)] w fun e w' => e = .returned (.int .i64 (if s i then 0 else 9)) ∧ w = w' := by
  have HH := Lib.hid (bits_Has h i hi)
  cases hs : s i with
  | true =>
    rw [hs] at HH; clear hs
    go_enter Tryd.func31, Tryd.ntmps31
    go_wp2_with (go_at_call 32; refine Calls.mono HH.out ?_; rintro e w' ⟨rfl, rfl⟩)
    go_ret
    exact ⟨rfl, rfl⟩
  | false =>
    rw [hs] at HH; clear hs
    go_enter Tryd.func31, Tryd.ntmps31
    go_wp2_with (go_at_call 32; refine Calls.mono HH.out ?_; rintro e w' ⟨rfl, rfl⟩)
    go_ret
    exact ⟨rfl, rfl⟩
theorem to_TakeAt (H : XD w q S E g blk) (d a : Int) (ha : -9223372036854775808 ≤ a) (ha2 : a < 9223372036854775808) : Calls Tryd.prog 26 #[.pointer (some ⟨q, 0, none⟩), .agg #[.int .i64 d, .int .i64 a], .agg #[.func (.func 33) #[] #[]]] w fun e w' => e = .returned (.int .i64 (chgX true E d a).1) ∧ XD w' q S (chgX true E d a).2 g blk ∧ But S w w' := by
  unfold chgX
  cases hd : E d with
  | none => exact (ext_to_none H hd 33).mono fun e w' ⟨he, hk⟩ => ⟨he, H.same hk, But.kept hk⟩
  | some x =>
    obtain ⟨n, s⟩ := x
    cases hi : idxE a with
    | none => exact (ext_to_bad H ha ha2 hd (fun i h => by rw [hi] at h; cases h) 33).mono fun e w' ⟨he, hk⟩ => ⟨he, H.same hk, But.kept hk⟩
    | some i =>
      have h0 := idxE_nonneg hi
      by_cases hn : i.toNat < n
      · obtain ⟨j, rfl⟩ : ∃ j : Nat, i = (j : Int) := ⟨i.toNat, by omega⟩
        simp only [Int.toNat_natCast] at hn ⊢
        rw [if_pos hn]
        refine (ext_to_TakeAt H ha ha2 hd j hn hi (fun v w' => v = (if s j = true then ((9, E) : Int × XT) else (0, E.set d n (setS s j true))).1 ∧ XD w' q S (if s j = true then ((9, E) : Int × XT) else (0, E.set d n (setS s j true))).2 g blk ∧ But S w w') ?_).mono ?_
        · intro W hk
          have H1 := H.same hk
          have hb := H1.row d n s hd
          cases hs : s j with
          | true =>
            rw [if_pos rfl]
            exact (bits_TakeAt_live hb j hn hs).mono fun e w' ⟨he, hw⟩ => ⟨9, he, rfl, hw ▸ H1, hw ▸ But.kept hk⟩
          | false =>
            rw [if_neg (by simp)]
            exact (bits_TakeAt_ok hb j hn hs).mono fun e w' ⟨he, h1, h2⟩ => ⟨0, he, rfl, H1.turn hd h1 h2, (But.kept hk).trans (h2.mono fun k e => e ▸ H.own d (by rw [hd]; simp))⟩
        · rintro e w' ⟨v, rfl, rfl, h1, h2⟩
          exact ⟨rfl, h1, h2⟩
      · simp only []
        rw [if_neg hn]
        exact (ext_to_bad H ha ha2 hd (fun j h => by rw [hi] at h; injection h with h; omega) 33).mono fun e w' ⟨he, hk⟩ => ⟨he, H.same hk, But.kept hk⟩
theorem ext_TakeAt (H : XAt w q S E) (d a : Int) (ha : -9223372036854775808 ≤ a) (ha2 : a < 9223372036854775808) : Calls Tryd.prog 13 #[.pointer (some ⟨q, 0, none⟩), .agg #[.int .i64 d, .int .i64 a]] w fun e w' => e = .returned (.int .i64 (chgX true E d a).1) ∧ XAt w' q S (chgX true E d a).2 ∧ But S w w' := by
  obtain ⟨g, blk, H⟩ := H
  have hk : Kept w (w.alloc (Obj.cells #[Value.int IntKind.i64 d, Value.int IntKind.i64 a] 33)) := (Kept.refl w).alloc _
  have b0 := heap_alloc_new w (Obj.cells #[Value.int IntKind.i64 d, Value.int IntKind.i64 a] 33)
  have HT := Lib.hid (to_TakeAt (H.same hk) d a ha ha2)
  have HK := Lib.hid hk; clear hk
  go_enter Tryd.func13, Tryd.ntmps13
  go_wp2_with (refine stop_at (o := ⟨some 8, _, _, _, _, _⟩) ?_)
  refine Stop.mk ?_
  go_wp2_with fail
  refine Calls.mono HT.out ?_
  rintro e w' ⟨rfl, h1, h2⟩
  go_wp2
  go_ret
  exact ⟨rfl, ⟨g, blk, h1⟩, (But.kept HK.out).trans h2⟩
theorem to_Free (H : XD w q S E g blk) (d a : Int) (ha : -9223372036854775808 ≤ a) (ha2 : a < 9223372036854775808) : Calls Tryd.prog 26 #[.pointer (some ⟨q, 0, none⟩), .agg #[.int .i64 d, .int .i64 a], .agg #[.func (.func 27) #[] #[]]] w fun e w' => e = .returned (.int .i64 (chgX false E d a).1) ∧ XD w' q S (chgX false E d a).2 g blk ∧ But S w w' := by
  unfold chgX
  cases hd : E d with
  | none => exact (ext_to_none H hd 27).mono fun e w' ⟨he, hk⟩ => ⟨he, H.same hk, But.kept hk⟩
  | some x =>
    obtain ⟨n, s⟩ := x
    cases hi : idxE a with
    | none => exact (ext_to_bad H ha ha2 hd (fun i h => by rw [hi] at h; cases h) 27).mono fun e w' ⟨he, hk⟩ => ⟨he, H.same hk, But.kept hk⟩
    | some i =>
      have h0 := idxE_nonneg hi
      by_cases hn : i.toNat < n
      · obtain ⟨j, rfl⟩ : ∃ j : Nat, i = (j : Int) := ⟨i.toNat, by omega⟩
        simp only [Int.toNat_natCast] at hn ⊢
        rw [if_pos hn]
        refine (ext_to_Free H ha ha2 hd j hn hi (fun v w' => v = (if s j = false then ((9, E) : Int × XT) else (0, E.set d n (setS s j false))).1 ∧ XD w' q S (if s j = false then ((9, E) : Int × XT) else (0, E.set d n (setS s j false))).2 g blk ∧ But S w w') ?_).mono ?_
        · intro W hk
          have H1 := H.same hk
          have hb := H1.row d n s hd
          cases hs : s j with
          | false =>
            rw [if_pos rfl]
            exact (bits_Free_dead hb j hn hs).mono fun e w' ⟨he, hw⟩ => ⟨9, he, rfl, hw ▸ H1, hw ▸ But.kept hk⟩
          | true =>
            rw [if_neg (by simp)]
            exact (bits_Free_ok hb j hn hs).mono fun e w' ⟨he, h1, h2⟩ => ⟨0, he, rfl, H1.turn hd h1 h2, (But.kept hk).trans (h2.mono fun k e => e ▸ H.own d (by rw [hd]; simp))⟩
        · rintro e w' ⟨v, rfl, rfl, h1, h2⟩
          exact ⟨rfl, h1, h2⟩
      · simp only []
        rw [if_neg hn]
        exact (ext_to_bad H ha ha2 hd (fun j h => by rw [hi] at h; injection h with h; omega) 27).mono fun e w' ⟨he, hk⟩ => ⟨he, H.same hk, But.kept hk⟩
theorem ext_Free (H : XAt w q S E) (d a : Int) (ha : -9223372036854775808 ≤ a) (ha2 : a < 9223372036854775808) : Calls Tryd.prog 9 #[.pointer (some ⟨q, 0, none⟩), .agg #[.int .i64 d, .int .i64 a]] w fun e w' => e = .returned (.int .i64 (chgX false E d a).1) ∧ XAt w' q S (chgX false E d a).2 ∧ But S w w' := by
  obtain ⟨g, blk, H⟩ := H
  have hk : Kept w (w.alloc (Obj.cells #[Value.int IntKind.i64 d, Value.int IntKind.i64 a] 33)) := (Kept.refl w).alloc _
  have b0 := heap_alloc_new w (Obj.cells #[Value.int IntKind.i64 d, Value.int IntKind.i64 a] 33)
  have HT := Lib.hid (to_Free (H.same hk) d a ha ha2)
  have HK := Lib.hid hk; clear hk
  go_enter Tryd.func9, Tryd.ntmps9
  go_wp2_with (refine stop_at (o := ⟨some 8, _, _, _, _, _⟩) ?_)
  refine Stop.mk ?_
  go_wp2_with fail
  refine Calls.mono HT.out ?_
  rintro e w' ⟨rfl, h1, h2⟩
  go_wp2
  go_ret
  exact ⟨rfl, ⟨g, blk, h1⟩, (But.kept HK.out).trans h2⟩
theorem to_Has (H : XD w q S E g blk) (d a : Int) (ha : -9223372036854775808 ≤ a) (ha2 : a < 9223372036854775808) : Calls Tryd.prog 26 #[.pointer (some ⟨q, 0, none⟩), .agg #[.int .i64 d, .int .i64 a], .agg #[.func (.func 31) #[] #[]]] w fun e w' => e = .returned (.int .i64 (hasX E d a)) ∧ Kept w w' := by
  unfold hasX
  cases hd : E d with
  | none => exact ext_to_none H hd 31
  | some x =>
    obtain ⟨n, s⟩ := x
    cases hi : idxE a with
    | none => exact ext_to_bad H ha ha2 hd (fun i h => by rw [hi] at h; cases h) 31
    | some i =>
      have h0 := idxE_nonneg hi
      by_cases hn : i.toNat < n
      · obtain ⟨j, rfl⟩ : ∃ j : Nat, i = (j : Int) := ⟨i.toNat, by omega⟩
        simp only [Int.toNat_natCast] at hn ⊢
        rw [if_pos hn]
        refine (ext_to_Has H ha ha2 hd j hn hi (fun v w' => v = (if s j then 0 else 9) ∧ Kept w w') ?_).mono ?_
        · intro W hk
          exact (has_do ((H.same hk).row d n s hd) j hn).mono fun e w' ⟨he, hw⟩ => ⟨_, he, rfl, hw ▸ hk⟩
        · rintro e w' ⟨v, rfl, rfl, h2⟩
          exact ⟨rfl, h2⟩
      · simp only []
        rw [if_neg hn]
        exact ext_to_bad H ha ha2 hd (fun j h => by rw [hi] at h; injection h with h; omega) 31
theorem ext_Has (H : XAt w q S E) (d a : Int) (ha : -9223372036854775808 ≤ a) (ha2 : a < 9223372036854775808) : Calls Tryd.prog 12 #[.pointer (some ⟨q, 0, none⟩), .agg #[.int .i64 d, .int .i64 a]] w fun e w' => e = .returned (.bool (hasX E d a == 0)) ∧ Kept w w' := by
  obtain ⟨g, blk, H⟩ := H
  have hk : Kept w (w.alloc (Obj.cells #[Value.int IntKind.i64 d, Value.int IntKind.i64 a] 33)) := (Kept.refl w).alloc _
  have b0 := heap_alloc_new w (Obj.cells #[Value.int IntKind.i64 d, Value.int IntKind.i64 a] 33)
  have HK := Lib.hid hk; clear hk
  go_enter Tryd.func12, Tryd.ntmps12
  go_wp2_with (first
    | (refine wpList_alloc_abs (o := ⟨some 5, _, _, _, _, _⟩) rfl 62 rfl [Value.nilFunc] zero_change ?_; intro w1 hz1 hl1 hs1 hk1; simp only [World.size_alloc] at hz1)
    | (refine stop_at (o := ⟨none, .store _ _ _, _, _, _, _⟩) ?_))
  refine Stop.mk ?_
  refine wpList_store_agg rfl _ _ rfl ty_change (w.heap.size + 1) 0 rfl [Value.func (Fn.func 31) #[] #[]] rfl rfl (by simp [Value.oneCell']) [Value.nilFunc] 62 hz1.out (by simp) ?_
  intro w2 hw2
  have hk2 : Kept w w2 := hw2.kept (HK.out.trans hk1) (by omega)
  have b0' := (hw2.oth w.heap.size (by omega)).trans (hk1.block b0)
  have d0 := cell_of_row _ _ 0 _ _ _ b0'
  have d1 := cell_of_row _ _ 1 _ _ _ b0'
  have d2 := cell_of_row _ _ 0 _ _ _ (hw2.all rfl).blk
  clear b0 b0'
  have HH := Lib.hid (to_Has (H.same hk2) d a ha ha2)
  go_wp2_with (refine stop_at (o := ⟨some 10, _, _, _, _, _⟩) ?_)
  refine Stop.mk ?_
  go_wp2_with fail
  refine Calls.mono HH.out ?_
  rintro e w' ⟨rfl, h1⟩
  go_wp2
  go_ret
  exact ⟨rfl, hk2.trans h1⟩
end
end Go.Proofs.YtglplhmclfekfaaDoor
