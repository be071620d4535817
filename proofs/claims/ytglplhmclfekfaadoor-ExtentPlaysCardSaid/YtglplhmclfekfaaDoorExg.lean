/- law06's shown. -/
import Derived.Test.YtglplhmclfekfaaDoorExf
namespace Go.Proofs.YtglplhmclfekfaaDoor
open Go.RowKit Go.ChangeMaps Go.MapKept
set_option linter.unusedVariables false
set_option linter.unusedSimpArgs false

theorem one_le {j : Nat} (h : j < 1) : setS (fun _ => false) 0 true j = true := by
  have : j = 0 := by omega
  subst this; rfl
theorem two_le {j : Nat} (h : j < 2) : setS (setS (fun _ => false) 0 true) 1 true j = true := by
  have : j = 0 ∨ j = 1 := by omega
  rcases this with rfl | rfl <;> rfl
set_option maxHeartbeats 1000000
set_option maxRecDepth 100000
theorem law_shown (w : World) (hT : DbAt w) : Calls Tryd.prog 5 #[] w fun e w' => e = .returned (.bool true) ∧ Kept w w' := by
  have HT := Lib.hid hT; clear hT
  go_enter Tryd.func5, Tryd.ntmps5
  go_wp2_with fail
  refine Calls.mono (xo_New w w (Kept.refl w)) ?_
  rintro e w1 ⟨q, rfl, X1, hk1⟩
  replace hk1 := hk1.size
  go_wp2_with fail
  have hA : Calls Tryd.prog 7 #[.pointer (some ⟨q, 0, none⟩), .int .i64 3, .int .i64 130] w1 _ := xo_Add X1 3 130 2 (by omega) (by omega) rfl rfl
  refine Calls.mono hA ?_
  rintro e w2 ⟨rfl, X2, _⟩
  clear hA X1
  go_wp2_with fail
  refine Calls.mono (xo_Take X2 HT.out 3) ?_
  rintro e w3 ⟨v, E3, rfl, ht, X3, _⟩
  obtain ⟨rfl, rfl⟩ := ht.first (n := 2) (i := 0) rfl (by omega) rfl (fun j h => by omega)
  clear ht X2
  simp only [extV, exV]
  go_wp2_with (refine stop_at (o := ⟨some 2, _, _, _, _, _⟩) ?_)
  refine Stop.mk ?_
  refine wpList_new_agg rfl rfl _ _ rfl rfl ty_ext [Value.int .i64 0, .int .i64 0] zero_ext rfl [Value.int .i64 3, .int .i64 114] rfl rfl (by simp [Value.oneCell']) rfl ?_
  intro w4 hz4 hs4 hk4
  replace X4 := X3.more hk4 w3.heap.size (Nat.le_refl _) hs4
  clear hk4 X3
  have hB1 := hz4
  go_wp2_with fail
  refine Calls.mono (xo_Take X4 HT.out 3) ?_
  rintro e w5 ⟨v, E3, rfl, ht, X5, r5⟩
  obtain ⟨rfl, rfl⟩ := ht.first (n := 2) (i := 1) rfl (by omega) rfl (fun j h => one_le h)
  replace hB1 := Lib.hid ((r5 _ (.inr rfl)).trans hB1.out)
  clear ht X4 r5 hz4
  simp only [extV, exV]
  go_wp2_with (refine stop_at (o := ⟨some 4, _, _, _, _, _⟩) ?_)
  refine Stop.mk ?_
  refine wpList_new_agg rfl rfl _ _ rfl rfl ty_ext [Value.int .i64 0, .int .i64 0] zero_ext rfl [Value.int .i64 3, .int .i64 122] rfl rfl (by simp [Value.oneCell']) rfl ?_
  intro w6 hz6 hs6 hk6
  replace X6 := X5.more hk6 w5.heap.size (Nat.le_refl _) hs6
  replace hB1 := Lib.hid (hk6.block hB1.out)
  have hB2 := hz6
  clear hk6 X5 hz6
  go_wp2_with fail
  refine Calls.mono (xo_Take X6 HT.out 3) ?_
  rintro e w7 ⟨v, E3, rfl, ht, X7, r7⟩
  obtain ⟨rfl, rfl⟩ := ht.full (n := 2) rfl (fun j h => two_le h)
  replace hB1 := Lib.hid ((r7 _ (.inl (.inr rfl))).trans hB1.out)
  replace hB2 := Lib.hid ((r7 _ (.inr rfl)).trans hB2.out)
  clear ht X6 r7
  simp only [extV, exV]
  go_wp2_with (refine stop_at (o := ⟨some 6, _, _, _, _, _⟩) ?_)
  refine Stop.mk ?_
  refine wpList_new_agg rfl rfl _ _ rfl rfl ty_ext [Value.int .i64 0, .int .i64 0] zero_ext rfl [Value.int .i64 0, .int .i64 0] rfl rfl (by simp [Value.oneCell']) rfl ?_
  intro w8 hz8 hs8 hk8
  replace X8 := (X7.kept hk8).1
  replace hB1 := Lib.hid (hk8.block hB1.out)
  replace hB2 := Lib.hid (hk8.block hB2.out)
  clear hk8 X7 hz8
  go_wp2_with fail
  refine Calls.mono (xo_Take X8 HT.out 4) ?_
  rintro e w9 ⟨v, E3, rfl, ht, X9, r9⟩
  obtain ⟨rfl, rfl⟩ := ht.nobody rfl
  replace hB1 := Lib.hid ((r9 _ (.inl (.inr rfl))).trans hB1.out)
  replace hB2 := Lib.hid ((r9 _ (.inr rfl)).trans hB2.out)
  clear ht X8 r9
  simp only [extV, exV]
  go_wp2_with (refine stop_at (o := ⟨some 8, _, _, _, _, _⟩) ?_)
  refine Stop.mk ?_
  refine wpList_new_agg rfl rfl _ _ rfl rfl ty_ext [Value.int .i64 0, .int .i64 0] zero_ext rfl [Value.int .i64 0, .int .i64 0] rfl rfl (by simp [Value.oneCell']) rfl ?_
  intro wa hza hsa hka
  have hK := (X9.kept hka).1.keeps
  replace hB1 := Lib.hid (hka.block hB1.out)
  replace hB2 := Lib.hid (hka.block hB2.out)
  clear hka X9 hza
  have HK := Lib.hid hK; clear hK
  generalize w3.heap.size = b1 at *
  generalize w5.heap.size = b2 at *
  have d0 := cell_of_row _ _ 0 _ _ _ hB1.out
  have d1 := cell_of_row _ _ 1 _ _ _ hB1.out
  have d2 := cell_of_row _ _ 0 _ _ _ hB2.out
  have d3 := cell_of_row _ _ 1 _ _ _ hB2.out
  have hI1 : Calls Tryd.prog 21 #[.int .i64 130] wa fun e w' => e = .returned (.tuple #[.int .i64 2, .bool true]) ∧ wa = w' := ext_Index 130 (by omega) (by omega) wa
  have hI2 : Calls Tryd.prog 21 #[.int .i64 115] wa fun e w' => e = .returned (.tuple #[.int .i64 0, .bool false]) ∧ wa = w' := ext_Index 115 (by omega) (by omega) wa
  have hC : Calls Tryd.prog 15 #[.int .i64 121] wa fun e w' => e = .returned (.int .i64 0) ∧ wa = w' := ext_Count 121 (by omega) (by omega) wa
  have hP : Calls Tryd.prog 22 #[.int .i64 2] wa fun e w' => e = .returned (.int .i64 130) ∧ wa = w' := ext_Place 2 (by omega) (by omega) wa
  replace hI1 := Lib.hid hI1
  replace hI2 := Lib.hid hI2
  replace hC := Lib.hid hC
  replace hP := Lib.hid hP
  go_wp2_with fail
  refine Calls.mono hI1.out ?_
  rintro e w' ⟨rfl, rfl⟩
  go_wp2_with fail
  refine Calls.mono hI2.out ?_
  rintro e w' ⟨rfl, rfl⟩
  go_wp2_with fail
  refine Calls.mono hC.out ?_
  rintro e w' ⟨rfl, rfl⟩
  go_wp2_with fail
  refine Calls.mono hP.out ?_
  rintro e w' ⟨rfl, rfl⟩
  go_wp2_with fail
  go_ret
  exact ⟨rfl, HK.out⟩
end Go.Proofs.YtglplhmclfekfaaDoor
