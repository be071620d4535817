/- PlA: several texts in one: Wrt Wru Wrv. -/
import Derived.Test.YtiijfocdjcjlaaaGreatPkA
/- state's writer: how much it has written, is it wrong. -/
namespace Go.Proofs.YtiijfocdjcjlaaaGreat
open Go.RowKit Go.ChangeMaps Go.MapKept
set_option linter.unusedVariables false
set_option linter.unusedSimpArgs false
set_option maxRecDepth 100000
set_option maxHeartbeats 1000000
theorem own_but {S : Nat → Prop} {a b : World} {base e size n : Nat} {v : Value} {xs : List Value} (h : a.ownsRow base e size v n xs) (hb : But S a b) (hS : ∀ k, S k → k < base) : b.ownsRow base e size v n xs := by
  refine ⟨h.1, ?_⟩
  rcases h.2 with h2 | ⟨g, cap, cur, hv, hg, hh, r⟩
  · exact .inl h2
  · exact .inr ⟨g, cap, cur, hv, hg, hb.blk (fun hs => by have := hS _ hs; omega) hh, r⟩
theorem src_own {w : World} {base e n : Nat} {v : Value} {xs : List Value} (h : w.ownsRow base e 1 v n xs) : Src w 1 v n xs := Src.of_app (.inl h)
theorem src_zero {w : World} {base e : Nat} {v : Value} (h : App w base e 1 v 0 []) (w' : World) : Src w' 1 v 0 [] := by
  obtain ⟨hl, ax, c, e, hc, hn, _⟩ := Src.of_app h
  exact ⟨by simp, ax, c, e, hc, hn, fun b hb j u hu => by simp at hu⟩
/-- a number that has no room: what was there, anew -/
theorem pack_Put_no (sv : Value) (bs : List Int) (v width : Int) (w : World) (hs : Src w 1 sv bs.length (u8s bs)) (hlen : bs.length ≤ 2147483648) (hm : mayPut v width = false) :
    Calls Tryz.prog 94 #[sv, .int .i64 v, .int .i64 width] w fun e w' =>
      ∃ sv', e = .returned sv' ∧ App w' w.heap.size 5 1 sv' bs.length (u8s bs) ∧ (0 < bs.length → w'.ownsRow w.heap.size 5 1 sv' bs.length (u8s bs)) ∧ Kept w w' := by
  have hs0 := hs
  obtain ⟨hl, ax, c, rfl, hlc, hnone, hc⟩ := hs
  have HM := Lib.hid hm; clear hm
  have HS : Hid (Src w 1 (.slice ax bs.length bs.length) bs.length (u8s bs)) := Lib.hid ⟨hl, ax, bs.length, rfl, Nat.le_refl _, fun h => ⟨(hnone h).1, (hnone h).1⟩, hc⟩
  clear hs0 hl hnone hc
  have ka : ∀ o, Kept w (w.alloc o) := fun o => (Kept.refl _).alloc o
  have KA := Lib.hid ka; clear ka
  go_enter Tryz.func94, Tryz.ntmps94
  go_wp2_with (first | (go_at_call 120; refine (pack_may_f _ _ _ HM.out).mono ?_; rintro e w' ⟨rfl, rfl⟩) | (at_builtin; refine stop_at ?_))
  refine Stop.mk ?_
  refine wpList_append_app _ rfl _ _ rfl ty_bytes w.heap.size (.slice (some ⟨w.heap.size, 0, none⟩) 0 0) 0 [] rfl (.inr ⟨rfl, _, rfl, by simp, by simp⟩) _ bs.length (u8s bs) rfl (HS.out.kept (KA.out _)) (u8s_one bs) (by simp only [maxLen]; omega) (by omega) (by simp) ?_
  intro v' w' ha _ hb hown
  rw [Nat.zero_add, List.nil_append] at ha hown
  have HA := Lib.hid ha
  have HO : Hid (0 < bs.length → w'.ownsRow w.heap.size 5 1 v' bs.length (u8s bs)) := Lib.hid (fun h => hown (.inl h))
  have hk : Kept w w' := (KA.out _).below (Nat.le_refl _) hb
  clear ha hown hb
  go_wp2
  go_ret
  exact ⟨_, rfl, HA.out, HO.out, hk⟩
/-- the writer in block B: so many bytes, wrong or not -/
def WrI (W : World) (B n : Nat) (b : Bool) : Prop :=
  ∃ sv bs T, W.heap[B]? = some (.cells #[sv, .bool b] T (0, 0)) ∧ (∀ W', But (fun k => k = B) W W' → Src W' 1 sv bs.length (u8s bs)) ∧ bs.length = n
theorem WrI.kept {W W' : World} {B n : Nat} {b : Bool} (h : WrI W B n b) (hk : Kept W W') : WrI W' B n b := by
  obtain ⟨sv, bs, T, hb, hs, hn⟩ := h
  exact ⟨sv, bs, T, hk.block hb, fun W2 h2 => hs W2 ((But.kept hk).trans h2), hn⟩
theorem WrI.lt {W : World} {B n : Nat} {b : Bool} (h : WrI W B n b) : B < W.heap.size := by
  obtain ⟨sv, bs, T, hb, _⟩ := h
  exact (Array.getElem?_eq_some_iff.1 hb).1
theorem src_form {w : World} {v : Value} {n : Nat} {xs : List Value} (h : Src w 1 v n xs) : ∃ ax c, v = .slice ax n c := by
  obtain ⟨_, ax, c, e, _⟩ := h; exact ⟨ax, c, e⟩
theorem size_bool : (Tryz.prog.info? 4).map (·.size) = some 1 := by kernel_rfl
theorem size_bytes : (Tryz.prog.info? 59).map (·.size) = some 1 := by kernel_rfl
theorem wr_number (B n : Nat) (b : Bool) (x : Int) (k : Nat) (hk : k = 1 ∨ k = 2) (w : World) (h : WrI w B n b) (hn : n ≤ 100000) :
    Calls Tryz.prog 42 #[.pointer (some ⟨B, 0, none⟩), .int .i64 x, .int .i64 (k : Int)] w fun e w' => e = .returned (.tuple #[]) ∧ WrI w' B (if mayPut x k then n + k else n) (b || !mayPut x k) ∧ But (fun i => i = B) w w' := by
  obtain ⟨sv, bs, T, hb, hsrc, rfl⟩ := h
  obtain ⟨ax, cc, rfl⟩ := src_form (hsrc w (But.refl _ _))
  have HSRC := Lib.hid hsrc; clear hsrc
  have HB := Lib.hid hb
  have c0 := (Cells.of_block hb) 0 (by simp)
  have c1 := (Cells.of_block hb) 1 (by simp)
  simp only [Nat.add_zero, Nat.zero_add, List.getElem_cons_zero, List.getElem_cons_succ] at c0 c1
  have hBl : B < w.heap.size := (Array.getElem?_eq_some_iff.1 hb).1
  clear hb
  have hmp : mayPut x k = (decide (0 ≤ x) && (x / 2 ^ (8 * k) == 0)) := by
    have e1 : (8 * (k : Int)).toNat = 8 * k := by omega
    unfold mayPut
    rw [e1]
    rcases hk with rfl | rfl <;> simp
  cases b with
  | true =>
    have hmp0 := Lib.hid hmp; clear hmp
    go_enter Tryz.func42, Tryz.ntmps42
    go_wp2_with (refine stop_at (o := ⟨none, .store _ _ _, _, _, _, _⟩) ?_)
    refine Stop.mk ?_
    refine wpList_set_cell rfl _ _ rfl size_bool B 1 rfl (.bool true) rfl rfl rfl [.slice ax bs.length cc, .bool true] T HB.out (by simp) ?_
    intro w1 hw1
    have d0 : w1.cell? ⟨B, 0, none⟩ = some (.slice ax bs.length cc) := hw1.cells 0 (by simp)
    have HW1 := Lib.hid hw1
    have HS1 := Lib.hid (HSRC.out w1 (But.wrote hw1 rfl))
    have hBl1 : B < w1.heap.size := by rw [hw1.size]; exact hBl
    clear hw1 c0 c1
    cases hm : mayPut x k with
    | true =>
      have HM := Lib.hid hm
      go_wp2_with fail
      refine Calls.mono (pack_Put _ bs x k w1 HS1.out (by omega) HM.out) ?_
      rintro e w2 ⟨sv', rfl, ho, hk2⟩
      simp only [Int.toNat_natCast, List.length_append, beBytes_length] at ho
      obtain ⟨ax', cx', rfl⟩ := src_form (src_own ho)
      have HO := Lib.hid ho; have HK2 := Lib.hid hk2; clear ho hk2
      go_wp2_with (refine stop_at (o := ⟨none, .store _ _ _, _, _, _, _⟩) ?_)
      refine Stop.mk ?_
      refine wpList_set_cell rfl _ _ rfl size_bytes B 0 rfl (.slice ax' _ cx') rfl rfl rfl [.slice ax bs.length cc, .bool true] T (HK2.out.block HW1.out.blk) (by simp) ?_
      intro w3 hw3
      have HW3 := Lib.hid hw3; clear hw3
      have HBUT : Hid (But (fun i => i = B) w w3) := Lib.hid (((But.wrote (S := fun i => i = B) HW1.out rfl).keep HK2.out).trans (But.wrote HW3.out rfl))
      go_wp2
      go_end0
      refine ⟨rfl, ?_, HBUT.out⟩
      refine ⟨_, bs ++ beBytes x k, T, HW3.out.blk, fun W' h => by rw [List.length_append, beBytes_length]; exact src_own (own_but (own_but HO.out (But.wrote (S := fun i => i = B) HW3.out rfl) (fun i hi => by rw [hi]; exact hBl1)) h (fun i hi => by rw [hi]; exact hBl1)), ?_⟩
      rw [List.length_append, beBytes_length]
    | false =>
      have HM := Lib.hid hm
      go_wp2_with fail
      refine Calls.mono (pack_Put_no _ bs x k w1 HS1.out (by omega) HM.out) ?_
      rintro e w2 ⟨sv', rfl, happ, ho, hk2⟩
      obtain ⟨ax', cx', rfl⟩ := src_form (Src.of_app happ)
      have HA := Lib.hid happ; clear happ
      have HO := Lib.hid ho; have HK2 := Lib.hid hk2; clear ho hk2
      go_wp2_with (refine stop_at (o := ⟨none, .store _ _ _, _, _, _, _⟩) ?_)
      refine Stop.mk ?_
      refine wpList_set_cell rfl _ _ rfl size_bytes B 0 rfl (.slice ax' _ cx') rfl rfl rfl [.slice ax bs.length cc, .bool true] T (HK2.out.block HW1.out.blk) (by simp) ?_
      intro w3 hw3
      have HW3 := Lib.hid hw3; clear hw3
      have HBUT : Hid (But (fun i => i = B) w w3) := Lib.hid (((But.wrote (S := fun i => i = B) HW1.out rfl).keep HK2.out).trans (But.wrote HW3.out rfl))
      go_wp2
      go_end0
      refine ⟨rfl, ?_, HBUT.out⟩
      refine ⟨_, bs, T, by simpa using HW3.out.blk, fun W' h => ?_, rfl⟩
      rcases Nat.eq_zero_or_pos bs.length with h0 | h0
      · have e0 : bs = [] := List.eq_nil_of_length_eq_zero h0
        subst e0
        exact src_zero HA.out W'
      · exact src_own (own_but (own_but (HO.out h0) (But.wrote (S := fun i => i = B) HW3.out rfl) (fun i hi => by rw [hi]; exact hBl1)) h (fun i hi => by rw [hi]; exact hBl1))
  | false =>
    cases hx : decide (x < 0) with
    | true =>
      have hm : mayPut x k = false := by rw [hmp]; have : ¬ 0 ≤ x := by simpa using hx
                                         simp [this]
      clear hmp
      go_enter Tryz.func42, Tryz.ntmps42
      go_wp2_with (refine stop_at (o := ⟨none, .store _ _ _, _, _, _, _⟩) ?_)
      refine Stop.mk ?_
      refine wpList_set_cell rfl _ _ rfl size_bool B 1 rfl (.bool true) rfl rfl rfl [.slice ax bs.length cc, .bool false] T HB.out (by simp) ?_
      intro w1 hw1
      have d0 : w1.cell? ⟨B, 0, none⟩ = some (.slice ax bs.length cc) := hw1.cells 0 (by simp)
      have HW1 := Lib.hid hw1
      have HS1 := Lib.hid (HSRC.out w1 (But.wrote hw1 rfl))
      have hBl1 : B < w1.heap.size := by rw [hw1.size]; exact hBl
      clear hw1 c0 c1
      have HM := Lib.hid hm
      go_wp2_with fail
      refine Calls.mono (pack_Put_no _ bs x k w1 HS1.out (by omega) HM.out) ?_
      rintro e w2 ⟨sv', rfl, happ, ho, hk2⟩
      obtain ⟨ax', cx', rfl⟩ := src_form (Src.of_app happ)
      have HA := Lib.hid happ; clear happ
      have HO := Lib.hid ho; have HK2 := Lib.hid hk2; clear ho hk2
      go_wp2_with (refine stop_at (o := ⟨none, .store _ _ _, _, _, _, _⟩) ?_)
      refine Stop.mk ?_
      refine wpList_set_cell rfl _ _ rfl size_bytes B 0 rfl (.slice ax' _ cx') rfl rfl rfl [.slice ax bs.length cc, .bool true] T (HK2.out.block HW1.out.blk) (by simp) ?_
      intro w3 hw3
      have HW3 := Lib.hid hw3; clear hw3
      have HBUT : Hid (But (fun i => i = B) w w3) := Lib.hid (((But.wrote (S := fun i => i = B) HW1.out rfl).keep HK2.out).trans (But.wrote HW3.out rfl))
      go_wp2
      go_end0
      refine ⟨rfl, ?_, HBUT.out⟩
      refine ⟨_, bs, T, by simpa using HW3.out.blk, fun W' h => ?_, rfl⟩
      rcases Nat.eq_zero_or_pos bs.length with h0 | h0
      · have e0 : bs = [] := List.eq_nil_of_length_eq_zero h0
        subst e0
        exact src_zero HA.out W'
      · exact src_own (own_but (own_but (HO.out h0) (But.wrote (S := fun i => i = B) HW3.out rfl) (fun i hi => by rw [hi]; exact hBl1)) h (fun i hi => by rw [hi]; exact hBl1))
    | false =>
      have h0 : decide (0 ≤ x) = true := by simpa using hx
      rw [h0, Bool.true_and] at hmp
      cases hq : (x / 2 ^ (8 * k) == 0) with
      | false =>
        have hm : mayPut x k = false := by rw [hmp, hq]
        have hq2 : (x / 2 ^ (8 * k) != 0) = true := by rw [bne, hq]; rfl
        clear hmp
        go_enter Tryz.func42, Tryz.ntmps42
        go_wp2_with (refine stop_at (o := ⟨none, .store _ _ _, _, _, _, _⟩) ?_)
        refine Stop.mk ?_
        refine wpList_set_cell rfl _ _ rfl size_bool B 1 rfl (.bool true) rfl rfl rfl [.slice ax bs.length cc, .bool false] T HB.out (by simp) ?_
        intro w1 hw1
        have d0 : w1.cell? ⟨B, 0, none⟩ = some (.slice ax bs.length cc) := hw1.cells 0 (by simp)
        have HW1 := Lib.hid hw1
        have HS1 := Lib.hid (HSRC.out w1 (But.wrote hw1 rfl))
        have hBl1 : B < w1.heap.size := by rw [hw1.size]; exact hBl
        clear hw1 c0 c1
        have HM := Lib.hid hm
        go_wp2_with fail
        refine Calls.mono (pack_Put_no _ bs x k w1 HS1.out (by omega) HM.out) ?_
        rintro e w2 ⟨sv', rfl, happ, ho, hk2⟩
        obtain ⟨ax', cx', rfl⟩ := src_form (Src.of_app happ)
        have HA := Lib.hid happ; clear happ
        have HO := Lib.hid ho; have HK2 := Lib.hid hk2; clear ho hk2
        go_wp2_with (refine stop_at (o := ⟨none, .store _ _ _, _, _, _, _⟩) ?_)
        refine Stop.mk ?_
        refine wpList_set_cell rfl _ _ rfl size_bytes B 0 rfl (.slice ax' _ cx') rfl rfl rfl [.slice ax bs.length cc, .bool true] T (HK2.out.block HW1.out.blk) (by simp) ?_
        intro w3 hw3
        have HW3 := Lib.hid hw3; clear hw3
        have HBUT : Hid (But (fun i => i = B) w w3) := Lib.hid (((But.wrote (S := fun i => i = B) HW1.out rfl).keep HK2.out).trans (But.wrote HW3.out rfl))
        go_wp2
        go_end0
        refine ⟨rfl, ?_, HBUT.out⟩
        refine ⟨_, bs, T, by simpa using HW3.out.blk, fun W' h => ?_, rfl⟩
        rcases Nat.eq_zero_or_pos bs.length with h0 | h0
        · have e0 : bs = [] := List.eq_nil_of_length_eq_zero h0
          subst e0
          exact src_zero HA.out W'
        · exact src_own (own_but (own_but (HO.out h0) (But.wrote (S := fun i => i = B) HW3.out rfl) (fun i hi => by rw [hi]; exact hBl1)) h (fun i hi => by rw [hi]; exact hBl1))
      | true =>
        have hm : mayPut x k = true := by rw [hmp, hq]
        have hq2 : (x / 2 ^ (8 * k) != 0) = false := by rw [bne, hq]; rfl
        clear hmp
        go_enter Tryz.func42, Tryz.ntmps42
        go_wp2_with (refine stop_at (o := ⟨none, .store _ _ _, _, _, _, _⟩) ?_)
        refine Stop.mk ?_
        refine wpList_set_cell rfl _ _ rfl size_bool B 1 rfl (.bool false) rfl rfl rfl [.slice ax bs.length cc, .bool false] T HB.out (by simp) ?_
        intro w1 hw1
        have d0 : w1.cell? ⟨B, 0, none⟩ = some (.slice ax bs.length cc) := hw1.cells 0 (by simp)
        have HW1 := Lib.hid hw1
        have HS1 := Lib.hid (HSRC.out w1 (But.wrote hw1 rfl))
        have hBl1 : B < w1.heap.size := by rw [hw1.size]; exact hBl
        clear hw1 c0 c1
        have HM := Lib.hid hm
        go_wp2_with fail
        refine Calls.mono (pack_Put _ bs x k w1 HS1.out (by omega) HM.out) ?_
        rintro e w2 ⟨sv', rfl, ho, hk2⟩
        simp only [Int.toNat_natCast, List.length_append, beBytes_length] at ho
        obtain ⟨ax', cx', rfl⟩ := src_form (src_own ho)
        have HO := Lib.hid ho; have HK2 := Lib.hid hk2; clear ho hk2
        go_wp2_with (refine stop_at (o := ⟨none, .store _ _ _, _, _, _, _⟩) ?_)
        refine Stop.mk ?_
        refine wpList_set_cell rfl _ _ rfl size_bytes B 0 rfl (.slice ax' _ cx') rfl rfl rfl [.slice ax bs.length cc, .bool false] T (HK2.out.block HW1.out.blk) (by simp) ?_
        intro w3 hw3
        have HW3 := Lib.hid hw3; clear hw3
        have HBUT : Hid (But (fun i => i = B) w w3) := Lib.hid (((But.wrote (S := fun i => i = B) HW1.out rfl).keep HK2.out).trans (But.wrote HW3.out rfl))
        go_wp2
        go_end0
        refine ⟨rfl, ?_, HBUT.out⟩
        refine ⟨_, bs ++ beBytes x k, T, HW3.out.blk, fun W' h => by rw [List.length_append, beBytes_length]; exact src_own (own_but (own_but HO.out (But.wrote (S := fun i => i = B) HW3.out rfl) (fun i hi => by rw [hi]; exact hBl1)) h (fun i hi => by rw [hi]; exact hBl1)), ?_⟩
        rw [List.length_append, beBytes_length]
end Go.Proofs.YtiijfocdjcjlaaaGreat
/- state's writer: count, numbers, flag, where, members, group. -/
namespace Go.Proofs.YtiijfocdjcjlaaaGreat
open Go.RowKit Go.ChangeMaps Go.MapKept
set_option linter.unusedVariables false
set_option linter.unusedSimpArgs false
set_option maxRecDepth 100000
set_option maxHeartbeats 1000000
/-- the writer in block B: at most n bytes, n if it is not wrong -/
def WrL (W : World) (B n : Nat) (b : Bool) : Prop := ∃ m, WrI W B m b ∧ m ≤ n ∧ (b = false → m = n)
theorem WrL.kept {W W' : World} {B n : Nat} {b : Bool} (h : WrL W B n b) (hk : Kept W W') : WrL W' B n b := by
  obtain ⟨m, h1, h2⟩ := h; exact ⟨m, h1.kept hk, h2⟩
theorem WrL.lt {W : World} {B n : Nat} {b : Bool} (h : WrL W B n b) : B < W.heap.size := by obtain ⟨m, h1, _⟩ := h; exact h1.lt
/-- what the writer's steps leave as it was -/
abbrev OnlyB (B : Nat) (w w' : World) : Prop := But (fun i => i = B) w w'
theorem wl_number (B n : Nat) (b : Bool) (x : Int) (k : Nat) (hk : k = 1 ∨ k = 2) (w : World) (h : WrL w B n b) (hn : n ≤ 100000) :
    Calls Tryz.prog 42 #[.pointer (some ⟨B, 0, none⟩), .int .i64 x, .int .i64 (k : Int)] w fun e w' => e = .returned (.tuple #[]) ∧ WrL w' B (n + k) (b || !mayPut x k) ∧ OnlyB B w w' := by
  obtain ⟨m, h1, h2, h3⟩ := h
  refine (wr_number B m b x k hk w h1 (by omega)).mono ?_
  rintro e w' ⟨rfl, h4, h5⟩
  refine ⟨rfl, ⟨_, h4, ?_, ?_⟩, h5⟩
  · split <;> omega
  · intro hb
    rw [Bool.or_eq_false_iff] at hb
    have : mayPut x k = true := by simpa using hb.2
    rw [this, if_pos rfl, h3 hb.1]
theorem wl_number1 (B n : Nat) (b : Bool) (x : Int) (w : World) (h : WrL w B n b) (hn : n ≤ 100000) :
    Calls Tryz.prog 42 #[.pointer (some ⟨B, 0, none⟩), .int .i64 x, .int .i64 1] w fun e w' => e = .returned (.tuple #[]) ∧ WrL w' B (n + 1) (b || !mayPut x 1) ∧ OnlyB B w w' := wl_number B n b x 1 (.inl rfl) w h hn
theorem wl_number2 (B n : Nat) (b : Bool) (x : Int) (w : World) (h : WrL w B n b) (hn : n ≤ 100000) :
    Calls Tryz.prog 42 #[.pointer (some ⟨B, 0, none⟩), .int .i64 x, .int .i64 2] w fun e w' => e = .returned (.tuple #[]) ∧ WrL w' B (n + 2) (b || !mayPut x 2) ∧ OnlyB B w w' := wl_number B n b x 2 (.inr rfl) w h hn
/-- the flag is set -/
theorem WrL.flag {W W1 : World} {B n : Nat} {b c : Bool} (h : WrL W B n b) (hbc : b = true → c = true) : ∃ cur T, W.heap[B]? = some (.cells [cur, .bool b].toArray T (0, 0)) ∧ cur.oneCell' = true ∧ W.cell? ⟨B, 1, none⟩ = some (.bool b) ∧ ∀ W1, Wrote W W1 B [cur, .bool c] T → WrL W1 B n c := by
  obtain ⟨m, ⟨sv, bs, T, hb, hs, hn⟩, h2, h3⟩ := h
  obtain ⟨ax, cc, rfl⟩ := src_form (hs W (But.refl _ _))
  refine ⟨_, T, hb, rfl, (Cells.of_block hb) 1 (by simp), fun W1 hw => ⟨m, ⟨_, bs, T, hw.blk, fun W2 hb2 => hs W2 ((But.wrote (S := fun k => k = B) hw rfl).trans hb2), hn⟩, h2, fun hc => h3 ?_⟩⟩
  cases b with
  | false => rfl
  | true => rw [hbc rfl] at hc; cases hc
theorem wl_count (B n : Nat) (b : Bool) (x most : Int) (w : World) (h : WrL w B n b) (hn : n ≤ 99999) :
    Calls Tryz.prog 44 #[.pointer (some ⟨B, 0, none⟩), .int .i64 x, .int .i64 most] w fun e w' => e = .returned (.tuple #[]) ∧ WrL w' B (n + 1) (b || (decide (most < x) || !mayPut x 1)) ∧ OnlyB B w w' := by
  obtain ⟨cur, T, hb, hone, c1, hset⟩ := h.flag (W1 := w) (c := b || decide (most < x)) (by intro hb; rw [hb]; rfl)
  have HB := Lib.hid hb; have HSET := Lib.hid hset
  have hBl := h.lt
  clear hb hset h
  cases b with
  | true =>
    go_enter Tryz.func44, Tryz.ntmps44
    go_wp2_with (refine stop_at (o := ⟨none, .store _ _ _, _, _, _, _⟩) ?_)
    refine Stop.mk ?_
    refine wpList_set_cell rfl _ _ rfl size_bool B 1 rfl (.bool true) rfl rfl rfl [cur, .bool true] T HB.out (by simp) ?_
    intro w1 hw1
    have HW := Lib.hid (HSET.out w1 (by simpa using hw1))
    have HO := Lib.hid (But.wrote (S := fun i => i = B) hw1 rfl)
    clear hw1 c1
    go_wp2_with (go_at_call 42; refine (wl_number1 B n _ x w1 HW.out (by omega)).mono ?_; rintro e w2 ⟨rfl, hw2, ho2⟩)
    go_end0
    exact ⟨rfl, by simpa using hw2, HO.out.trans ho2⟩
  | false =>
    cases hd : decide (most < x) with
    | true =>
      rw [hd] at HSET
      go_enter Tryz.func44, Tryz.ntmps44
      go_wp2_with (refine stop_at (o := ⟨none, .store _ _ _, _, _, _, _⟩) ?_)
      refine Stop.mk ?_
      refine wpList_set_cell rfl _ _ rfl size_bool B 1 rfl (.bool true) rfl rfl rfl [cur, .bool false] T HB.out (by simp) ?_
      intro w1 hw1
      have HW := Lib.hid (HSET.out w1 (by simpa using hw1))
      have HO := Lib.hid (But.wrote (S := fun i => i = B) hw1 rfl)
      clear hw1 c1
      go_wp2_with (go_at_call 42; refine (wl_number1 B n _ x w1 HW.out (by omega)).mono ?_; rintro e w2 ⟨rfl, hw2, ho2⟩)
      go_end0
      exact ⟨rfl, by simpa using hw2, HO.out.trans ho2⟩
    | false =>
      rw [hd] at HSET
      go_enter Tryz.func44, Tryz.ntmps44
      go_wp2_with (refine stop_at (o := ⟨none, .store _ _ _, _, _, _, _⟩) ?_)
      refine Stop.mk ?_
      refine wpList_set_cell rfl _ _ rfl size_bool B 1 rfl (.bool false) rfl rfl rfl [cur, .bool false] T HB.out (by simp) ?_
      intro w1 hw1
      have HW := Lib.hid (HSET.out w1 (by simpa using hw1))
      have HO := Lib.hid (But.wrote (S := fun i => i = B) hw1 rfl)
      clear hw1 c1
      go_wp2_with (go_at_call 42; refine (wl_number1 B n _ x w1 HW.out (by omega)).mono ?_; rintro e w2 ⟨rfl, hw2, ho2⟩)
      go_end0
      exact ⟨rfl, by simpa using hw2, HO.out.trans ho2⟩
theorem all_take_or {α : Type} (p : α → Bool) (l : List α) (k : Nat) (hk : k < l.length) (b : Bool) : ((b || !(l.take k).all p) || !p l[k]) = (b || !(l.take (k + 1)).all p) := by
  rw [List.take_succ_eq_append_getElem hk, List.all_append]
  cases b <;> simp
theorem RSl.only {α : Type} {enc : α → List Value} {n : Nat} {w W : World} {v : Value} {l : List α} {B : Nat} (h : RSl enc n w v l) (hb : OnlyB B w W) (hn : ∀ oa cap, v = .slice oa l.length cap → ∀ a, oa = some a → a.block ≠ B) : RSl enc n W v l := by
  obtain ⟨oa, cap, e, hc, hh⟩ := h
  refine ⟨oa, cap, e, hc, fun k hl => ?_⟩
  obtain ⟨b', off, e2, hb', hcs⟩ := hh k hl
  exact ⟨b', off, e2, Nat.lt_of_lt_of_le hb' hb.size, fun j hj => hb.cell (show ¬ b' = B from hn oa cap e ⟨b', off, none⟩ e2) (hcs j hj)⟩
/-- w is w0 but for the writer's block, which is not of w0 -/
theorem only_kept {w0 w W : World} {B : Nat} (hk : Kept w0 w) (hb : OnlyB B w W) (hB : w0.heap.size ≤ B) : Kept w0 W := But.to_kept hk hb (fun i hi => by rw [hi]; exact hB)
theorem wl_numbers (w0 : World) (B n : Nat) (b : Bool) (l : List Int) (v : Value) (w : World) (h : WrL w B n b) (hn : n + l.length ≤ 99999) (hB : w0.heap.size ≤ B) (hk0 : Kept w0 w) (hm : ∀ W, Kept w0 W → OnlyB B w W → RSl oneV 1 W v l) :
    Calls Tryz.prog 47 #[.pointer (some ⟨B, 0, none⟩), v] w fun e w' => e = .returned (.tuple #[]) ∧ WrL w' B (n + l.length) (b || !l.all (fun x => mayPut x 1)) ∧ OnlyB B w w' := by
  obtain ⟨oa, cap, rfl, _⟩ := (hm w hk0 (But.refl _ _)).form
  have HM := Lib.hid hm; have HK0 := Lib.hid hk0; have H := Lib.hid h
  clear hm hk0 h
  go_enter Tryz.func47, Tryz.ntmps47
  go_wp2
  go_loopw [8] (fun i wr => ∃ k : Nat, k ≤ l.length ∧ i = .int .i64 (k : Int) ∧ Hid (WrL wr B (n + k) (b || !(l.take k).all (fun x => mayPut x 1)) ∧ OnlyB B w wr)) (fun i _ => l.length - (intOf i).toNat)
  case atStart => exact ⟨0, by omega, rfl, Lib.hid ⟨by simpa using H.out, But.refl _ _⟩⟩
  case round =>
    obtain ⟨k, hk, rfl, HR⟩ := hrel
    by_cases hlt : k < l.length
    · obtain ⟨b', off, rfl, hb', hcs⟩ := (HM.out wr (only_kept HK0.out HR.out.2 hB) HR.out.2).at hlt
      have c0 := hcs 0 (by rw [oneV_len]; decide)
      simp only [Nat.add_zero, Nat.mul_one, oneV, List.getElem_cons_zero] at c0
      clear hcs
      have hC := wl_number1 B (n + k) _ l[k] wr HR.out.1 (by omega)
      have HC := Lib.hid hC; clear hC
      go_wp2_with (go_at_call 42; refine HC.out.mono ?_; rintro e w2 ⟨rfl, hw2, ho2⟩)
      have HW2 := Lib.hid hw2; have HO2 := Lib.hid ho2
      clear hw2 ho2 c0
      go_roundw
      case rel => exact ⟨k + 1, by omega, by go_num, Lib.hid ⟨by have := HW2.out; rw [all_take_or (fun x => mayPut x 1) l k hlt b] at this; exact this, HR.out.2.trans HO2.out⟩⟩
      case measure => simp [intOf]; omega
    · go_wp2
      go_end0
      obtain rfl : k = l.length := by omega
      have := HR.out.1
      rw [List.take_of_length_le (Nat.le_refl _)] at this
      exact ⟨rfl, this, HR.out.2⟩
theorem wl_flag (B n : Nat) (b f : Bool) (w : World) (h : WrL w B n b) (hn : n ≤ 99999) :
    Calls Tryz.prog 48 #[.pointer (some ⟨B, 0, none⟩), .bool f] w fun e w' => e = .returned (.tuple #[]) ∧ WrL w' B (n + 1) b ∧ OnlyB B w w' := by
  cases f with
  | true =>
    have hC := wl_number1 B n b 1 w h (by omega)
    rw [show (b || !mayPut 1 1) = b by rw [show mayPut 1 1 = true from by decide]; simp] at hC
    have HC := Lib.hid hC; clear hC
    go_enter Tryz.func48, Tryz.ntmps48
    go_wp2_with (go_at_call 42; refine HC.out.mono ?_; rintro e w2 ⟨rfl, hw2, ho2⟩)
    go_end0
    exact ⟨rfl, hw2, ho2⟩
  | false =>
    have hC := wl_number1 B n b 0 w h (by omega)
    rw [show (b || !mayPut 0 1) = b by rw [show mayPut 0 1 = true from by decide]; simp] at hC
    have HC := Lib.hid hC; clear hC
    go_enter Tryz.func48, Tryz.ntmps48
    go_wp2_with (go_at_call 42; refine HC.out.mono ?_; rintro e w2 ⟨rfl, hw2, ho2⟩)
    go_end0
    exact ⟨rfl, hw2, ho2⟩
end Go.Proofs.YtiijfocdjcjlaaaGreat
/- state's writer: where, members, group. -/
namespace Go.Proofs.YtiijfocdjcjlaaaGreat
open Go.RowKit Go.ChangeMaps Go.MapKept
set_option linter.unusedVariables false
set_option linter.unusedSimpArgs false
set_option maxRecDepth 100000
set_option maxHeartbeats 1000000
/-- a row of numbers in a block of its own -/
theorem rsl_row {W : World} {g : Nat} {l : List Int} {T : TypeId} (h : W.heap[g]? = some (.cells (ints l).toArray T (0, 0))) (cap : Nat) (hc : l.length ≤ cap) : RSl oneV 1 W (.slice (some ⟨g, 0, none⟩) l.length cap) l := by
  refine ⟨_, cap, rfl, hc, fun k hk => ⟨g, 0, rfl, (Array.getElem?_eq_some_iff.1 h).1, ?_⟩⟩
  intro j hj
  have hj0 : j = 0 := by simp [oneV] at hj; omega
  subst hj0
  have := (Cells.of_block h) k (by simp [ints]; omega)
  simpa [ints, oneV] using this
theorem wl_row (w0 : World) (B n : Nat) (b : Bool) (l : List Int) (g : Nat) (T : TypeId) (w : World) (h : WrL w B n b) (hn : n + l.length ≤ 99999) (hB : w0.heap.size ≤ B) (hk0 : Kept w0 w) (hg : w.heap[g]? = some (.cells (ints l).toArray T (0, 0))) (hgB : g ≠ B) (cap : Nat) (hc : l.length ≤ cap) :
    Calls Tryz.prog 47 #[.pointer (some ⟨B, 0, none⟩), .slice (some ⟨g, 0, none⟩) l.length cap] w fun e w' => e = .returned (.tuple #[]) ∧ WrL w' B (n + l.length) (b || !l.all (fun x => mayPut x 1)) ∧ OnlyB B w w' :=
  wl_numbers w0 B n b l _ w h hn hB hk0 (fun W _ hb => rsl_row (hb.blk (by exact hgB) hg) cap hc)
theorem zero_mbr (w : World) : (zeroValue 56).run Tryz.prog w = .ok (.agg [.int .i64 0, .int .i64 0, .int .i64 0].toArray) w := by kernel_rfl
theorem wl_where (w0 : World) (B n : Nat) (b : Bool) (x : Wh) (w : World) (h : WrL w B n b) (hn : n ≤ 99000) (hB : w0.heap.size ≤ B) (hk0 : Kept w0 w) :
    Calls Tryz.prog 46 #[.pointer (some ⟨B, 0, none⟩), .agg (trip x).toArray] w fun e w' => e = .returned (.tuple #[]) ∧ WrL w' B (n + 3) (b || !([x.1, x.2.1, x.2.2].all (fun x => mayPut x 1))) ∧ OnlyB B w w' := by
  have H := Lib.hid h
  have HK0 := Lib.hid hk0
  clear h hk0
  have hBl := H.out.lt
  simp only [trip]
  go_enter Tryz.func46, Tryz.ntmps46
  go_wp2_with fail
  have hkA : ∀ o p, Kept w ((w.alloc o).alloc p) := fun o p => ((Kept.refl _).alloc o).alloc p
  refine Calls.mono (wl_row w0 B n b [x.1, x.2.1, x.2.2] (w.heap.size + 1) 3 _ (H.out.kept (hkA _ _)) (by simp; omega) hB (HK0.out.trans (hkA _ _)) (heap_alloc2_new w _ _) (by omega) 3 (by simp)) ?_
  rintro e w2 ⟨rfl, h2, h3⟩
  have HF := Lib.hid h2; have HO := Lib.hid ((But.kept (hkA _ _)).trans h3)
  clear h2 h3 hkA
  go_wp2
  go_end0
  exact ⟨rfl, HF.out, HO.out⟩
/-- a member has room -/
def mbW (m : Mb) : Bool := mayPut m.1 1 && (mayPut m.2.1 2 && mayPut m.2.2 1)
theorem wl_members (w0 : World) (B n : Nat) (b : Bool) (l : List Mb) (v : Value) (w : World) (h : WrL w B n b) (hn : n + 4 * l.length ≤ 99000) (hB : w0.heap.size ≤ B) (hk0 : Kept w0 w) (hm : RSl trip 3 w0 v l) :
    Calls Tryz.prog 43 #[.pointer (some ⟨B, 0, none⟩), v] w fun e w' => e = .returned (.tuple #[]) ∧ WrL w' B (n + 1 + 4 * l.length) ((b || (decide ((12 : Int) < l.length) || !mayPut l.length 1)) || !l.all mbW) ∧ OnlyB B w w' := by
  obtain ⟨oa, cap, rfl, _⟩ := hm.form
  have HM := Lib.hid hm; have HK0 := Lib.hid hk0
  have hC := wl_count B n b l.length 12 w h (by omega)
  obtain ⟨b1, hb1⟩ : ∃ b1, b1 = (b || (decide ((12 : Int) < l.length) || !mayPut l.length 1)) := ⟨_, rfl⟩
  rw [← hb1] at hC ⊢
  have HC := Lib.hid hC
  clear hm hk0 h hC hb1
  go_enter Tryz.func43, Tryz.ntmps43
  go_wp2_with (go_at_call 44; refine HC.out.mono ?_; rintro e w1 ⟨rfl, hw1, ho1⟩)
  have H1 := Lib.hid hw1; have HO1 := Lib.hid ho1
  clear hw1 ho1 HC
  go_loopw [12] (fun i wr => ∃ k : Nat, k ≤ l.length ∧ i = .int .i64 (k : Int) ∧ Hid (WrL wr B (n + 1 + 4 * k) (b1 || !(l.take k).all mbW) ∧ OnlyB B w wr)) (fun i _ => l.length - (intOf i).toNat)
  case atStart => exact ⟨0, by omega, rfl, Lib.hid ⟨by simpa using H1.out, HO1.out⟩⟩
  case round =>
    obtain ⟨k, hk, rfl, HR⟩ := hrel
    by_cases hlt : k < l.length
    · have hkr := only_kept HK0.out HR.out.2 hB
      obtain ⟨b', off, rfl, hb', hcs⟩ := HM.out.at hlt
      have hcs := hcs.kept hkr
      have c0 := hcs 0 (by rw [trip_len]; decide)
      have c1 := hcs 1 (by rw [trip_len]; decide)
      have c2 := hcs 2 (by rw [trip_len]; decide)
      simp only [Nat.add_zero, trip, List.getElem_cons_zero, List.getElem_cons_succ] at c0 c1 c2
      clear hcs
      have hBr := HR.out.1.lt
      go_wp2_with (refine stop_at (o := ⟨some 5, .alloc _, _, _, _, _⟩) ?_)
      refine Stop.mk ?_
      refine wpList_alloc_abs rfl _ rfl _ zero_mbr ?_
      intro w3 hz3 hs3 hs3' hk3
      go_wp2_with (refine stop_at (o := ⟨none, .store _ _ _, _, _, _, _⟩) ?_)
      refine Stop.mk ?_
      refine wpList_store_agg (o := ⟨none, .store _ _ _, _, _, _, _⟩) rfl _ _ rfl agT_m wr.heap.size 0 rfl (trip l[k]) rfl rfl (trip_one _) _ _ hz3.out (by simp) ?_
      intro w4 hw4
      replace hw4 := hw4.all rfl
      have hkr4 : Kept wr w4 := hw4.kept hk3 (Nat.le_refl _)
      have hcn := hw4.cells
      have n0 := hcn 0 (by rw [trip_len]; decide)
      have n1 := hcn 1 (by rw [trip_len]; decide)
      have n2 := hcn 2 (by rw [trip_len]; decide)
      simp only [Nat.add_zero, Nat.zero_add, trip, List.getElem_cons_zero, List.getElem_cons_succ] at n0 n1 n2
      have hXB : wr.heap.size ≠ B := by omega
      have HR4 := Lib.hid (HR.out.1.kept hkr4)
      have HO4 := Lib.hid ((HR.out.2).keep hkr4)
      clear hz3 hs3 hs3' hk3 hw4 hkr4 hcn c0 c1 c2 hBr hkr
      generalize wr.heap.size = X at *
      go_wp2_with fail
      refine Calls.mono (wl_number1 B _ _ l[k].1 w4 HR4.out (by omega)) ?_
      rintro e w5 ⟨rfl, h5, o5⟩
      replace n1 := o5.cell (by exact hXB) n1
      replace n2 := o5.cell (by exact hXB) n2
      have HR5 := Lib.hid h5; have HO5 := Lib.hid (HO4.out.trans o5)
      clear h5 o5 n0
      go_wp2_with fail
      refine Calls.mono (wl_number2 B _ _ l[k].2.1 w5 HR5.out (by omega)) ?_
      rintro e w6 ⟨rfl, h6, o6⟩
      replace n2 := o6.cell (by exact hXB) n2
      have HR6 := Lib.hid h6; have HO6 := Lib.hid (HO5.out.trans o6)
      clear h6 o6 n1
      go_wp2_with fail
      refine Calls.mono (wl_number1 B _ _ l[k].2.2 w6 HR6.out (by omega)) ?_
      rintro e w7 ⟨rfl, h7, o7⟩
      have HR7 := Lib.hid h7; have HO7 := Lib.hid (HO6.out.trans o7)
      clear h7 o7 n2
      go_wp2
      go_roundw
      case rel =>
        refine ⟨k + 1, by omega, by go_num, Lib.hid ⟨?_, HO7.out⟩⟩
        have h := HR7.out
        have e1 : n + 1 + 4 * k + 1 + 2 + 1 = n + 1 + 4 * (k + 1) := by omega
        rw [e1] at h
        have e2 : ((((b1 || !(l.take k).all mbW) || !mayPut l[k].1 1) || !mayPut l[k].2.1 2) || !mayPut l[k].2.2 1) = (b1 || !(l.take (k + 1)).all mbW) := by
          rw [← all_take_or mbW l k hlt b1]; unfold mbW
          cases mayPut l[k].1 1 <;> cases mayPut l[k].2.1 2 <;> cases mayPut l[k].2.2 1 <;> simp
        rw [e2] at h
        exact h
      case measure => simp [intOf]; omega
    · go_wp2
      go_end0
      obtain rfl : k = l.length := by omega
      have := HR.out.1
      rw [List.take_of_length_le (Nat.le_refl _)] at this
      exact ⟨rfl, this, HR.out.2⟩
/-- an extent has room -/
def exW (x : Ex) : Bool := mayPut x.1 1 && mayPut x.2 2
theorem zero_ext (w : World) : (zeroValue 39).run Tryz.prog w = .ok (.agg [.int .i64 0, .int .i64 0].toArray) w := by kernel_rfl
theorem agT_ext : AggT Tryz.prog 39 2 := ⟨⟨_, Tryz.underlying39, rfl⟩, by kernel_rfl⟩
theorem pair_one (x : Ex) : ∀ v ∈ pairV x, v.oneCell' = true := by intro v hv; simp only [pairV, List.mem_cons, List.not_mem_nil, or_false] at hv; rcases hv with rfl | rfl <;> rfl
/-- a group has room -/
def grW (g : Grp) : Bool := [g.id, g.kind].all (fun x => mayPut x 1) && (!(decide ((12 : Int) < g.ext.length) || !mayPut g.ext.length 1) && g.ext.all exW)
theorem wl_group (w0 : World) (B n : Nat) (b : Bool) (x : Gw) (g : Grp) (w : World) (h : WrL w B n b) (hn : n + 3 * g.ext.length ≤ 98000) (hB : w0.heap.size ≤ B) (hk0 : Kept w0 w) (hx : GRel w0 x g) :
    Calls Tryz.prog 45 #[.pointer (some ⟨B, 0, none⟩), .agg (grw x).toArray] w fun e w' => e = .returned (.tuple #[]) ∧ WrL w' B (n + 3 + 3 * g.ext.length) (b || !grW g) ∧ OnlyB B w w' := by
  obtain ⟨xid, xk, xe⟩ := x
  obtain ⟨h1, h2, hm, hfew⟩ := hx
  simp only at h1 h2 hm
  subst h1 h2
  obtain ⟨oa, cap, rfl, _⟩ := hm.form
  have HM := Lib.hid hm; have HK0 := Lib.hid hk0; have H := Lib.hid h
  have hBl := h.lt
  clear hm hk0 h
  obtain ⟨b1, hb1⟩ : ∃ b1, b1 = (b || !([g.id, g.kind].all (fun x => mayPut x 1))) := ⟨_, rfl⟩
  obtain ⟨b2, hb2⟩ : ∃ b2, b2 = (b1 || (decide ((12 : Int) < g.ext.length) || !mayPut g.ext.length 1)) := ⟨_, rfl⟩
  have hfin : (b || !grW g) = (b2 || !g.ext.all exW) := by
    rw [hb2, hb1]; unfold grW
    cases b <;> cases [g.id, g.kind].all (fun x => mayPut x 1) <;> cases (decide ((12 : Int) < g.ext.length) || !mayPut g.ext.length 1) <;> simp
  rw [hfin]
  have HB1 := Lib.hid hb1; have HB2 := Lib.hid hb2
  clear hb1 hb2 hfin
  simp only [grw]
  go_enter Tryz.func45, Tryz.ntmps45
  go_wp2_with (refine stop_at (o := ⟨some 3, _, _, _, _, _⟩) ?_)
  refine Stop.mk ?_
  refine wpList_box_rowS rfl _ _ rfl [.int .i64 g.id, .int .i64 g.kind, .slice oa g.ext.length cap] rfl ?_
  intro wb hzb hsb hkb
  have hcb := Cells.of_block hzb.out
  have x0 := hcb 0 (by simp)
  have x1 := hcb 1 (by simp)
  have x2 := hcb 2 (by simp)
  simp only [Nat.add_zero, Nat.zero_add, List.getElem_cons_zero, List.getElem_cons_succ] at x0 x1 x2
  obtain ⟨X, hX⟩ : ∃ X, X = w.heap.size := ⟨_, rfl⟩
  have hXB : X ≠ B := by omega
  have HSB := Lib.hid (show wb.heap.size = X + 1 by omega)
  rw [← hX] at x0 x1 x2 ⊢
  have HKB := Lib.hid hkb
  have hBX : B < X := by omega
  clear hzb hsb hkb hcb hX hBl
  go_wp2_with fail
  have hkA : ∀ o, Kept wb (wb.alloc o) := fun o => (Kept.refl _).alloc o
  have hkA0 := hkA (.cells (ints [g.id, g.kind]).toArray 3)
  have hcn := wl_row w0 B n b [g.id, g.kind] wb.heap.size 3 _ (H.out.kept (HKB.out.trans hkA0)) (by simp; omega) hB (HK0.out.trans (HKB.out.trans hkA0)) (heap_alloc_new wb _) (by have := HSB.out; omega) 2 (by simp)
  rw [← HB1.out] at hcn
  refine Calls.mono hcn ?_
  rintro e w1 ⟨rfl, hw1, ho1⟩
  replace x2 := ho1.cell (by exact hXB) (hkA0.cell' x2)
  have H1 := Lib.hid hw1; have HO1 := Lib.hid ((But.kept (S := fun i => i = B) (HKB.out.trans hkA0)).trans ho1)
  clear hw1 ho1 hcn hkA hkA0 x0 x1
  have hC := wl_count B (n + 2) b1 g.ext.length 12 w1 H1.out (by omega)
  rw [← HB2.out] at hC
  have HC := Lib.hid hC; clear hC
  go_wp2_with fail
  refine Calls.mono HC.out ?_
  rintro e w2 ⟨rfl, hw2, ho2⟩
  replace x2 := ho2.cell (by exact hXB) x2
  have H2 := Lib.hid hw2; have HO2 := Lib.hid (HO1.out.trans ho2)
  clear hw2 ho2 HC
  go_wp2
  go_loopw [21] (fun i wr => ∃ k : Nat, k ≤ g.ext.length ∧ i = .int .i64 (k : Int) ∧ Hid (WrL wr B (n + 3 + 3 * k) (b2 || !(g.ext.take k).all exW) ∧ OnlyB B w wr)) (fun i _ => g.ext.length - (intOf i).toNat)
  case atStart => exact ⟨0, by omega, rfl, Lib.hid ⟨by simpa using H2.out, HO2.out⟩⟩
  case round =>
    obtain ⟨k, hk, rfl, HR⟩ := hrel
    by_cases hlt : k < g.ext.length
    · have hkr := only_kept HK0.out HR.out.2 hB
      obtain ⟨b', off, rfl, hb', hcs⟩ := HM.out.at hlt
      have hcs := hcs.kept hkr
      have c0 := hcs 0 (by rw [pairV_len]; decide)
      have c1 := hcs 1 (by rw [pairV_len]; decide)
      simp only [Nat.add_zero, pairV, List.getElem_cons_zero, List.getElem_cons_succ] at c0 c1
      clear hcs
      have hBr := HR.out.1.lt
      go_wp2_with (refine stop_at (o := ⟨some 5, .alloc _, _, _, _, _⟩) ?_)
      refine Stop.mk ?_
      refine wpList_alloc_abs rfl _ rfl _ zero_ext ?_
      intro w3 hz3 hs3 hs3' hk3
      go_wp2_with (refine stop_at (o := ⟨none, .store _ _ _, _, _, _, _⟩) ?_)
      refine Stop.mk ?_
      refine wpList_store_agg (o := ⟨none, .store _ _ _, _, _, _, _⟩) rfl _ _ rfl agT_ext wr.heap.size 0 rfl (pairV g.ext[k]) rfl rfl (pair_one _) _ _ hz3.out (by simp) ?_
      intro w4 hw4
      replace hw4 := hw4.all rfl
      have hkr4 : Kept wr w4 := hw4.kept hk3 (Nat.le_refl _)
      have hcn := hw4.cells
      have n0 := hcn 0 (by rw [pairV_len]; decide)
      have n1 := hcn 1 (by rw [pairV_len]; decide)
      simp only [Nat.add_zero, Nat.zero_add, pairV, List.getElem_cons_zero, List.getElem_cons_succ] at n0 n1
      have hYB : wr.heap.size ≠ B := by omega
      have HR4 := Lib.hid (HR.out.1.kept hkr4)
      have HO4 := Lib.hid ((HR.out.2).keep hkr4)
      clear hz3 hs3 hs3' hk3 hw4 hkr4 hcn c0 c1 hBr hkr
      generalize wr.heap.size = Y at *
      go_wp2_with fail
      refine Calls.mono (wl_number1 B _ _ g.ext[k].1 w4 HR4.out (by omega)) ?_
      rintro e w5 ⟨rfl, h5, o5⟩
      replace n1 := o5.cell (by exact hYB) n1
      have HR5 := Lib.hid h5; have HO5 := Lib.hid (HO4.out.trans o5)
      clear h5 o5 n0
      go_wp2_with fail
      refine Calls.mono (wl_number2 B _ _ g.ext[k].2 w5 HR5.out (by omega)) ?_
      rintro e w6 ⟨rfl, h6, o6⟩
      have HR6 := Lib.hid h6; have HO6 := Lib.hid (HO5.out.trans o6)
      clear h6 o6 n1
      go_wp2
      go_roundw
      case rel =>
        refine ⟨k + 1, by omega, by go_num, Lib.hid ⟨?_, HO6.out⟩⟩
        have h := HR6.out
        have e1 : n + 3 + 3 * k + 1 + 2 = n + 3 + 3 * (k + 1) := by omega
        rw [e1] at h
        have e2 : (((b2 || !(g.ext.take k).all exW) || !mayPut g.ext[k].1 1) || !mayPut g.ext[k].2 2) = (b2 || !(g.ext.take (k + 1)).all exW) := by
          rw [← all_take_or exW g.ext k hlt b2]; unfold exW
          cases mayPut g.ext[k].1 1 <;> cases mayPut g.ext[k].2 2 <;> simp
        rw [e2] at h
        exact h
      case measure => simp [intOf]; omega
    · go_wp2
      go_end0
      obtain rfl : k = g.ext.length := by omega
      have := HR.out.1
      rw [List.take_of_length_le (Nat.le_refl _)] at this
      exact ⟨rfl, this, HR.out.2⟩
end Go.Proofs.YtiijfocdjcjlaaaGreat
