/- A disk.Bank: what is read of it; who may be used. -/
import Derived.Test.YtglplhmclfekfaaGreatDkf
namespace Go.Proofs.YtglplhmclfekfaaGreat
open Go.RowKit
set_option linter.unusedVariables false
set_option linter.unusedSimpArgs false

section
variable {w : World} {Y : Lay} {T : BankT}
theorem BankD.b0 (h : BankD w Y T) (hN : T.l.length ≠ 0) : w.cell? ⟨Y.A 0, 0, none⟩ = some (.slice (some ⟨Y.A 1, 0, none⟩) T.l.length Y.c) := by
  rw [cell_of_row _ _ _ _ _ _ h.bank]; simp [bankVals, Lay.list, hN]
theorem BankD.b1 (h : BankD w Y T) : w.cell? ⟨Y.A 0, 1, none⟩ = some (.bool T.down) := by
  rw [cell_of_row _ _ _ _ _ _ h.bank]; simp [bankVals]
theorem BankD.b2 (h : BankD w Y T) : w.cell? ⟨Y.A 0, 2, none⟩ = some (.int .i64 T.clock) := by
  rw [cell_of_row _ _ _ _ _ _ h.bank]; simp [bankVals]
theorem BankD.b3 (h : BankD w Y T) : w.cell? ⟨Y.A 0, 3, none⟩ = some (.int .i64 T.writes) := by
  rw [cell_of_row _ _ _ _ _ _ h.bank]; simp [bankVals]
theorem BankD.b4 (h : BankD w Y T) : w.cell? ⟨Y.A 0, 4, none⟩ = some (.int .i64 T.armed) := by
  rw [cell_of_row _ _ _ _ _ _ h.bank]; simp [bankVals]
theorem BankD.b5 (h : BankD w Y T) : w.cell? ⟨Y.A 0, 5, none⟩ = some (.int .u64 T.mask) := by
  rw [cell_of_row _ _ _ _ _ _ h.bank]; simp [bankVals]
theorem BankD.r (h : BankD w Y T) {k : Nat} (hk : k < T.l.length) : w.cell? ⟨Y.A 1, k, none⟩ = some (.pointer (some ⟨Y.A (2 + 4 * k), 0, none⟩)) := by
  obtain ⟨h1, h2, h3, _, h4⟩ := h.row (by omega)
  rw [cell_of_row _ _ _ _ _ _ h1]
  have := h4 k hk
  simpa [Lay.ptr] using this
theorem BankD.m0 (h : BankD w Y T) {k : Nat} (hk : k < T.l.length) : w.cell? ⟨Y.A (2 + 4 * k), 0, none⟩ = some (.slice (some ⟨Y.A (3 + 4 * k), 0, none⟩) (T.d k).sin.length ((T.d k).sin.length + Y.x (3 + 4 * k))) := (h.cells hk) 0 (by simp [medVals])
theorem BankD.m1 (h : BankD w Y T) {k : Nat} (hk : k < T.l.length) : w.cell? ⟨Y.A (2 + 4 * k), 1, none⟩ = some (.slice (some ⟨Y.A (4 + 4 * k), 0, none⟩) (T.d k).sin.length ((T.d k).sin.length + Y.x (4 + 4 * k))) := (h.cells hk) 1 (by simp [medVals])
theorem BankD.m2 (h : BankD w Y T) {k : Nat} (hk : k < T.l.length) : w.cell? ⟨Y.A (2 + 4 * k), 2, none⟩ = some (.slice (some ⟨Y.A (5 + 4 * k), 0, none⟩) (T.d k).sin.length ((T.d k).sin.length + Y.x (5 + 4 * k))) := (h.cells hk) 2 (by simp [medVals])
theorem BankD.m3 (h : BankD w Y T) {k : Nat} (hk : k < T.l.length) : w.cell? ⟨Y.A (2 + 4 * k), 3, none⟩ = some (.bool (T.d k).dead) := (h.cells hk) 3 (by simp [medVals])
theorem BankD.m4 (h : BankD w Y T) {k : Nat} (hk : k < T.l.length) : w.cell? ⟨Y.A (2 + 4 * k), 4, none⟩ = some (.int .i64 (T.d k).fail) := (h.cells hk) 4 (by simp [medVals])
theorem tup_eq {a b c d : Value} (h1 : a = c) (h2 : b = d) : Ending.returned (.tuple #[a, b]) = .returned (.tuple #[c, d]) := by rw [h1, h2]

set_option maxHeartbeats 1000000
set_option maxRecDepth 100000
theorem bank_is (h : BankD w Y T) (hN : T.l.length ≠ 0) (d : Int) : Calls Tryz.prog 60 #[.pointer (some ⟨Y.A 0, 0, none⟩), .int .i64 d] w fun e w' => e = .returned (.bool (decide (0 ≤ d) && decide (d < T.l.length))) ∧ w = w' := by
  have c0 := h.b0 hN
  clear h
  by_cases h0 : 0 ≤ d
  · go_enter Tryz.func60, Tryz.ntmps60
    go_wp2
    go_ret
    refine ⟨ret_bool ?_, rfl⟩
    simp [h0]
  · go_enter Tryz.func60, Tryz.ntmps60
    go_wp2
    go_ret
    refine ⟨ret_bool ?_, rfl⟩
    simp [h0]; omega
theorem bank_is_t (h : BankD w Y T) {k : Nat} (hk : k < T.l.length) : Calls Tryz.prog 60 #[.pointer (some ⟨Y.A 0, 0, none⟩), .int .i64 (k : Int)] w fun e w' => e = .returned (.bool true) ∧ w = w' :=
  (bank_is h (by omega) (k : Int)).mono fun e w' ⟨he, hw⟩ => ⟨by rw [he]; simp; omega, hw⟩
theorem bank_is_f (h : BankD w Y T) (hN : T.l.length ≠ 0) {d : Int} (hd : d < 0 ∨ (T.l.length : Int) ≤ d) : Calls Tryz.prog 60 #[.pointer (some ⟨Y.A 0, 0, none⟩), .int .i64 d] w fun e w' => e = .returned (.bool false) ∧ w = w' :=
  (bank_is h hN d).mono fun e w' ⟨he, hw⟩ => ⟨by rw [he]; simp; omega, hw⟩
theorem med_in (h : BankD w Y T) {k : Nat} (hk : k < T.l.length) (a : Int) : Calls Tryz.prog 50 #[.pointer (some ⟨Y.A (2 + 4 * k), 0, none⟩), .int .i64 a] w fun e w' => e = .returned (.bool (decide (0 ≤ a) && decide (a < (T.d k).sin.length))) ∧ w = w' := by
  have c1 := h.m1 hk
  clear h
  by_cases h0 : 0 ≤ a
  · go_enter Tryz.func50, Tryz.ntmps50
    go_wp2
    go_ret
    refine ⟨ret_bool ?_, rfl⟩
    simp [h0]
  · go_enter Tryz.func50, Tryz.ntmps50
    go_wp2
    go_ret
    refine ⟨ret_bool ?_, rfl⟩
    simp [h0]; omega
theorem bank_ready (h : BankD w Y T) (hN : T.l.length ≠ 0) (d : Int) : Calls Tryz.prog 49 #[.pointer (some ⟨Y.A 0, 0, none⟩), .int .i64 d] w fun e w' =>
    e = .returned (.tuple #[if T.readyE d = 0 then .pointer (some ⟨Y.A (2 + 4 * d.toNat), 0, none⟩) else .pointer none, .int .i64 (T.readyE d)]) ∧ w = w' := by
  by_cases h0 : d < 0 ∨ (T.l.length : Int) ≤ d
  · have hi := Lib.hid (bank_is_f h hN h0)
    have he : T.readyE d = 8 := by unfold BankT.readyE; rw [if_pos h0]
    rw [he]
    clear h he
    go_enter Tryz.func49, Tryz.ntmps49
    go_wp2_with fail
    refine Calls.mono hi.out ?_
    rintro e w' ⟨rfl, rfl⟩
    go_wp2
    go_ret2
    exact ⟨rfl, rfl⟩
  · obtain ⟨k, rfl, hk⟩ : ∃ k : Nat, d = (k : Int) ∧ k < T.l.length := ⟨d.toNat, by omega, by omega⟩
    have hi := Lib.hid (bank_is_t h hk)
    have c0 := h.b0 hN
    have cr := h.r hk
    have cd := h.m3 hk
    have cu := h.b1
    have he : T.readyE (k : Int) = if (T.d k).dead then 7 else if T.down then 6 else 0 := by unfold BankT.readyE; rw [if_neg h0, Int.toNat_natCast]
    rw [he, Int.toNat_natCast]
    clear h he h0
    have r1 : ∀ z : Value, (if ((7 : Int) = 0) then z else .pointer none) = .pointer none := fun _ => rfl
    have r2 : ∀ z : Value, (if ((6 : Int) = 0) then z else .pointer none) = .pointer none := fun _ => rfl
    have r3 : ∀ z : Value, (if ((0 : Int) = 0) then z else .pointer none) = z := fun _ => rfl
    cases hd : (T.d k).dead with
    | true =>
      rw [hd] at cd
      rw [if_pos rfl, r1]
      clear hd cu r1 r2 r3
      go_enter Tryz.func49, Tryz.ntmps49
      go_wp2_with fail
      refine Calls.mono hi.out ?_
      rintro e w' ⟨rfl, rfl⟩
      go_wp2
      go_ret2
      exact ⟨rfl, rfl⟩
    | false =>
      rw [hd] at cd
      rw [if_neg Bool.false_ne_true]
      clear hd
      cases hu : T.down with
      | true =>
        rw [hu] at cu
        rw [if_pos rfl, r2]
        clear hu r1 r2 r3
        go_enter Tryz.func49, Tryz.ntmps49
        go_wp2_with fail
        refine Calls.mono hi.out ?_
        rintro e w' ⟨rfl, rfl⟩
        go_wp2
        go_ret2
        exact ⟨rfl, rfl⟩
      | false =>
        rw [hu] at cu
        rw [if_neg Bool.false_ne_true, r3]
        clear hu r1 r2 r3
        go_enter Tryz.func49, Tryz.ntmps49
        go_wp2_with fail
        refine Calls.mono hi.out ?_
        rintro e w' ⟨rfl, rfl⟩
        go_wp2
        go_ret2
        exact ⟨rfl, rfl⟩
end
end Go.Proofs.YtglplhmclfekfaaGreat
