/- A disk.Bank: all that is loose on a disk is settled (gen_settle.py). -/
import Derived.Test.YtglplhmclfekfaaGreatDke
namespace Go.Proofs.YtglplhmclfekfaaGreat
open Go.RowKit
set_option linter.unusedVariables false
set_option linter.unusedSimpArgs false

theorem Med.settleTo_succ {m : Med} (keep : Bool) (j : Nat) : m.settleTo keep (j + 1) = if 0 < m.sin.getD j 0 then (m.settleTo keep j).settle j keep else m.settleTo keep j := rfl
theorem BankD.cell_sin {w : World} {Y : Lay} {T : BankT} (h : BankD w Y T) {k : Nat} (hk : k < T.l.length) {j : Nat} (hj : j < (T.d k).sin.length) : w.cell? ⟨Y.A (5 + 4 * k), j, none⟩ = some (.int .i64 ((T.d k).sin.getD j 0)) := by
  rw [cell_of_row _ _ _ _ _ _ (h.sin k hk), List.getElem?_toArray, List.getElem?_append_left (by rw [ints_length]; exact hj)]
  simp [ints, List.getD_eq_getElem?_getD, hj]
section
variable {w : World} {Y : Lay} {T : BankT} {k c : Nat}
set_option maxHeartbeats 1000000 in
set_option maxRecDepth 100000 in
theorem closure_Flush (h : BankD w Y T) (ok : T.Ok) (hk : k < T.l.length) (hc : w.cell? ⟨c, 0, none⟩ = some (.pointer (some ⟨Y.A (2 + 4 * k), 0, none⟩))) {j : Nat} (hj : j < (T.d k).sin.length) :
    Calls Tryz.prog 82 #[.int .i64 (j : Int), .pointer (some ⟨c, 0, none⟩)] w fun e w2 => e = .returned (.tuple #[]) ∧ BankD w2 Y (T.up k ((T.d k).settle j true)) ∧ But (Y.In T.l.length) w w2 := by
  have HC := Lib.hid (med_settle h ok hk hj true)
  clear h ok
  go_enter Tryz.func82, Tryz.ntmps82
  go_wp2_with fail
  refine Calls.mono HC.out ?_
  rintro e w2 ⟨rfl, h1, h2⟩
  have H1 := Lib.hid h1; have H2 := Lib.hid h2; clear h1 h2
  go_wp2
  go_end0
  exact ⟨rfl, H1.out, H2.out⟩
theorem settles_Flush (h : BankD w Y T) (ok : T.Ok) (hk : k < T.l.length) (hc : w.cell? ⟨c, 0, none⟩ = some (.pointer (some ⟨Y.A (2 + 4 * k), 0, none⟩))) (hn : ¬ Y.In T.l.length c) :
    Calls Tryz.prog 47 #[.pointer (some ⟨Y.A (2 + 4 * k), 0, none⟩), .func (.func 82) #[] #[.pointer (some ⟨c, 0, none⟩)]] w fun e w' =>
      e = .returned (.tuple #[]) ∧ BankD w' Y (T.up k ((T.d k).settleTo true (T.d k).sin.length)) ∧ But (Y.In T.l.length) w w' := by
  have okd := ok.d hk
  have hl : ∀ j, ((T.d k).settleTo true j).sin.length = (T.d k).sin.length := fun j => Med.settleTo_len _ _ _
  refine loose_Flush (sin := (T.d k).sin) (D := Y.A (5 + 4 * k)) (h.cells hk 2 (by simp [medVals])) okd.len (fun j w1 => BankD w1 Y (T.up k ((T.d k).settleTo true j)) ∧ But (Y.In T.l.length) w w1) ?_ ?_ ?_ ?_
  · exact ⟨by rw [Med.settleTo, BankT.up_d _ _ hk]; exact h, But.refl _ _⟩
  · rintro j w1 hj ⟨h1, _⟩
    have := h1.cell_sin (k := k) (by rw [BankT.up_len]; exact hk) (j := j) (by rw [BankT.up_self _ hk, hl]; exact hj)
    rw [BankT.up_self _ hk, (Med.settleTo_at okd true j (Nat.le_of_lt hj)).2.2, if_neg (by omega)] at this
    exact this
  · rintro j w1 hj hp ⟨h1, h2⟩
    have hk' : k < (T.up k ((T.d k).settleTo true j)).l.length := by rw [BankT.up_len]; exact hk
    refine (closure_Flush h1 (ok.up k (okd.settleTo true (Nat.le_of_lt hj))) hk' (h2.cell hn hc) (by rw [BankT.up_self _ hk, hl]; exact hj)).mono ?_
    rintro e w2 ⟨rfl, h3, h4⟩
    rw [BankT.up_self _ hk, BankT.up_up] at h3
    rw [BankT.up_len] at h4
    exact ⟨rfl, by rw [Med.settleTo_succ, if_pos hp]; exact h3, h2.trans h4⟩
  · rintro j w1 hj hp ⟨h1, h2⟩
    exact ⟨by rw [Med.settleTo_succ, if_neg hp]; exact h1, h2⟩
set_option maxHeartbeats 1000000 in
set_option maxRecDepth 100000 in
theorem closure_Fail (h : BankD w Y T) (ok : T.Ok) (hk : k < T.l.length) (hc : w.cell? ⟨c, 0, none⟩ = some (.pointer (some ⟨Y.A (2 + 4 * k), 0, none⟩))) {j : Nat} (hj : j < (T.d k).sin.length) :
    Calls Tryz.prog 61 #[.int .i64 (j : Int), .pointer (some ⟨c, 0, none⟩)] w fun e w2 => e = .returned (.tuple #[]) ∧ BankD w2 Y (T.up k ((T.d k).settle j false)) ∧ But (Y.In T.l.length) w w2 := by
  have HC := Lib.hid (med_settle h ok hk hj false)
  clear h ok
  go_enter Tryz.func61, Tryz.ntmps61
  go_wp2_with fail
  refine Calls.mono HC.out ?_
  rintro e w2 ⟨rfl, h1, h2⟩
  have H1 := Lib.hid h1; have H2 := Lib.hid h2; clear h1 h2
  go_wp2
  go_end0
  exact ⟨rfl, H1.out, H2.out⟩
theorem settles_Fail (h : BankD w Y T) (ok : T.Ok) (hk : k < T.l.length) (hc : w.cell? ⟨c, 0, none⟩ = some (.pointer (some ⟨Y.A (2 + 4 * k), 0, none⟩))) (hn : ¬ Y.In T.l.length c) :
    Calls Tryz.prog 47 #[.pointer (some ⟨Y.A (2 + 4 * k), 0, none⟩), .func (.func 61) #[] #[.pointer (some ⟨c, 0, none⟩)]] w fun e w' =>
      e = .returned (.tuple #[]) ∧ BankD w' Y (T.up k ((T.d k).settleTo false (T.d k).sin.length)) ∧ But (Y.In T.l.length) w w' := by
  have okd := ok.d hk
  have hl : ∀ j, ((T.d k).settleTo false j).sin.length = (T.d k).sin.length := fun j => Med.settleTo_len _ _ _
  refine loose_Fail (sin := (T.d k).sin) (D := Y.A (5 + 4 * k)) (h.cells hk 2 (by simp [medVals])) okd.len (fun j w1 => BankD w1 Y (T.up k ((T.d k).settleTo false j)) ∧ But (Y.In T.l.length) w w1) ?_ ?_ ?_ ?_
  · exact ⟨by rw [Med.settleTo, BankT.up_d _ _ hk]; exact h, But.refl _ _⟩
  · rintro j w1 hj ⟨h1, _⟩
    have := h1.cell_sin (k := k) (by rw [BankT.up_len]; exact hk) (j := j) (by rw [BankT.up_self _ hk, hl]; exact hj)
    rw [BankT.up_self _ hk, (Med.settleTo_at okd false j (Nat.le_of_lt hj)).2.2, if_neg (by omega)] at this
    exact this
  · rintro j w1 hj hp ⟨h1, h2⟩
    have hk' : k < (T.up k ((T.d k).settleTo false j)).l.length := by rw [BankT.up_len]; exact hk
    refine (closure_Fail h1 (ok.up k (okd.settleTo false (Nat.le_of_lt hj))) hk' (h2.cell hn hc) (by rw [BankT.up_self _ hk, hl]; exact hj)).mono ?_
    rintro e w2 ⟨rfl, h3, h4⟩
    rw [BankT.up_self _ hk, BankT.up_up] at h3
    rw [BankT.up_len] at h4
    exact ⟨rfl, by rw [Med.settleTo_succ, if_pos hp]; exact h3, h2.trans h4⟩
  · rintro j w1 hj hp ⟨h1, h2⟩
    exact ⟨by rw [Med.settleTo_succ, if_neg hp]; exact h1, h2⟩
end
end Go.Proofs.YtglplhmclfekfaaGreat
