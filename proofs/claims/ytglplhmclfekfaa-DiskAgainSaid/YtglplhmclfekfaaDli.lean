/- DiskArmed: the plain law. -/
import Derived.Test.YtglplhmclfekfaaDlh
import Derived.Test.YtglplhmclfekfaaDlc
namespace Go.Proofs.Ytglplhmclfekfaa
open Go.RowKit
set_option linter.unusedVariables false
set_option linter.unusedSimpArgs false

/-- a is armed at the n-th write, b is not; c writes have been -/
def ArI (n : Nat) (mask : Int) (c : Nat) (Ta Tb : BankT) : Prop :=
  (Still Tb 3 8 ∧ Tb.writes = c ∧ c < n ∧ Ta = Tb.re c ((n : Int) - c) mask) ∨ (Shape Tb 3 8 ∧ Tb.down = true ∧ n ≤ c ∧ Tb.writes ≤ c ∧ ∃ x : Int, 0 ≤ x ∧ x ≤ c ∧ Ta = Tb.re x 0 mask)
theorem down_ready {T : BankT} (h : T.down = true) (d : Int) : T.readyE d ≠ 0 := by
  unfold BankT.readyE
  split
  · decide
  · split
    · decide
    · decide
theorem down_inE {T : BankT} (h : T.down = true) (d a : Int) : T.inE d a ≠ 0 := by
  rw [BankT.inE_no (down_ready h d)]; exact down_ready h d
theorem down_write {T : BankT} (h : T.down = true) (d a : Int) (s : List Int) : T.write d a s = (T, T.inE d a) := by
  unfold BankT.write BankT.tick
  rw [if_pos h]
  simp only [Bool.true_eq_false, if_false]
  rw [if_neg (down_inE h d a)]
theorem down_flush {T : BankT} (h : T.down = true) (d : Int) : T.flushC d = (T, T.readyE d) := by
  unfold BankT.flushC; rw [if_neg (down_ready h d)]
section
variable {n c : Nat} {mask : Int} {Ta Tb : BankT}
theorem ArI.same (h : ArI n mask c Ta Tb) : Ta.down = Tb.down ∧ Ta.looseN = Tb.looseN := by
  rcases h with ⟨_, _, _, rfl⟩ | ⟨_, _, _, _, x, _, _, rfl⟩ <;> exact ⟨rfl, re_looseN _ _ _ _⟩
theorem ArI.shape (h : ArI n mask c Ta Tb) : Shape Tb 3 8 := by
  rcases h with ⟨h, _⟩ | ⟨h, _⟩
  · exact h.toShape
  · exact h
theorem ArI.use (h : ArI n mask c Ta Tb) (hn : n ≤ 32) (hc : c ≤ 1000) (hm : 0 ≤ mask ∧ mask < 18446744073709551616) (hk : Tb.clock ≤ 1000) : Ta.Use ∧ Tb.Use := by
  have hs := h.shape
  have hl : Tb.l.length ≠ 0 := by rw [hs.len]; decide
  rcases h with ⟨_, hw, hcn, rfl⟩ | ⟨_, _, hcn, hw, x, hx0, hx1, rfl⟩
  · exact ⟨⟨re_inv hs.inv (by omega) (by omega) hm, hl, by show Tb.clock < _; omega, by show (c : Int) < _; omega⟩, ⟨hs.inv, hl, by omega, by omega⟩⟩
  · exact ⟨⟨re_inv hs.inv hx0 (by omega) hm, hl, by show Tb.clock < _; omega, by show x < _; omega⟩, ⟨hs.inv, hl, by omega, by omega⟩⟩
theorem ArI.flush (h : ArI n mask c Ta Tb) (d : Nat) (hd : d < 4) : ∃ e Ta' Tb', Ta.flushC (d : Int) = (Ta', e) ∧ Tb.flushC (d : Int) = (Tb', e) ∧ ArI n mask c Ta' Tb' ∧ Tb'.clock = Tb.clock := by
  rcases h with ⟨hs, hw, hcn, rfl⟩ | ⟨hs, hd', hcn, hw, x, hx0, hx1, rfl⟩
  · by_cases h3 : d < 3
    · obtain ⟨T', he, hc', hk, hw', _⟩ := hs.flush h3
      exact ⟨0, T'.re c ((n : Int) - c) mask, T', by rw [re_flushC, he], he, .inl ⟨hc', hw'.trans hw, hcn, rfl⟩, hk⟩
    · have hr : Tb.readyE (d : Int) = 8 := by unfold BankT.readyE; rw [if_pos (by rw [hs.len]; omega)]
      have he : Tb.flushC (d : Int) = (Tb, 8) := by unfold BankT.flushC; rw [hr, if_neg (by decide)]
      exact ⟨8, Tb.re c ((n : Int) - c) mask, Tb, by rw [re_flushC, he], he, .inl ⟨hs, hw, hcn, rfl⟩, rfl⟩
  · have he := down_flush hd' (d : Int)
    exact ⟨_, Tb.re x 0 mask, Tb, by rw [re_flushC, he], he, .inr ⟨hs, hd', hcn, hw, x, hx0, hx1, rfl⟩, rfl⟩
/-- the write at which a falls -/
theorem ArI.hit (h : ArI n mask c Ta Tb) (hc : c + 1 = n) (d a : Int) (s : List Int) : ∃ Ta', Ta.write d a s = (Ta', 6) ∧ ArI n mask (c + 1) Ta' (Tb.crash mask) ∧ (Tb.crash mask).clock = Tb.clock := by
  rcases h with ⟨hs, hw, hcn, rfl⟩ | ⟨_, _, hcn, _⟩
  · obtain ⟨k1, k2, k3, k4, k5⟩ := hs.crash mask
    refine ⟨(Tb.crash mask).re (c + 1) 0 mask, ?_, .inr ⟨k4, k5, by omega, by rw [k3, hw]; omega, (c : Int) + 1, by omega, by omega, rfl⟩, k2⟩
    have hf : ∀ d, d < (Tb.re c ((n : Int) - c) mask).l.length → ((Tb.re c ((n : Int) - c) mask).d d).fail = 0 := fun d hd => hs.fail d (by rw [← hs.len]; exact hd)
    have ht : (Tb.re c ((n : Int) - c) mask).tickTo (Tb.re c ((n : Int) - c) mask).l.length = Tb.re (c + 1) ((n : Int) - c) mask := tickTo_calm hf (Nat.le_refl _)
    have htk : (Tb.re c ((n : Int) - c) mask).tick = ((Tb.crash mask).re (c + 1) 0 mask, false) := by
      unfold BankT.tick
      rw [if_neg (show ¬ (Tb.re (c : Int) ((n : Int) - c) mask).down = true by show ¬ Tb.down = true; rw [hs.up]; decide), ht, if_pos (show 0 < (Tb.re ((c : Int) + 1) ((n : Int) - c) mask).armed by show 0 < (n : Int) - c; omega), if_pos (show (Tb.re ((c : Int) + 1) ((n : Int) - c) mask).armed = 1 by show (n : Int) - c = 1; omega)]
      have e1 : (Tb.re (c + 1) ((n : Int) - c) mask).arm1 = Tb.re (c + 1) 0 mask := by
        unfold BankT.arm1 BankT.re
        simp only [BankT.mk.injEq, true_and, and_true]
        omega
      rw [e1, re_crash _ _ _ hs.up]
      rfl
    unfold BankT.write
    rw [htk]
    simp only [if_true]
  · omega
/-- any other write -/
theorem ArI.miss (h : ArI n mask c Ta Tb) (hc : c + 1 ≠ n) (d a : Nat) {s : List Int} (hs' : s.length = 64 ∧ ∀ x ∈ s, IsByte x) :
    ∃ e Ta' Tb', Ta.write (d : Int) (a : Int) s = (Ta', e) ∧ Tb.write (d : Int) (a : Int) s = (Tb', e) ∧ ArI n mask (c + 1) Ta' Tb' ∧ Tb'.clock ≤ Tb.clock + 1 := by
  rcases h with ⟨hs, hw, hcn, rfl⟩ | ⟨hs, hd', hcn, hw, x, hx0, hx1, rfl⟩
  · have hf : ∀ d, d < (Tb.re c ((n : Int) - c) mask).l.length → ((Tb.re c ((n : Int) - c) mask).d d).fail = 0 := fun d hd => hs.fail d (by rw [← hs.len]; exact hd)
    have ht : (Tb.re c ((n : Int) - c) mask).tickTo (Tb.re c ((n : Int) - c) mask).l.length = Tb.re (c + 1) ((n : Int) - c) mask := tickTo_calm hf (Nat.le_refl _)
    have e1 : (Tb.re (c + 1) ((n : Int) - c) mask).arm1 = Tb.re (c + 1) ((n : Int) - (c + 1 : Nat)) mask := by
      unfold BankT.arm1 BankT.re
      simp only [BankT.mk.injEq, true_and, and_true]
      omega
    have htk : (Tb.re c ((n : Int) - c) mask).tick = (Tb.re (c + 1) ((n : Int) - (c + 1 : Nat)) mask, true) := by
      unfold BankT.tick
      rw [if_neg (show ¬ (Tb.re (c : Int) ((n : Int) - c) mask).down = true by show ¬ Tb.down = true; rw [hs.up]; decide), ht, if_pos (show 0 < (Tb.re ((c : Int) + 1) ((n : Int) - c) mask).armed by show 0 < (n : Int) - c; omega), if_neg (show ¬ (Tb.re ((c : Int) + 1) ((n : Int) - c) mask).armed = 1 by show ¬ (n : Int) - c = 1; omega), e1]
    have hb := hs.tick
    have hB : ({ Tb with writes := Tb.writes + 1 } : BankT) = Tb.re (c + 1) Tb.armed Tb.mask := by rw [hw]; rfl
    have hst : Still ({ Tb with writes := Tb.writes + 1 } : BankT) 3 8 := hs.wr (by rw [hw]; omega)
    rw [hB] at hb hst
    have hin : ∀ x y z, (Tb.re x y z).inE (d : Int) (a : Int) = Tb.inE (d : Int) (a : Int) := fun x y z => rfl
    have hwA : (Tb.re c ((n : Int) - c) mask).write (d : Int) (a : Int) s = if Tb.inE (d : Int) (a : Int) = 0 then ((Tb.put d a s).re (c + 1) ((n : Int) - (c + 1 : Nat)) mask, 0) else (Tb.re (c + 1) ((n : Int) - (c + 1 : Nat)) mask, Tb.inE (d : Int) (a : Int)) := by
      unfold BankT.write
      rw [htk]
      simp only [Bool.true_eq_false, if_false, hin, Int.toNat_natCast, re_put]
    have hwB : Tb.write (d : Int) (a : Int) s = if Tb.inE (d : Int) (a : Int) = 0 then ((Tb.put d a s).re (c + 1) Tb.armed Tb.mask, 0) else (Tb.re (c + 1) Tb.armed Tb.mask, Tb.inE (d : Int) (a : Int)) := by
      unfold BankT.write
      rw [hb]
      simp only [Bool.true_eq_false, if_false, hin, Int.toNat_natCast, re_put]
    by_cases h0 : Tb.inE (d : Int) (a : Int) = 0
    · obtain ⟨k, b, hdk, hab, hk, hbl, _⟩ := BankT.inE_has h0
      have hk' : d = k := by omega
      have hb' : a = b := by omega
      subst hk' hb'
      have hd3 : d < 3 := by rw [← hs.len]; exact hk
      rw [if_pos h0] at hwA hwB
      have hp := hst.put hd3 (a := a) (by rw [← hs.sz d hd3]; exact hbl) hs'
      rw [re_put] at hp
      refine ⟨0, _, _, hwA, hwB, .inl ⟨hp, ?_, by omega, ?_⟩, ?_⟩
      · show ((c : Int) + 1) = _; omega
      · show _ = BankT.re _ _ _ _
        unfold BankT.re
        simp
      · show (Tb.put d a s).clock ≤ _
        rw [BankT.put_clock]; split <;> omega
    · rw [if_neg h0] at hwA hwB
      refine ⟨_, _, _, hwA, hwB, .inl ⟨hst, ?_, by omega, ?_⟩, ?_⟩
      · show ((c : Int) + 1) = _; omega
      · show _ = BankT.re _ _ _ _
        unfold BankT.re
        simp
      · show Tb.clock ≤ _; omega
  · have hA : (Tb.re x 0 mask).write (d : Int) (a : Int) s = (Tb.re x 0 mask, Tb.inE (d : Int) (a : Int)) := down_write (T := Tb.re x 0 mask) hd' _ _ _
    exact ⟨_, _, _, hA, down_write hd' _ _ _, .inr ⟨hs, hd', by omega, by omega, x, hx0, by omega, rfl⟩, by omega⟩
theorem ArI.read (h : ArI n mask c Ta Tb) (d a : Int) : Ta.start.read d a = Tb.start.read d a := by
  rcases h with ⟨_, _, _, rfl⟩ | ⟨_, _, _, _, x, _, _, rfl⟩ <;> rfl
end
theorem ArI.start {n : Nat} {mask : Int} (hn : 0 < n) : ArI n mask 0 ((addN 3).arm n mask) (addN 3) := by
  refine .inl ⟨addN_still (by decide), (addN_rest 3).2.2.2, hn, ?_⟩
  unfold BankT.arm BankT.re
  rw [(addN_rest 3).2.2.2]
  simp only [BankT.mk.injEq, true_and, and_true]
  exact ⟨rfl, by omega⟩
end Go.Proofs.Ytglplhmclfekfaa
