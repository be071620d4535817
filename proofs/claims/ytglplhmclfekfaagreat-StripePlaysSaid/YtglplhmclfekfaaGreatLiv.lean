/- A disk.Bank in plain Lean: writes where disks may fail; so many new disks. -/
import Derived.Test.YtglplhmclfekfaaGreatDlb
namespace Go.Proofs.YtglplhmclfekfaaGreat
open Go.RowKit
set_option linter.unusedVariables false
set_option linter.unusedSimpArgs false

/-- a write is counted for one disk -/
def Med.tick (m : Med) : Med := if 0 < m.fail then (if m.fail = 1 then m.less.kill.settleTo false m.sin.length else m.less) else m
theorem BankT.tick1_d {T : BankT} {k : Nat} (hk : k < T.l.length) (c : Nat) : (T.tick1 k).d c = if c = k then (T.d k).tick else T.d c := by
  unfold BankT.tick1 Med.tick
  split
  · split
    · unfold BankT.fell
      rw [BankT.d_up _ (by rw [BankT.up_len]; exact hk), BankT.up_self _ hk, BankT.d_up _ hk]
      by_cases e : c = k
      · rw [if_pos e, if_pos e]; rfl
      · simp [e]
    · rw [BankT.d_up _ hk]
  · by_cases e : c = k
    · rw [if_pos e, e]
    · rw [if_neg e]
theorem BankT.tickTo_d {T : BankT} (ok : T.Ok) : ∀ {j : Nat}, j ≤ T.l.length → ∀ c, (T.tickTo j).d c = if c < j then (T.d c).tick else T.d c
  | 0, _, c => by rw [if_neg (by omega)]; rfl
  | j + 1, hj, c => by
    rw [BankT.tickTo, BankT.tick1_d (by rw [(BankT.tickTo_calmer ok (j := j) (by omega)).1.len]; omega), BankT.tickTo_d ok (by omega), BankT.tickTo_d ok (by omega)]
    by_cases e : c = j
    · subst e; rw [if_pos rfl, if_neg (by omega), if_pos (by omega)]
    · rw [if_neg e]
      by_cases h : c < j
      · rw [if_pos h, if_pos (by omega)]
      · rw [if_neg h, if_neg (by omega)]
theorem Med.tick_alive {m : Med} (h : m.tick.dead = false) : m.dead = false ∧ m.tick.flu = m.flu ∧ m.tick.new = m.new ∧ m.tick.sin = m.sin ∧ m.fail ≠ 1 := by
  unfold Med.tick at h ⊢
  by_cases h0 : 0 < m.fail
  · rw [if_pos h0] at h ⊢
    by_cases h1 : m.fail = 1
    · rw [if_pos h1, Med.settleTo_dead] at h; cases h
    · rw [if_neg h1] at h ⊢; exact ⟨h, rfl, rfl, rfl, h1⟩
  · rw [if_neg h0] at h ⊢; exact ⟨h, rfl, rfl, rfl, by omega⟩
theorem Med.tick_dead (m : Med) : m.tick.dead = (m.dead || decide (m.fail = 1)) := by
  unfold Med.tick
  by_cases h0 : 0 < m.fail
  · rw [if_pos h0]
    by_cases h1 : m.fail = 1
    · rw [if_pos h1, Med.settleTo_dead]; simp [h1, Med.kill]
    · rw [if_neg h1]; simp [h1, Med.less]
  · rw [if_neg h0]; simp; omega
theorem Med.tick_fail (m : Med) (h : 0 ≤ m.fail) : m.tick.fail = if 0 < m.fail then m.fail - 1 else 0 := by
  unfold Med.tick
  by_cases h0 : 0 < m.fail
  · rw [if_pos h0, if_pos h0]
    by_cases h1 : m.fail = 1
    · rw [if_pos h1, Med.settleTo_fail]; rfl
    · rw [if_neg h1]; rfl
  · rw [if_neg h0, if_neg h0]; omega
/-- n disks of z sectors, up, nothing armed; disks may be dead, or fail at a write to come -/
structure Live (T : BankT) (n z : Nat) : Prop extends Shape T n z where
  up : T.down = false
  arm : T.armed = 0
theorem Still.live {T : BankT} {n z : Nat} (h : Still T n z) : Live T n z := ⟨h.toShape, h.up, h.arm⟩
section
variable {T : BankT} {n z : Nat}
theorem Live.tick (h : Live T n z) : ∃ T2, T.tick = (T2, true) ∧ Live T2 n z ∧ T2.writes = T.writes + 1 ∧ T2.clock = T.clock ∧ ∀ c, c < n → T2.d c = (T.d c).tick := by
  obtain ⟨k1, k2, k3, k4, k5, k6⟩ := BankT.tickTo_calmer h.inv.ok (Nat.le_refl T.l.length)
  refine ⟨T.tickTo T.l.length, ?_, ⟨⟨k1.inv h.inv k2 (by rw [k3]; have := h.inv.wr; omega) (by rw [k4]; exact h.inv.ar) (by rw [k5]; exact h.inv.msk), k1.len.trans h.len, fun d hd => (k1.lens d).trans (h.sz d hd)⟩, k6.trans h.up, k4.trans h.arm⟩, k3, k1.clk, fun c hc => ?_⟩
  · unfold BankT.tick
    rw [if_neg (by rw [h.up]; decide), if_neg (by rw [k4, h.arm]; decide)]
  · rw [BankT.tickTo_d h.inv.ok (Nat.le_refl _), if_pos (by rw [h.len]; exact hc)]
theorem Live.ready (h : Live T n z) {d : Nat} (hd : d < n) : T.readyE (d : Int) = if (T.d d).dead then 7 else 0 := by
  unfold BankT.readyE
  rw [if_neg (by rw [h.len]; omega), Int.toNat_natCast, h.up]
  cases (T.d d).dead <;> rfl
theorem stampP {T : BankT} (h : T.Inv) (d a : Nat) : 0 < T.stamp d a := by
  have h0 := BankT.S_nonneg h d a
  have hc := h.clk
  unfold BankT.stamp
  unfold BankT.S at h0
  split
  · omega
  · omega
theorem Live.write (h : Live T n z) {d a : Nat} (hd : d < n) (ha : a < z) {s : List Int} (hs : s.length = 64 ∧ ∀ x ∈ s, IsByte x) :
    ∃ T', T.write (d : Int) (a : Int) s = (T', if (T.d d).tick.dead then 7 else 0) ∧ Live T' n z ∧ T'.clock ≤ T.clock + 1 ∧ T'.writes = T.writes + 1 ∧
      ∀ c, c < n → (T'.d c).dead = (T.d c).tick.dead ∧ (T'.d c).fail = (T.d c).tick.fail ∧ ((T.d c).tick.dead = false → ∀ k, k < z →
        T'.F c k = T.F c k ∧ T'.N c k = (if c = d ∧ k = a then s else T.N c k) ∧ (0 < T'.S c k ↔ (c = d ∧ k = a) ∨ 0 < T.S c k)) := by
  obtain ⟨T2, ht, h2, hw2, hc2, hd2⟩ := h.tick
  have hr := h2.ready hd
  rw [hd2 d hd] at hr
  by_cases e : (T.d d).tick.dead = true
  · rw [if_pos e] at hr
    refine ⟨T2, ?_, h2, by omega, hw2, fun c hc => ⟨by rw [hd2 c hc], by rw [hd2 c hc], fun hal k hk => ?_⟩⟩
    · unfold BankT.write
      rw [ht]
      simp only [Bool.true_eq_false, if_false]
      rw [BankT.inE_no (by rw [hr]; decide), hr, if_neg (by decide), if_pos e]
    · obtain ⟨_, a1, a2, a3, _⟩ := Med.tick_alive hal
      have hne : c ≠ d := fun e' => by rw [e', e] at hal; cases hal
      unfold BankT.F BankT.N BankT.S
      rw [hd2 c hc, a1, a2, a3]
      simp [hne]
  · have e' : (T.d d).tick.dead = false := by simpa using e
    rw [if_neg e] at hr
    have hda : d < T2.l.length := by rw [h2.len]; exact hd
    have haa : a < (T2.d d).sin.length := by rw [h2.sz d hd]; exact ha
    obtain ⟨r1, r2, r3, r4, r5⟩ := T2.put_rest d a s
    obtain ⟨m1, m2, m3⟩ := Med.put_rest (T2.d d) a s (T2.stamp d a)
    have hdf : ∀ c, ((T2.put d a s).d c).dead = (T2.d c).dead ∧ ((T2.put d a s).d c).fail = (T2.d c).fail ∧ ((T2.put d a s).d c).sin.length = (T2.d c).sin.length := fun c => by
      rw [BankT.put_d hda]
      split
      · rename_i e'; rw [m1, m2, m3, e']; exact ⟨rfl, rfl, rfl⟩
      · exact ⟨rfl, rfl, rfl⟩
    refine ⟨T2.put d a s, ?_, ⟨⟨h2.inv.put hda haa hs, r1.trans h2.len, fun c hc => (hdf c).2.2.trans (h2.sz c hc)⟩, r2.trans h2.up, r4.trans h2.arm⟩, ?_, r3.trans hw2, fun c hc => ⟨by rw [(hdf c).1, hd2 c hc], by rw [(hdf c).2.1, hd2 c hc], fun hal k hk => ?_⟩⟩
    · unfold BankT.write
      rw [ht]
      have hin : T2.inE (d : Int) (a : Int) = 0 := BankT.inE_in hr haa
      simp only [Bool.true_eq_false, if_false, hin, if_true, Int.toNat_natCast, e', Bool.false_eq_true]
    · rw [BankT.put_clock, hc2]
      split <;> omega
    · obtain ⟨_, a1, a2, a3, _⟩ := Med.tick_alive hal
      obtain ⟨b1, b2, b3⟩ := BankT.put_at h2.inv.ok hda haa s c k
      have f1 : T2.F c k = T.F c k := by unfold BankT.F; rw [hd2 c hc, a1]
      have f2 : T2.N c k = T.N c k := by unfold BankT.N; rw [hd2 c hc, a2]
      have f3 : T2.S c k = T.S c k := by unfold BankT.S; rw [hd2 c hc, a3]
      rw [b1, b2, b3, f1, f2, f3]
      refine ⟨rfl, rfl, ?_⟩
      by_cases ec : c = d ∧ k = a
      · rw [if_pos ec]; exact ⟨fun _ => .inl ec, fun _ => stampP h2.inv d a⟩
      · rw [if_neg ec]; exact ⟨fun h => .inr h, fun h => h.resolve_left ec⟩
theorem Live.read (h : Live T n z) {d a : Nat} (hd : d < n) (ha : a < z) : T.read (d : Int) (a : Int) = if (T.d d).dead then (zeroB, 7) else (T.N d a, 0) := by
  have hr := h.ready hd
  unfold BankT.read
  by_cases e : (T.d d).dead = true
  · rw [if_pos e] at hr ⊢
    rw [BankT.inE_no (by rw [hr]; decide), hr, if_neg (by decide)]
  · rw [if_neg e] at hr ⊢
    rw [BankT.inE_in hr (by rw [h.sz d hd]; exact ha), if_pos rfl, Int.toNat_natCast, Int.toNat_natCast]; rfl
theorem Shape.N_len (h : Shape T n z) {d a : Nat} (hd : d < n) (ha : a < z) : (T.N d a).length = 64 ∧ ∀ x ∈ T.N d a, IsByte x :=
  (h.inv.ok.d (by rw [h.len]; exact hd)).new.at (by rw [h.sz d hd]; exact ha)
theorem Live.use (h : Live T n z) (hn : n ≠ 0) (h1 : T.clock < 1000000000) (h2 : T.writes < 1000000000) : T.Use := ⟨h.inv, by rw [h.len]; exact hn, h1, h2⟩
end
/-- k disks of z sectors -/
def addZ (z : Nat) : Nat → BankT
  | 0 => BankT.zero
  | k + 1 => (addZ z k).add z
theorem addZ_len (z k : Nat) : (addZ z k).l.length = k := by
  induction k with
  | zero => rfl
  | succ k ih => rw [addZ, BankT.add_len, ih]
theorem addZ_inv {z : Nat} (hz : z ≤ 4096) : ∀ (k : Nat), k ≤ 31 → (addZ z k).Inv
  | 0, _ => BankT.Inv.zero
  | k + 1, h => (addZ_inv hz k (by omega)).add (by rw [addZ_len]; omega) hz
theorem addZ_d (z k d : Nat) (h : d < k) : (addZ z k).d d = Med.fresh z := by
  induction k with
  | zero => omega
  | succ k ih =>
    rw [addZ]
    by_cases e : d = k
    · have := BankT.add_new (addZ z k) z
      rw [addZ_len] at this
      rw [e, this]
    · rw [BankT.add_old _ _ (by rw [addZ_len]; omega)]; exact ih (by omega)
theorem addZ_rest (z k : Nat) : (addZ z k).down = false ∧ (addZ z k).armed = 0 ∧ (addZ z k).clock = 0 ∧ (addZ z k).writes = 0 := by
  induction k with
  | zero => exact ⟨rfl, rfl, rfl, rfl⟩
  | succ k ih => exact ih
theorem addZ_still {z k : Nat} (hz : z ≤ 4096) (h : k ≤ 31) : Still (addZ z k) k z :=
  ⟨⟨addZ_inv hz k h, addZ_len z k, fun d hd => by rw [addZ_d z k d hd]; simp [Med.fresh]⟩, (addZ_rest z k).1, (addZ_rest z k).2.1, fun d hd => by rw [addZ_d z k d hd]; rfl, fun d hd => by rw [addZ_d z k d hd]; rfl⟩
theorem addZ_at {z k d a : Nat} (h : d < k) (ha : a < z) : (addZ z k).F d a = zeroB ∧ (addZ z k).N d a = zeroB ∧ (addZ z k).S d a = 0 := by
  unfold BankT.F BankT.N BankT.S
  rw [addZ_d z k d h, Med.fresh]
  simp only [List.getD_eq_getElem?_getD, List.getElem?_replicate, ha, if_true, Option.getD_some]
  exact ⟨trivial, trivial, trivial⟩
end Go.Proofs.YtglplhmclfekfaaGreat
