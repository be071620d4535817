/- PaM: several texts in one: Liv Bnk Qui Mlg Ckp. -/
import Derived.Test.YtpeclkhppgabfaaDoorPaH
import Derived.Test.YtpeclkhppgabfaaDoorPaI
/- A disk.Bank in plain Lean: writes where disks may fail; so many new disks. -/
namespace Go.Proofs.YtpeclkhppgabfaaDoor
open Go.RowKit
set_option linter.unusedVariables false
set_option linter.unusedSimpArgs false

/-- a write is counted for one disk -/
def Med.tick (m : Med) : Med := if 0 < m.fail then (if m.fail = 1 then m.less.kill.settleTo false m.sin.length else m.less) else m
theorem BankT.tick1_d {T : BankT} {k : Nat} (hk : k < T.l.length) (c : Nat) : (T.tick1 k).d c = if c = k then (T.d k).tick else T.d c := by
  unfold BankT.tick1 Med.tick
  split
  · split
    · unfold BankT.fell
      rw [BankT.d_up _ (by rw [BankT.up_len]; exact hk), BankT.up_self _ hk, BankT.d_up _ hk]
      by_cases e : c = k
      · rw [if_pos e, if_pos e]; rfl
      · simp [e]
    · rw [BankT.d_up _ hk]
  · by_cases e : c = k
    · rw [if_pos e, e]
    · rw [if_neg e]
theorem BankT.tickTo_d {T : BankT} (ok : T.Ok) : ∀ {j : Nat}, j ≤ T.l.length → ∀ c, (T.tickTo j).d c = if c < j then (T.d c).tick else T.d c
  | 0, _, c => by rw [if_neg (by omega)]; rfl
  | j + 1, hj, c => by
    rw [BankT.tickTo, BankT.tick1_d (by rw [(BankT.tickTo_calmer ok (j := j) (by omega)).1.len]; omega), BankT.tickTo_d ok (by omega), BankT.tickTo_d ok (by omega)]
    by_cases e : c = j
    · subst e; rw [if_pos rfl, if_neg (by omega), if_pos (by omega)]
    · rw [if_neg e]
      by_cases h : c < j
      · rw [if_pos h, if_pos (by omega)]
      · rw [if_neg h, if_neg (by omega)]
theorem Med.tick_alive {m : Med} (h : m.tick.dead = false) : m.dead = false ∧ m.tick.flu = m.flu ∧ m.tick.new = m.new ∧ m.tick.sin = m.sin ∧ m.fail ≠ 1 := by
  unfold Med.tick at h ⊢
  by_cases h0 : 0 < m.fail
  · rw [if_pos h0] at h ⊢
    by_cases h1 : m.fail = 1
    · rw [if_pos h1, Med.settleTo_dead] at h; cases h
    · rw [if_neg h1] at h ⊢; exact ⟨h, rfl, rfl, rfl, h1⟩
  · rw [if_neg h0] at h ⊢; exact ⟨h, rfl, rfl, rfl, by omega⟩
theorem Med.tick_dead (m : Med) : m.tick.dead = (m.dead || decide (m.fail = 1)) := by
  unfold Med.tick
  by_cases h0 : 0 < m.fail
  · rw [if_pos h0]
    by_cases h1 : m.fail = 1
    · rw [if_pos h1, Med.settleTo_dead]; simp [h1, Med.kill]
    · rw [if_neg h1]; simp [h1, Med.less]
  · rw [if_neg h0]; simp; omega
theorem Med.tick_fail (m : Med) (h : 0 ≤ m.fail) : m.tick.fail = if 0 < m.fail then m.fail - 1 else 0 := by
  unfold Med.tick
  by_cases h0 : 0 < m.fail
  · rw [if_pos h0, if_pos h0]
    by_cases h1 : m.fail = 1
    · rw [if_pos h1, Med.settleTo_fail]; rfl
    · rw [if_neg h1]; rfl
  · rw [if_neg h0, if_neg h0]; omega
/-- n disks of z sectors, up, nothing armed; disks may be dead, or fail at a write to come -/
structure Live (T : BankT) (n z : Nat) : Prop extends Shape T n z where
  up : T.down = false
  arm : T.armed = 0
theorem Still.live {T : BankT} {n z : Nat} (h : Still T n z) : Live T n z := ⟨h.toShape, h.up, h.arm⟩
section
variable {T : BankT} {n z : Nat}
theorem Live.tick (h : Live T n z) : ∃ T2, T.tick = (T2, true) ∧ Live T2 n z ∧ T2.writes = T.writes + 1 ∧ T2.clock = T.clock ∧ ∀ c, c < n → T2.d c = (T.d c).tick := by
  obtain ⟨k1, k2, k3, k4, k5, k6⟩ := BankT.tickTo_calmer h.inv.ok (Nat.le_refl T.l.length)
  refine ⟨T.tickTo T.l.length, ?_, ⟨⟨k1.inv h.inv k2 (by rw [k3]; have := h.inv.wr; omega) (by rw [k4]; exact h.inv.ar) (by rw [k5]; exact h.inv.msk), k1.len.trans h.len, fun d hd => (k1.lens d).trans (h.sz d hd)⟩, k6.trans h.up, k4.trans h.arm⟩, k3, k1.clk, fun c hc => ?_⟩
  · unfold BankT.tick
    rw [if_neg (by rw [h.up]; decide), if_neg (by rw [k4, h.arm]; decide)]
  · rw [BankT.tickTo_d h.inv.ok (Nat.le_refl _), if_pos (by rw [h.len]; exact hc)]
theorem Live.ready (h : Live T n z) {d : Nat} (hd : d < n) : T.readyE (d : Int) = if (T.d d).dead then 7 else 0 := by
  unfold BankT.readyE
  rw [if_neg (by rw [h.len]; omega), Int.toNat_natCast, h.up]
  cases (T.d d).dead <;> rfl
theorem stampP {T : BankT} (h : T.Inv) (d a : Nat) : 0 < T.stamp d a := by
  have h0 := BankT.S_nonneg h d a
  have hc := h.clk
  unfold BankT.stamp
  unfold BankT.S at h0
  split
  · omega
  · omega
theorem Live.write (h : Live T n z) {d a : Nat} (hd : d < n) (ha : a < z) {s : List Int} (hs : s.length = 64 ∧ ∀ x ∈ s, IsByte x) :
    ∃ T', T.write (d : Int) (a : Int) s = (T', if (T.d d).tick.dead then 7 else 0) ∧ Live T' n z ∧ T'.clock ≤ T.clock + 1 ∧ T'.writes = T.writes + 1 ∧
      ∀ c, c < n → (T'.d c).dead = (T.d c).tick.dead ∧ (T'.d c).fail = (T.d c).tick.fail ∧ ((T.d c).tick.dead = false → ∀ k, k < z →
        T'.F c k = T.F c k ∧ T'.N c k = (if c = d ∧ k = a then s else T.N c k) ∧ (0 < T'.S c k ↔ (c = d ∧ k = a) ∨ 0 < T.S c k)) := by
  obtain ⟨T2, ht, h2, hw2, hc2, hd2⟩ := h.tick
  have hr := h2.ready hd
  rw [hd2 d hd] at hr
  by_cases e : (T.d d).tick.dead = true
  · rw [if_pos e] at hr
    refine ⟨T2, ?_, h2, by omega, hw2, fun c hc => ⟨by rw [hd2 c hc], by rw [hd2 c hc], fun hal k hk => ?_⟩⟩
    · unfold BankT.write
      rw [ht]
      simp only [Bool.true_eq_false, if_false]
      rw [BankT.inE_no (by rw [hr]; decide), hr, if_neg (by decide), if_pos e]
    · obtain ⟨_, a1, a2, a3, _⟩ := Med.tick_alive hal
      have hne : c ≠ d := fun e' => by rw [e', e] at hal; cases hal
      unfold BankT.F BankT.N BankT.S
      rw [hd2 c hc, a1, a2, a3]
      simp [hne]
  · have e' : (T.d d).tick.dead = false := by simpa using e
    rw [if_neg e] at hr
    have hda : d < T2.l.length := by rw [h2.len]; exact hd
    have haa : a < (T2.d d).sin.length := by rw [h2.sz d hd]; exact ha
    obtain ⟨r1, r2, r3, r4, r5⟩ := T2.put_rest d a s
    obtain ⟨m1, m2, m3⟩ := Med.put_rest (T2.d d) a s (T2.stamp d a)
    have hdf : ∀ c, ((T2.put d a s).d c).dead = (T2.d c).dead ∧ ((T2.put d a s).d c).fail = (T2.d c).fail ∧ ((T2.put d a s).d c).sin.length = (T2.d c).sin.length := fun c => by
      rw [BankT.put_d hda]
      split
      · rename_i e'; rw [m1, m2, m3, e']; exact ⟨rfl, rfl, rfl⟩
      · exact ⟨rfl, rfl, rfl⟩
    refine ⟨T2.put d a s, ?_, ⟨⟨h2.inv.put hda haa hs, r1.trans h2.len, fun c hc => (hdf c).2.2.trans (h2.sz c hc)⟩, r2.trans h2.up, r4.trans h2.arm⟩, ?_, r3.trans hw2, fun c hc => ⟨by rw [(hdf c).1, hd2 c hc], by rw [(hdf c).2.1, hd2 c hc], fun hal k hk => ?_⟩⟩
    · unfold BankT.write
      rw [ht]
      have hin : T2.inE (d : Int) (a : Int) = 0 := BankT.inE_in hr haa
      simp only [Bool.true_eq_false, if_false, hin, if_true, Int.toNat_natCast, e', Bool.false_eq_true]
    · rw [BankT.put_clock, hc2]
      split <;> omega
    · obtain ⟨_, a1, a2, a3, _⟩ := Med.tick_alive hal
      obtain ⟨b1, b2, b3⟩ := BankT.put_at h2.inv.ok hda haa s c k
      have f1 : T2.F c k = T.F c k := by unfold BankT.F; rw [hd2 c hc, a1]
      have f2 : T2.N c k = T.N c k := by unfold BankT.N; rw [hd2 c hc, a2]
      have f3 : T2.S c k = T.S c k := by unfold BankT.S; rw [hd2 c hc, a3]
      rw [b1, b2, b3, f1, f2, f3]
      refine ⟨rfl, rfl, ?_⟩
      by_cases ec : c = d ∧ k = a
      · rw [if_pos ec]; exact ⟨fun _ => .inl ec, fun _ => stampP h2.inv d a⟩
      · rw [if_neg ec]; exact ⟨fun h => .inr h, fun h => h.resolve_left ec⟩
theorem Live.read (h : Live T n z) {d a : Nat} (hd : d < n) (ha : a < z) : T.read (d : Int) (a : Int) = if (T.d d).dead then (zeroB, 7) else (T.N d a, 0) := by
  have hr := h.ready hd
  unfold BankT.read
  by_cases e : (T.d d).dead = true
  · rw [if_pos e] at hr ⊢
    rw [BankT.inE_no (by rw [hr]; decide), hr, if_neg (by decide)]
  · rw [if_neg e] at hr ⊢
    rw [BankT.inE_in hr (by rw [h.sz d hd]; exact ha), if_pos rfl, Int.toNat_natCast, Int.toNat_natCast]; rfl
theorem Shape.N_len (h : Shape T n z) {d a : Nat} (hd : d < n) (ha : a < z) : (T.N d a).length = 64 ∧ ∀ x ∈ T.N d a, IsByte x :=
  (h.inv.ok.d (by rw [h.len]; exact hd)).new.at (by rw [h.sz d hd]; exact ha)
theorem Live.use (h : Live T n z) (hn : n ≠ 0) (h1 : T.clock < 1000000000) (h2 : T.writes < 1000000000) : T.Use := ⟨h.inv, by rw [h.len]; exact hn, h1, h2⟩
end
/-- k disks of z sectors -/
def addZ (z : Nat) : Nat → BankT
  | 0 => BankT.zero
  | k + 1 => (addZ z k).add z
theorem addZ_len (z k : Nat) : (addZ z k).l.length = k := by
  induction k with
  | zero => rfl
  | succ k ih => rw [addZ, BankT.add_len, ih]
theorem addZ_inv {z : Nat} (hz : z ≤ 4096) : ∀ (k : Nat), k ≤ 31 → (addZ z k).Inv
  | 0, _ => BankT.Inv.zero
  | k + 1, h => (addZ_inv hz k (by omega)).add (by rw [addZ_len]; omega) hz
theorem addZ_d (z k d : Nat) (h : d < k) : (addZ z k).d d = Med.fresh z := by
  induction k with
  | zero => omega
  | succ k ih =>
    rw [addZ]
    by_cases e : d = k
    · have := BankT.add_new (addZ z k) z
      rw [addZ_len] at this
      rw [e, this]
    · rw [BankT.add_old _ _ (by rw [addZ_len]; omega)]; exact ih (by omega)
theorem addZ_rest (z k : Nat) : (addZ z k).down = false ∧ (addZ z k).armed = 0 ∧ (addZ z k).clock = 0 ∧ (addZ z k).writes = 0 := by
  induction k with
  | zero => exact ⟨rfl, rfl, rfl, rfl⟩
  | succ k ih => exact ih
theorem addZ_still {z k : Nat} (hz : z ≤ 4096) (h : k ≤ 31) : Still (addZ z k) k z :=
  ⟨⟨addZ_inv hz k h, addZ_len z k, fun d hd => by rw [addZ_d z k d hd]; simp [Med.fresh]⟩, (addZ_rest z k).1, (addZ_rest z k).2.1, fun d hd => by rw [addZ_d z k d hd]; rfl, fun d hd => by rw [addZ_d z k d hd]; rfl⟩
theorem addZ_at {z k d a : Nat} (h : d < k) (ha : a < z) : (addZ z k).F d a = zeroB ∧ (addZ z k).N d a = zeroB ∧ (addZ z k).S d a = 0 := by
  unfold BankT.F BankT.N BankT.S
  rw [addZ_d z k d h, Med.fresh]
  simp only [List.getD_eq_getElem?_getD, List.getElem?_replicate, ha, if_true, Option.getD_some]
  exact ⟨trivial, trivial, trivial⟩
end Go.Proofs.YtpeclkhppgabfaaDoor
/- The laws' banks (of check and of metalog): so many disks of two hundred sectors. -/
namespace Go.Proofs.YtpeclkhppgabfaaDoor
open Go.RowKit
set_option linter.unusedVariables false
set_option linter.unusedSimpArgs false

set_option maxHeartbeats 2000000
set_option maxRecDepth 100000
theorem bank10 (n : Nat) (hn : n ≤ 31) (w0 W : World) (R : Nat → Prop) (hk : Kept w0 W) (hR : ∀ k, R k → k < W.heap.size) : Calls Tryd.prog 14 #[.int .i64 (n : Int)] W fun e w' => ∃ q, e = .returned (.pointer (some ⟨q, 0, none⟩)) ∧ BK w0 R w' q (addZ 200 n) ∧ SameR R W w' := by
  have HN := Lib.hid (bk_New w0 W R hk hR)
  have HR := Lib.hid hR
  clear hk hR
  go_enter Tryd.func14, Tryd.ntmps14
  go_wp2_with fail
  refine Calls.mono HN.out ?_
  rintro e w1 ⟨q, rfl, hb, hk1⟩
  have HB := Lib.hid hb
  have HS : Hid (SameR R W w1) := Lib.hid (fun k hk => hk1.block_eq (HR.out k hk))
  clear hb hk1
  go_wp2
  go_loopw [4] (fun i wr => ∃ k : Nat, k ≤ n ∧ i = .int .i64 k ∧ Hid (BK w0 R wr q (addZ 200 k)) ∧ Hid (SameR R W wr)) (fun i _ => n - (intOf i).toNat)
  case atStart => exact ⟨0, by omega, rfl, HB, HS⟩
  case round =>
    obtain ⟨k, hk, rfl, HB, HS⟩ := hrel
    by_cases hlt : k < n
    · have HA := bk_Add HB.out (by rw [addZ_len]; omega) 200 (by decide) (by decide)
      rw [addZ_len] at HA
      have HAD := Lib.hid HA; clear HA
      go_wp2_with fail
      refine Calls.mono HAD.out ?_
      rintro e w2 ⟨rfl, h1, h2⟩
      have HB2 : Hid (BK w0 R w2 q (addZ 200 (k + 1))) := Lib.hid h1
      have HS2 := Lib.hid (HS.out.trans h2); clear h1 h2
      go_wp2
      go_roundw
      case rel => exact ⟨k + 1, hlt, by go_num, HB2, HS2⟩
      case measure => simp [intOf]; omega
    · have hk3 : k = n := by omega
      subst hk3
      go_wp2
      go_ret
      exact ⟨q, rfl, HB.out, HS.out⟩
theorem bank09 (n : Nat) (hn : n ≤ 31) (w0 W : World) (R : Nat → Prop) (hk : Kept w0 W) (hR : ∀ k, R k → k < W.heap.size) : Calls Tryd.prog 24 #[.int .i64 (n : Int)] W fun e w' => ∃ q, e = .returned (.pointer (some ⟨q, 0, none⟩)) ∧ BK w0 R w' q (addZ 200 n) ∧ SameR R W w' := by
  have HN := Lib.hid (bk_New w0 W R hk hR)
  have HR := Lib.hid hR
  clear hk hR
  go_enter Tryd.func24, Tryd.ntmps24
  go_wp2_with fail
  refine Calls.mono HN.out ?_
  rintro e w1 ⟨q, rfl, hb, hk1⟩
  have HB := Lib.hid hb
  have HS : Hid (SameR R W w1) := Lib.hid (fun k hk => hk1.block_eq (HR.out k hk))
  clear hb hk1
  go_wp2
  go_loopw [4] (fun i wr => ∃ k : Nat, k ≤ n ∧ i = .int .i64 k ∧ Hid (BK w0 R wr q (addZ 200 k)) ∧ Hid (SameR R W wr)) (fun i _ => n - (intOf i).toNat)
  case atStart => exact ⟨0, by omega, rfl, HB, HS⟩
  case round =>
    obtain ⟨k, hk, rfl, HB, HS⟩ := hrel
    by_cases hlt : k < n
    · have HA := bk_Add HB.out (by rw [addZ_len]; omega) 200 (by decide) (by decide)
      rw [addZ_len] at HA
      have HAD := Lib.hid HA; clear HA
      go_wp2_with fail
      refine Calls.mono HAD.out ?_
      rintro e w2 ⟨rfl, h1, h2⟩
      have HB2 : Hid (BK w0 R w2 q (addZ 200 (k + 1))) := Lib.hid h1
      have HS2 := Lib.hid (HS.out.trans h2); clear h1 h2
      go_wp2
      go_roundw
      case rel => exact ⟨k + 1, hlt, by go_num, HB2, HS2⟩
      case measure => simp [intOf]; omega
    · have hk3 : k = n := by omega
      subst hk3
      go_wp2
      go_ret
      exact ⟨q, rfl, HB.out, HS.out⟩
end Go.Proofs.YtpeclkhppgabfaaDoor
/- A bank where no disk is about to fail, and no power: what is laid on it, in plain Lean. -/
namespace Go.Proofs.YtpeclkhppgabfaaDoor
open Go.RowKit
set_option linter.unusedVariables false
set_option linter.unusedSimpArgs false

/-- so many disks; which are dead; what the others have; at most so many writes -/
structure Quiet (T : BankT) (n z : Nat) (dd : Nat → Bool) (N : Nat → Nat → List Int) (t : Nat) : Prop where
  live : Live T n z
  dead : ∀ c, c < n → (T.d c).dead = dd c
  fail : ∀ c, c < n → (T.d c).fail = 0
  new : ∀ c, c < n → dd c = false → ∀ k, k < z → T.N c k = N c k
  clk : T.clock ≤ t
  wri : T.writes ≤ t
def upN (N : Nat → Nat → List Int) (d a : Nat) (s : List Int) : Nat → Nat → List Int := fun c k => if c = d ∧ k = a then s else N c k
/-- sectors from p on, on disk d -/
def layN (N : Nat → Nat → List Int) (d p : Nat) (P : List (List Int)) : Nat → Nat → List Int := fun c k => if c = d ∧ p ≤ k ∧ k < p + P.length then P.getD (k - p) [] else N c k
section
variable {T : BankT} {n z t : Nat} {dd : Nat → Bool} {N : Nat → Nat → List Int}
theorem Quiet.start {n z : Nat} (hz : z ≤ 4096) (hn : n ≤ 31) : Quiet (addZ z n) n z (fun _ => false) (fun _ _ => zeroB) 0 :=
  ⟨(addZ_still hz hn).live, (addZ_still hz hn).dead, (addZ_still hz hn).fail, fun c hc _ k hk => (addZ_at hc hk).2.1, by rw [(addZ_rest z n).2.2.1]; decide, by rw [(addZ_rest z n).2.2.2]; decide⟩
theorem Quiet.mono (h : Quiet T n z dd N t) {t' : Nat} (ht : t ≤ t') : Quiet T n z dd N t' := ⟨h.live, h.dead, h.fail, h.new, by have := h.clk; omega, by have := h.wri; omega⟩
theorem Quiet.congr (h : Quiet T n z dd N t) {N' : Nat → Nat → List Int} (hN : ∀ c, c < n → dd c = false → ∀ k, k < z → N c k = N' c k) : Quiet T n z dd N' t := ⟨h.live, h.dead, h.fail, fun c hc hd k hk => (h.new c hc hd k hk).trans (hN c hc hd k hk), h.clk, h.wri⟩
theorem Quiet.useN (h : Quiet T n z dd N t) (hn : n ≠ 0) (k : Nat) (hk : t + k < 1000000000) : T.UseN k := ⟨h.live.inv, by rw [h.live.len]; exact hn, by have := h.clk; omega, by have := h.wri; omega⟩
theorem Quiet.use (h : Quiet T n z dd N t) (hn : n ≠ 0) (hk : t < 1000000000) : T.Use := (h.useN hn 0 (by omega)).use
theorem Quiet.write (h : Quiet T n z dd N t) {d a : Nat} (hd : d < n) (ha : a < z) {s : List Int} (hs : SecB s) :
    ∃ T', T.write (d : Int) (a : Int) s = (T', if dd d = true then 7 else 0) ∧ Quiet T' n z dd (if dd d = true then N else upN N d a s) (t + 1) := by
  obtain ⟨T', e, hl, hc, hw, hr⟩ := h.live.write hd ha hs
  have htk : ∀ c, c < n → (T.d c).tick.dead = dd c := fun c hcn => by
    rw [Med.tick_dead, h.dead c hcn, h.fail c hcn]; simp
  refine ⟨T', by rw [e, htk d hd], hl, fun c hcn => by rw [(hr c hcn).1, htk c hcn], fun c hcn => by rw [(hr c hcn).2.1, Med.tick_fail _ (by rw [h.fail c hcn]; decide), h.fail c hcn]; rfl, fun c hcn hdc k hk => ?_, by have := h.clk; omega, by have := h.wri; omega⟩
  rw [((hr c hcn).2.2 (by rw [htk c hcn]; exact hdc) k hk).2.1, h.new c hcn hdc k hk]
  by_cases hdd : dd d = true
  · rw [if_pos hdd, if_neg]
    rintro ⟨rfl, _⟩
    rw [hdd] at hdc; cases hdc
  · rw [if_neg hdd]; rfl
theorem Quiet.read (h : Quiet T n z dd N t) {d a : Nat} (hd : d < n) (ha : a < z) : T.read (d : Int) (a : Int) = if dd d = true then (zeroB, 7) else (N d a, 0) := by
  rw [h.live.read hd ha, h.dead d hd]
  by_cases hdd : dd d = true
  · rw [if_pos hdd, if_pos hdd]
  · rw [if_neg hdd, if_neg hdd, h.new d hd (by simpa using hdd) a ha]
theorem Quiet.flush (h : Quiet T n z dd N t) {d : Nat} (hd : d < n) : ∃ T', T.flushC (d : Int) = (T', if dd d = true then 7 else 0) ∧ Quiet T' n z dd N t := by
  have hr := h.live.ready hd
  rw [h.dead d hd] at hr
  unfold BankT.flushC
  by_cases hdd : dd d = true
  · rw [if_pos hdd] at hr ⊢
    rw [if_neg (by rw [hr]; decide), hr]
    exact ⟨T, rfl, h⟩
  · rw [if_neg hdd] at hr ⊢
    rw [if_pos hr, Int.toNat_natCast]
    have hdl : d < T.l.length := by rw [h.live.len]; exact hd
    have hd' : ∀ c, (T.flush d).d c = if c = d then (T.d d).settleTo true (T.d d).sin.length else T.d c := fun c => BankT.d_up _ hdl c
    have hfr := BankT.flush_rest T d
    refine ⟨_, rfl, ⟨⟨h.live.inv.flush hdl, by rw [hfr.1]; exact h.live.len, fun c hc => ?_⟩, by rw [hfr.2.1]; exact h.live.up, by rw [hfr.2.2.2.1]; exact h.live.arm⟩, fun c hc => ?_, fun c hc => ?_, fun c hc hdc k hk => ?_, by rw [hfr.2.2.2.2]; exact h.clk, by rw [hfr.2.2.1]; exact h.wri⟩
    · rw [hd' c]; split
      · rw [Med.settleTo_len]; rename_i e; exact e ▸ h.live.sz d hd
      · exact h.live.sz c hc
    · rw [hd' c]; split
      · rename_i e; rw [Med.settleTo_dead, e]; exact h.dead d hd
      · exact h.dead c hc
    · rw [hd' c]; split
      · rename_i e; rw [Med.settleTo_fail]; exact h.fail d hd
      · exact h.fail c hc
    · rw [(BankT.flush_at h.live.inv.ok hdl c (by rw [h.live.sz d hd]; exact hk)).2.1]
      exact h.new c hc hdc k hk
theorem Quiet.fails (h : Quiet T n z dd N t) (d : Nat) : ∃ T' e, T.failC (d : Int) = (T', e) ∧ Quiet T' n z (fun c => dd c || decide (c = d)) N t := by
  unfold BankT.failC
  by_cases hd : d < n
  · rw [if_neg (by rw [h.live.len]; omega), Int.toNat_natCast]
    have hdl : d < T.l.length := by rw [h.live.len]; exact hd
    have hd' : ∀ c, (T.fell d).d c = if c = d then (T.d d).kill.settleTo false (T.d d).sin.length else T.d c := fun c => BankT.d_up _ hdl c
    refine ⟨_, _, rfl, ⟨⟨h.live.inv.fell hdl, by show (T.up d _).l.length = n; rw [BankT.up_len]; exact h.live.len, fun c hc => ?_⟩, h.live.up, h.live.arm⟩, fun c hc => ?_, fun c hc => ?_, fun c hc hdc k hk => ?_, h.clk, h.wri⟩
    · rw [hd' c]; split
      · rename_i e; rw [Med.settleTo_len]; exact e ▸ h.live.sz d hd
      · exact h.live.sz c hc
    · rw [hd' c]; split
      · rename_i e; rw [Med.settleTo_dead]; simp [e, Med.kill]
      · rename_i e; rw [h.dead c hc]; simp [e]
    · rw [hd' c]; split
      · rename_i e; rw [Med.settleTo_fail]; exact h.fail d hd
      · exact h.fail c hc
    · have hcd : c ≠ d := fun e => by subst e; simp at hdc
      have hdc' : dd c = false := by simpa [hcd] using hdc
      unfold BankT.N
      rw [hd' c, if_neg hcd]
      exact h.new c hc hdc' k hk
  · rw [if_pos (.inr (by rw [h.live.len]; omega))]
    exact ⟨_, _, rfl, h.live, fun c hc => by rw [h.dead c hc]; simp; omega, h.fail, fun c hc hdc k hk => h.new c hc (by simp at hdc; exact hdc.1) k hk, h.clk, h.wri⟩
theorem Quiet.layL {d : Nat} (hd : d < n) (hdd : dd d = false) : ∀ (P : List (List Int)) {T : BankT} {N : Nat → Nat → List Int} {t p : Nat}, Quiet T n z dd N t → (∀ s ∈ P, SecB s) → p + P.length ≤ z →
    ∃ T', BankT.layL (d : Int) (p : Int) P T = (T', 0) ∧ Quiet T' n z dd (layN N d p P) (t + P.length)
  | [], T, N, t, p, h, _, _ => by
    obtain ⟨T', e, h'⟩ := h.flush hd
    rw [hdd] at e
    refine ⟨T', by unfold BankT.layL; exact e, h'.congr fun c hc _ k hk => ?_⟩
    unfold layN; rw [if_neg (by simp only [List.length_nil]; omega)]
  | s :: P, T, N, t, p, h, hs, hp => by
    rw [List.length_cons] at hp
    obtain ⟨T1, e1, h1⟩ := h.write hd (show p < z by omega) (hs s (by simp))
    rw [hdd] at e1 h1
    simp only [Bool.false_eq_true, if_false] at e1 h1
    obtain ⟨T', e, h'⟩ := Quiet.layL hd hdd P (p := p + 1) h1 (fun x hx => hs x (by simp [hx])) (by omega)
    refine ⟨T', ?_, (h'.mono (by rw [List.length_cons]; omega)).congr fun c hc _ k hk => ?_⟩
    · unfold BankT.layL
      rw [e1]
      simp only []
      rw [if_pos trivial, show (p : Int) + 1 = ((p + 1 : Nat) : Int) by omega]
      exact e
    · unfold layN upN
      rw [List.length_cons]
      by_cases a : c = d
      · by_cases b : k = p
        · rw [if_neg (by omega), if_pos ⟨a, b⟩, if_pos ⟨a, by omega, by omega⟩, b, Nat.sub_self]; rfl
        · by_cases cc : p + 1 ≤ k ∧ k < p + 1 + P.length
          · rw [if_pos ⟨a, cc⟩, if_pos ⟨a, by omega, by omega⟩, show k - p = (k - (p + 1)) + 1 by omega]; rfl
          · rw [if_neg (fun h => cc h.2), if_neg (fun h => b h.2), if_neg (fun h => by omega)]
      · rw [if_neg (fun h => a h.1), if_neg (fun h => a h.1), if_neg (fun h => a h.1)]
theorem Quiet.layD {d : Nat} (hd : d < n) (hdd : dd d = true) {P : List (List Int)} (h : Quiet T n z dd N t) (hs : ∀ s ∈ P, SecB s) {p : Nat} (hp : p < z) :
    ∃ T', BankT.layL (d : Int) (p : Int) P T = (T', 7) ∧ Quiet T' n z dd N (t + 1) := by
  cases P with
  | nil =>
    obtain ⟨T', e, h'⟩ := h.flush hd
    rw [hdd] at e
    exact ⟨T', by unfold BankT.layL; exact e, h'.mono (by omega)⟩
  | cons s P =>
    obtain ⟨T1, e1, h1⟩ := h.write hd hp (hs s (by simp))
    rw [hdd] at e1 h1
    refine ⟨T1, ?_, h1⟩
    unfold BankT.layL
    rw [e1]
    simp only [if_true]
    rw [if_neg (by decide)]
end
/-- .. on all of some disks -/
def layAll (N : Nat → Nat → List Int) (p : Nat) (P : List (List Int)) : List Nat → Nat → Nat → List Int
  | [] => N
  | d :: L => layAll (layN N d p P) p P L
theorem layAll_at (p : Nat) (P : List (List Int)) : ∀ (L : List Nat) (N : Nat → Nat → List Int) (c k : Nat), layAll N p P L c k = if c ∈ L ∧ p ≤ k ∧ k < p + P.length then P.getD (k - p) [] else N c k
  | [], N, c, k => by unfold layAll; rw [if_neg (by simp)]
  | d :: L, N, c, k => by
    unfold layAll
    rw [layAll_at p P L]
    unfold layN
    by_cases hk : p ≤ k ∧ k < p + P.length
    · by_cases h1 : c ∈ L
      · rw [if_pos ⟨h1, hk⟩, if_pos ⟨by simp [h1], hk⟩]
      · rw [if_neg (fun h => h1 h.1)]
        by_cases h2 : c = d
        · rw [if_pos ⟨h2, hk⟩, if_pos ⟨by simp [h2], hk⟩]
        · rw [if_neg (fun h => h2 h.1), if_neg (fun h => by rcases List.mem_cons.1 h.1 with h | h; exact h2 h; exact h1 h)]
    · rw [if_neg (fun h => hk h.2), if_neg (fun h => hk h.2), if_neg (fun h => hk h.2)]
theorem Quiet.layM {n z : Nat} {dd : Nat → Bool} {p : Nat} {P : List (List Int)} (hP : ∀ s ∈ P, SecB s) (hp : p + P.length ≤ z) (hp1 : p < z) : ∀ (L : List Nat) (m : Nat) {T : BankT} {N : Nat → Nat → List Int} {t : Nat}, (∀ d ∈ L, d < n) → Quiet T n z dd N t →
    ∃ T', BankT.layM (p : Int) P (L.map fun (d : Nat) => (d : Int)) m T = (T', if m = 0 ∧ (∀ d ∈ L, dd d = true) then 5 else 0) ∧ Quiet T' n z dd (layAll N p P L) (t + L.length * (P.length + 1))
  | [], m, T, N, t, _, h => ⟨T, by simp [BankT.layM], h.mono (by omega)⟩
  | d :: L, m, T, N, t, hd, h => by
    have hdn := hd d (by simp)
    rw [List.map_cons]
    unfold BankT.layM
    by_cases hdd : dd d = true
    · obtain ⟨T1, e1, h1⟩ := h.layD hdn hdd hP hp1
      rw [e1]
      simp only []
      rw [if_neg (by decide), if_pos (by decide)]
      obtain ⟨T', e, h'⟩ := Quiet.layM hP hp hp1 L m (fun x hx => hd x (by simp [hx])) h1
      refine ⟨T', ?_, (h'.mono (by rw [List.length_cons, Nat.succ_mul]; omega)).congr fun c hc hdc k hk => ?_⟩
      · rw [e]; simp [hdd]
      · rw [layAll_at, layAll_at]
        have hne : c ≠ d := fun e => by rw [e, hdd] at hdc; cases hdc
        simp [hne]
    · have hdf : dd d = false := by simpa using hdd
      obtain ⟨T1, e1, h1⟩ := Quiet.layL hdn hdf P h hP hp
      rw [e1]
      simp only []
      rw [if_pos trivial]
      obtain ⟨T', e, h'⟩ := Quiet.layM hP hp hp1 L (m + 1) (fun x hx => hd x (by simp [hx])) h1
      refine ⟨T', ?_, h'.mono (by rw [List.length_cons, Nat.succ_mul]; omega)⟩
      rw [e]; simp [hdf]
end Go.Proofs.YtpeclkhppgabfaaDoor
/- A journal in plain Lean: what Scan tells of what lies in it. -/
namespace Go.Proofs.YtpeclkhppgabfaaDoor
set_option linter.unusedVariables false
set_option linter.unusedSimpArgs false

/-- what the members that answer have at a place -/
def sees (rd : Rd) (L : List Int) (p : Int) : List (List Int) := (L.filter fun d => (rd d p).2 == 0).map fun d => (rd d p).1
/-- each member answers or is passed over -/
def CalmR (rd : Rd) (L : List Int) (p : Int) : Prop := ∀ d ∈ L, (rd d p).2 = 0 ∨ passE (rd d p).2 = true
theorem sees_mem {rd : Rd} {L : List Int} {p : Int} {s : List Int} : s ∈ sees rd L p ↔ ∃ d ∈ L, rd d p = (s, 0) := by
  unfold sees
  simp only [List.mem_map, List.mem_filter, beq_iff_eq]
  constructor
  · rintro ⟨d, ⟨h1, h2⟩, rfl⟩; exact ⟨d, h1, by rw [← h2]⟩
  · rintro ⟨d, h1, h2⟩; exact ⟨d, ⟨h1, by rw [h2]⟩, by rw [h2]⟩
def hitB (gen : Int) (so : Tag → Bool) (s : List Int) : Bool := decide (isTag s = true ∧ (tagRaw s).gen = gen ∧ so (tagRaw s) = true)
theorem findL_sees (rd : Rd) (p gen : Int) (so : Tag → Bool) : ∀ (L : List Int) (n : Nat), CalmR rd L (2 + p) →
    (∀ s, (sees rd L (2 + p)).find? (hitB gen so) = some s → ∃ m, findL rd p gen so L n = ⟨s, m + 1, true, 0⟩) ∧
    ((sees rd L (2 + p)).find? (hitB gen so) = none → findL rd p gen so L n = ⟨zeroB, n + (sees rd L (2 + p)).length, false, 0⟩)
  | [], n, _ => ⟨fun s h => by simp [sees] at h, fun _ => by simp [findL, sees]⟩
  | d :: L, n, hc => by
    have hc' : CalmR rd L (2 + p) := fun x hx => hc x (by simp [hx])
    obtain ⟨i1, i2⟩ := findL_sees rd p gen so L n hc'
    obtain ⟨j1, j2⟩ := findL_sees rd p gen so L (n + 1) hc'
    rcases hc d (by simp) with h0 | hp
    · have hne : ¬ passE (rd d (2 + p)).2 = true := by rw [h0]; decide
      have he : sees rd (d :: L) (2 + p) = (rd d (2 + p)).1 :: sees rd L (2 + p) := by simp [sees, h0]
      rw [he]
      unfold findL
      rw [if_neg hne, if_neg (by rw [h0]; decide)]
      by_cases hh : isTag (rd d (2 + p)).1 = true ∧ (tagRaw (rd d (2 + p)).1).gen = gen ∧ so (tagRaw (rd d (2 + p)).1) = true
      · have hb : hitB gen so (rd d (2 + p)).1 = true := by unfold hitB; exact decide_eq_true hh
        rw [if_pos hh]
        refine ⟨fun s hs => ?_, fun hs => ?_⟩
        · rw [List.find?_cons_of_pos hb] at hs
          injection hs with hs
          exact ⟨n, by rw [hs]⟩
        · rw [List.find?_cons_of_pos hb] at hs; cases hs
      · have hb : ¬ hitB gen so (rd d (2 + p)).1 = true := by unfold hitB; simpa using hh
        rw [if_neg hh]
        refine ⟨fun s hs => ?_, fun hs => ?_⟩
        · rw [List.find?_cons_of_neg hb] at hs
          exact j1 s hs
        · rw [List.find?_cons_of_neg hb] at hs
          rw [j2 hs, List.length_cons]
          congr 1; omega
    · have he : sees rd (d :: L) (2 + p) = sees rd L (2 + p) := by
        have : ((rd d (2 + p)).2 == 0) = false := by
          by_cases e : (rd d (2 + p)).2 = 0
          · rw [e] at hp; exact absurd hp (by decide)
          · simpa using e
        simp [sees, this]
      rw [he]
      unfold findL
      rw [if_pos hp]
      exact ⟨i1, i2⟩
theorem find_only {α : Type} {l : List α} {f : α → Bool} {x : α} (hx : x ∈ l) (hf : f x = true) (hu : ∀ y ∈ l, f y = true → y = x) : l.find? f = some x := by
  cases h : l.find? f with
  | none => rw [List.find?_eq_none] at h; exact absurd hf (h x hx)
  | some y => rw [hu y (List.mem_of_find?_eq_some h) (List.find?_some h)]
theorem find_no {α : Type} {l : List α} {f : α → Bool} (h : ∀ y ∈ l, ¬ f y = true) : l.find? f = none := List.find?_eq_none.2 h
/-- what lies at a place of generation gen and number num, as a part i, is the one part of the record b -/
def OnlyP (rd : Rd) (L : List Int) (gen num : Int) (b : List Int) (p : Int) (i : Nat) : Prop := ∀ s ∈ sees rd L (2 + p), isTag s = true → (tagRaw s).gen = gen → (tagRaw s).num = num → (tagRaw s).part = (i : Int) → s = (splitB gen num b).getD i []
structure RecRange (gen num : Int) (b : List Int) : Prop where
  gen : 0 ≤ gen ∧ gen < 4294967296
  num : 0 ≤ num ∧ num < 4294967296
  len : b.length ≤ 2120
section
variable {rd : Rd} {L : List Int} {gen num : Int} {b : List Int} {p : Int}
theorem RecRange.tag (h : RecRange gen num b) {i : Nat} (hi : i < partsN b.length) : isTag ((splitB gen num b).getD i []) = true ∧ tagRaw ((splitB gen num b).getD i []) = ⟨gen, num, i, partsN b.length, (pieceB b i).length⟩ := by
  have h1 := splitB_tag h.gen h.num h.len hi
  unfold tagOf at h1
  split at h1
  · cases h1
  · rename_i hb
    injection h1 with h1
    exact ⟨by unfold isTag; simpa using hb, h1⟩
theorem first_find (h : RecRange gen num b) (hn : 0 < partsN b.length) (hc : CalmR rd L (2 + p)) (hu : OnlyP rd L gen num b p 0) :
    ((splitB gen num b).getD 0 [] ∈ sees rd L (2 + p) → ∃ m, findL rd p gen (soFirst num) L 0 = ⟨(splitB gen num b).getD 0 [], m + 1, true, 0⟩) ∧
    ((splitB gen num b).getD 0 [] ∉ sees rd L (2 + p) → findL rd p gen (soFirst num) L 0 = ⟨zeroB, (sees rd L (2 + p)).length, false, 0⟩) := by
  obtain ⟨f1, f2⟩ := findL_sees rd p gen (soFirst num) L 0 hc
  obtain ⟨t1, t2⟩ := h.tag hn
  have huniq : ∀ y ∈ sees rd L (2 + p), hitB gen (soFirst num) y = true → y = (splitB gen num b).getD 0 [] := fun y hy hh => by
    simp only [hitB, soFirst, decide_eq_true_eq, Bool.and_eq_true, beq_iff_eq] at hh
    exact hu y hy hh.1 hh.2.1 hh.2.2.1 hh.2.2.2
  refine ⟨fun hm => f1 _ (find_only hm ?_ huniq), fun hm => ?_⟩
  · simp only [hitB, soFirst, decide_eq_true_eq, Bool.and_eq_true, beq_iff_eq]; rw [t2]; exact ⟨t1, rfl, rfl, rfl⟩
  · rw [f2 (find_no fun y hy hh => hm (huniq y hy hh ▸ hy)), Nat.zero_add]
theorem next_find (h : RecRange gen num b) {i : Nat} (hi : i < partsN b.length) (hc : CalmR rd L (2 + p)) (hu : OnlyP rd L gen num b p i) :
    ((splitB gen num b).getD i [] ∈ sees rd L (2 + p) → ∃ m, findL rd p gen (soNext gen num (i : Int) (partsN b.length : Int)) L 0 = ⟨(splitB gen num b).getD i [], m + 1, true, 0⟩) ∧
    ((splitB gen num b).getD i [] ∉ sees rd L (2 + p) → findL rd p gen (soNext gen num (i : Int) (partsN b.length : Int)) L 0 = ⟨zeroB, (sees rd L (2 + p)).length, false, 0⟩) := by
  obtain ⟨f1, f2⟩ := findL_sees rd p gen (soNext gen num (i : Int) (partsN b.length : Int)) L 0 hc
  obtain ⟨t1, t2⟩ := h.tag hi
  have huniq : ∀ y ∈ sees rd L (2 + p), hitB gen (soNext gen num (i : Int) (partsN b.length : Int)) y = true → y = (splitB gen num b).getD i [] := fun y hy hh => by
    simp only [hitB, soNext, decide_eq_true_eq] at hh
    have h3 := hh.2.2
    exact hu y hy hh.1 hh.2.1 (by rw [h3]) (by rw [h3])
  refine ⟨fun hm => f1 _ (find_only hm ?_ huniq), fun hm => ?_⟩
  · simp only [hitB, soNext, decide_eq_true_eq]; rw [t2]; exact ⟨t1, rfl, rfl⟩
  · rw [f2 (find_no fun y hy hh => hm (huniq y hy hh ▸ hy)), Nat.zero_add]
theorem splitB_take (gen num : Int) (b : List Int) {i : Nat} (hi : i < partsN b.length) : (splitB gen num b).take (i + 1) = (splitB gen num b).take i ++ [(splitB gen num b).getD i []] := by
  rw [List.take_add_one]
  congr 1
  rw [List.getD_eq_getElem?_getD, List.getElem?_eq_getElem (by rw [splitB_len]; exact hi)]
  rfl
theorem splitB_takeLen (gen num : Int) (b : List Int) {i : Nat} (hi : i ≤ partsN b.length) : ((splitB gen num b).take i).length = i := by rw [List.length_take, splitB_len]; omega
/-- all parts are there, or up to part j, which is not -/
theorem more_all (h : RecRange gen num b) (hc : ∀ i, i < partsN b.length → CalmR rd L (2 + (p + i))) (hu : ∀ i, i < partsN b.length → OnlyP rd L gen num b (p + i) i) : ∀ (k i : Nat), i + k = partsN b.length → (∀ j, i ≤ j → j < partsN b.length → (splitB gen num b).getD j [] ∈ sees rd L (2 + (p + j))) →
    moreL rd L gen p num (partsN b.length : Int) k ((splitB gen num b).take i) = (splitB gen num b, 0)
  | 0, i, hi, _ => by
    unfold moreL
    rw [List.take_of_length_le (by rw [splitB_len]; omega)]
  | k + 1, i, hi, hf => by
    have hlt : i < partsN b.length := by omega
    obtain ⟨m, hm⟩ := (next_find h hlt (hc i hlt) (hu i hlt)).1 (hf i (Nat.le_refl _) hlt)
    unfold moreL
    simp only [splitB_takeLen gen num b (Nat.le_of_lt hlt), hm]
    rw [if_neg (by decide), ← splitB_take gen num b hlt]
    exact more_all h hc hu k (i + 1) (by omega) (fun j hj hj2 => hf j (by omega) hj2)
theorem more_gap (h : RecRange gen num b) (hc : ∀ i, i < partsN b.length → CalmR rd L (2 + (p + i))) (hu : ∀ i, i < partsN b.length → OnlyP rd L gen num b (p + i) i) {j : Nat} (hj : j < partsN b.length) (hg : (splitB gen num b).getD j [] ∉ sees rd L (2 + (p + j))) : ∀ (k i : Nat), i + k = partsN b.length → i ≤ j →
    moreL rd L gen p num (partsN b.length : Int) k ((splitB gen num b).take i) = ([], 0)
  | 0, i, hi, hij => by omega
  | k + 1, i, hi, hij => by
    have hlt : i < partsN b.length := by omega
    obtain ⟨n1, n2⟩ := next_find h hlt (hc i hlt) (hu i hlt)
    unfold moreL
    simp only [splitB_takeLen gen num b (Nat.le_of_lt hlt)]
    by_cases hm : (splitB gen num b).getD i [] ∈ sees rd L (2 + (p + i))
    · obtain ⟨m, hm'⟩ := n1 hm
      have hne : i ≠ j := fun e => hg (e ▸ hm)
      rw [hm', if_neg (by simp), ← splitB_take gen num b hlt]
      exact more_gap h hc hu hj hg k (i + 1) (by omega) (by omega)
    · rw [n2 hm, if_pos (.inr rfl)]
theorem take_one (h : RecRange gen num b) (hn : 0 < partsN b.length) : [(splitB gen num b).getD 0 []] = (splitB gen num b).take 1 := by
  have := splitB_take gen num b hn
  rw [this]; rfl
theorem rec_full (h : RecRange gen num b) (hfit : p + partsN b.length ≤ 48) (hc : ∀ i, i < partsN b.length → CalmR rd L (2 + (p + i))) (hu : ∀ i, i < partsN b.length → OnlyP rd L gen num b (p + i) i)
    (hf : ∀ i, i < partsN b.length → (splitB gen num b).getD i [] ∈ sees rd L (2 + (p + i))) : recL rd L gen p num = (splitB gen num b, 0) := by
  have hn := (partsN_pos h.len).1
  have hc0 := hc 0 (by omega); have hu0 := hu 0 (by omega); have hf0 := hf 0 (by omega)
  simp only [Int.natCast_zero, Int.add_zero] at hc0 hu0 hf0
  obtain ⟨m, hm⟩ := (first_find h (by omega) hc0 hu0).1 hf0
  obtain ⟨t1, t2⟩ := h.tag (i := 0) (by omega)
  unfold recL
  simp only [hm, t2]
  rw [if_neg (by decide), if_neg (by omega), if_neg (by decide), if_neg (by omega), take_one h (by omega)]
  exact more_all h hc hu _ 1 (by omega) (fun j h1 h2 => hf j h2)
theorem rec_gap (h : RecRange gen num b) (hfit : p + partsN b.length ≤ 48) (hc : ∀ i, i < partsN b.length → CalmR rd L (2 + (p + i))) (hu : ∀ i, i < partsN b.length → OnlyP rd L gen num b (p + i) i)
    (h0 : sees rd L (2 + p) ≠ []) {j : Nat} (hj : j < partsN b.length) (hg : (splitB gen num b).getD j [] ∉ sees rd L (2 + (p + j))) : recL rd L gen p num = ([], 0) := by
  have hn := (partsN_pos h.len).1
  have hc0 := hc 0 (by omega); have hu0 := hu 0 (by omega)
  simp only [Int.natCast_zero, Int.add_zero] at hc0 hu0
  obtain ⟨n1, n2⟩ := first_find h (by omega) hc0 hu0
  have hl : (sees rd L (2 + p)).length ≠ 0 := fun e => h0 (List.eq_nil_of_length_eq_zero e)
  unfold recL
  by_cases hm : (splitB gen num b).getD 0 [] ∈ sees rd L (2 + p)
  · obtain ⟨m, hm'⟩ := n1 hm
    obtain ⟨t1, t2⟩ := h.tag (i := 0) (by omega)
    have hj0 : j ≠ 0 := fun e => by subst e; apply hg; simpa using hm
    simp only [hm', t2]
    rw [if_neg (by decide), if_neg (by omega), if_neg (by decide), if_neg (by omega), take_one h (by omega)]
    exact more_gap h hc hu hj hg _ 1 (by omega) (by omega)
  · simp only [n2 hm]
    rw [if_neg (by decide), if_neg hl, if_pos trivial]
theorem rec_none (hc : CalmR rd L (2 + p)) (h0 : sees rd L (2 + p) ≠ []) (hu : ∀ s ∈ sees rd L (2 + p), isTag s = true → (tagRaw s).gen = gen → (tagRaw s).num = num → (tagRaw s).part ≠ 0) : recL rd L gen p num = ([], 0) := by
  obtain ⟨f1, f2⟩ := findL_sees rd p gen (soFirst num) L 0 hc
  have hl : (sees rd L (2 + p)).length ≠ 0 := fun e => h0 (List.eq_nil_of_length_eq_zero e)
  have := f2 (find_no fun y hy hh => by
    simp only [hitB, soFirst, decide_eq_true_eq, Bool.and_eq_true, beq_iff_eq] at hh
    exact hu y hy hh.1 hh.2.1 hh.2.2.1 hh.2.2.2)
  unfold recL
  simp only [this]
  rw [if_neg (by decide), if_neg (by omega), if_pos trivial]
end
/-- how many places so many records take -/
def posN : List (List Int) → Nat
  | [] => 0
  | b :: R => partsN b.length + posN R
theorem posN_append (R S : List (List Int)) : posN (R ++ S) = posN R + posN S := by
  induction R with
  | nil => simp [posN]
  | cons b R ih => simp only [List.cons_append, posN, ih]; omega
theorem posN_take {R : List (List Int)} {r : Nat} (h : r < R.length) : posN (R.take (r + 1)) = posN (R.take r) + partsN (R.getD r []).length := by
  rw [List.take_add_one, posN_append, List.getD_eq_getElem?_getD, List.getElem?_eq_getElem h]
  simp [posN]
theorem posN_le (R : List (List Int)) (r : Nat) : posN (R.take r) ≤ posN R := by
  have := posN_append (R.take r) (R.drop r)
  rw [List.take_append_drop] at this
  omega
/-- a journal: what is seen of generation gen are parts of R's records, each where it was laid -/
structure Jour (rd : Rd) (L : List Int) (gen : Int) (R : List (List Int)) : Prop where
  rng : 0 ≤ gen ∧ gen < 4294967296
  len : ∀ b ∈ R, b.length ≤ 2120
  fit : posN R ≤ 48
  calm : ∀ p : Nat, p < 48 → CalmR rd L (2 + (p : Int)) ∧ sees rd L (2 + (p : Int)) ≠ []
  only : ∀ p : Nat, p < 48 → ∀ s ∈ sees rd L (2 + (p : Int)), isTag s = true → (tagRaw s).gen = gen → ∃ r i : Nat, r < R.length ∧ i < partsN (R.getD r []).length ∧ p = posN (R.take r) + i ∧ s = (splitB gen r (R.getD r [])).getD i []
section
variable {rd : Rd} {L : List Int} {gen : Int} {R : List (List Int)}
theorem posN_ge (R : List (List Int)) (h : ∀ b ∈ R, b.length ≤ 2120) : R.length ≤ posN R := by
  induction R with
  | nil => simp [posN]
  | cons b R ih =>
    have h1 := (partsN_pos (h b (by simp))).1
    have h2 := ih fun x hx => h x (by simp [hx])
    simp only [posN, List.length_cons]; omega
theorem getD_mem {R : List (List Int)} {r : Nat} (h : r < R.length) : R.getD r [] ∈ R := by
  rw [List.getD_eq_getElem?_getD, List.getElem?_eq_getElem h]; exact List.getElem_mem h
theorem Jour.range (h : Jour rd L gen R) {r : Nat} (hr : r < R.length) : RecRange gen r (R.getD r []) := by
  have h1 := posN_ge R h.len
  have h2 := h.fit
  exact ⟨h.rng, ⟨by omega, by omega⟩, h.len _ (getD_mem hr)⟩
theorem Jour.at {r : Nat} (h : Jour rd L gen R) (hr : r < R.length) : posN (R.take r) + partsN (R.getD r []).length ≤ 48 := by
  have h1 := posN_take hr
  have h2 := posN_le R (r + 1)
  have h3 := h.fit
  omega
theorem Jour.onlyP (h : Jour rd L gen R) {r : Nat} (hr : r < R.length) {i : Nat} (hi : i < partsN (R.getD r []).length) : OnlyP rd L gen r (R.getD r []) (posN (R.take r) + i) i := by
  intro s hs h1 h2 h3 h4
  have hfit := h.at hr
  have e : (2 : Int) + ((posN (R.take r) : Int) + (i : Int)) = 2 + ((posN (R.take r) + i : Nat) : Int) := by omega
  rw [e] at hs
  obtain ⟨r', i', hr', hi', _, rfl⟩ := h.only _ (by omega) s hs h1 h2
  have ht := ((h.range hr').tag hi').2
  rw [ht] at h3 h4
  simp only at h3 h4
  have e1 : r' = r := by omega
  have e2 : i' = i := by omega
  subst e1; subst e2; rfl
theorem Jour.calmP (h : Jour rd L gen R) {r : Nat} (hr : r < R.length) {i : Nat} (hi : i < partsN (R.getD r []).length) : CalmR rd L (2 + ((posN (R.take r) : Int) + (i : Int))) ∧ sees rd L (2 + ((posN (R.take r) : Int) + (i : Int))) ≠ [] := by
  have hfit := h.at hr
  have e : (2 : Int) + ((posN (R.take r) : Int) + (i : Int)) = 2 + ((posN (R.take r) + i : Nat) : Int) := by omega
  rw [e]
  exact h.calm _ (by omega)
/-- all of a record is seen -/
def FullR (rd : Rd) (L : List Int) (gen : Int) (R : List (List Int)) (r : Nat) : Prop := ∀ i, i < partsN (R.getD r []).length → (splitB gen r (R.getD r [])).getD i [] ∈ sees rd L (2 + ((posN (R.take r) : Int) + (i : Int)))
/-- one of its parts is not -/
def GapR (rd : Rd) (L : List Int) (gen : Int) (R : List (List Int)) (r : Nat) : Prop := ∃ i, i < partsN (R.getD r []).length ∧ (splitB gen r (R.getD r [])).getD i [] ∉ sees rd L (2 + ((posN (R.take r) : Int) + (i : Int)))
theorem Jour.scan (h : Jour rd L gen R) {m : Nat} (hm : m ≤ R.length) (hf : ∀ r, r < m → FullR rd L gen R r) (hg : m < R.length → GapR rd L gen R m) : ∀ (f r : Nat), r ≤ m → 48 ≤ posN (R.take r) + f →
    scanL rd L gen f (posN (R.take r)) (R.take r) = (R.take m, posN (R.take m), 0)
  | 0, r, hr, hp => by
    have h1 : r = m := by
      by_cases e : r = m
      · exact e
      · have := h.at (r := r) (by omega)
        have := (partsN_pos (h.range (r := r) (by omega)).len).1
        omega
    unfold scanL; rw [h1]
  | f + 1, r, hr, hp => by
    have hl : (R.take r).length = r := by rw [List.length_take]; omega
    unfold scanL
    by_cases hlt : r < m
    · have hrl : r < R.length := by omega
      have hat := h.at hrl
      have hpos := (partsN_pos (h.range hrl).len).1
      have hrec := rec_full (h.range hrl) (p := (posN (R.take r) : Int)) (by omega) (fun i hi => (h.calmP hrl hi).1) (fun i hi => h.onlyP hrl hi) (hf r hlt)
      have hne : splitB gen r (R.getD r []) ≠ [] := fun e => by have := splitB_len gen r (R.getD r []); rw [e, List.length_nil] at this; omega
      have hj := join_split (h.range hrl).gen (h.range hrl).num (h.range hrl).len
      rw [if_neg (by omega)]
      simp only [hl, hrec, hj, splitB_len, Option.getD_some]
      rw [if_neg (by decide), if_neg hne, ← posN_take hrl]
      have e : R.take r ++ [R.getD r []] = R.take (r + 1) := by
        rw [List.take_add_one, List.getD_eq_getElem?_getD, List.getElem?_eq_getElem hrl]; rfl
      rw [e]
      exact Jour.scan h hm hf hg f (r + 1) (by omega) (by rw [posN_take hrl]; omega)
    · have e : r = m := by omega
      subst e
      by_cases h48 : 48 ≤ posN (R.take r)
      · rw [if_pos h48]
      · rw [if_neg h48]
        have hrec : recL rd L gen (posN (R.take r) : Int) r = ([], 0) := by
          by_cases hrl : r < R.length
          · obtain ⟨i, hi, hgap⟩ := hg hrl
            have hat := h.at hrl
            have h0 := (h.calm (posN (R.take r)) (by omega)).2
            exact rec_gap (h.range hrl) (by omega) (fun i hi => (h.calmP hrl hi).1) (fun i hi => h.onlyP hrl hi) h0 hi hgap
          · have hc := h.calm (posN (R.take r)) (by omega)
            refine rec_none hc.1 hc.2 fun s hs h1 h2 h3 h4 => ?_
            obtain ⟨r', i', hr', hi', hp', rfl⟩ := h.only _ (by omega) s hs h1 h2
            have h5 := posN_take hr'
            have h6 : posN (R.take (r' + 1)) ≤ posN R := posN_le R (r' + 1)
            have h7 : R.take r = R := List.take_of_length_le (by omega)
            rw [h7] at hp'
            omega
        simp only [hl, hrec]
        rw [if_neg (by decide), if_pos trivial]
theorem Jour.scan0 (h : Jour rd L gen R) {m : Nat} (hm : m ≤ R.length) (hf : ∀ r, r < m → FullR rd L gen R r) (hg : m < R.length → GapR rd L gen R m) : scanL rd L gen 48 0 [] = (R.take m, posN (R.take m), 0) := by
  have := h.scan hm hf hg 48 0 (Nat.zero_le _) (by omega)
  simpa [posN] using this
end
end Go.Proofs.YtpeclkhppgabfaaDoor
/- Checkpoints in plain Lean: what Load tells of what lies in the areas. -/
namespace Go.Proofs.YtpeclkhppgabfaaDoor
set_option linter.unusedVariables false
set_option linter.unusedSimpArgs false

theorem partsL_sees (rd : Rd) (p : Int) : ∀ (L : List Int) (l : List (List Int)) (n : Nat), CalmR rd L p → partsL rd p L l n = (l ++ (sees rd L p).filter cpPart, n + (sees rd L p).length, 0)
  | [], l, n, _ => by simp [partsL, sees]
  | d :: L, l, n, hc => by
    have hc' : CalmR rd L p := fun x hx => hc x (by simp [hx])
    unfold partsL
    rcases hc d (by simp) with h0 | hp
    · have hne : ¬ passE (rd d p).2 = true := by rw [h0]; decide
      have he : sees rd (d :: L) p = (rd d p).1 :: sees rd L p := by simp [sees, h0]
      rw [if_neg hne, if_neg (by rw [h0]; decide), partsL_sees rd p L _ _ hc', he, List.length_cons, List.filter_cons]
      by_cases hcp : cpPart (rd d p).1 = true
      · rw [if_pos hcp, if_pos hcp, List.append_assoc]
        refine Prod.ext rfl (Prod.ext ?_ rfl)
        show n + 1 + (sees rd L p).length = n + ((sees rd L p).length + 1); omega
      · rw [if_neg hcp, if_neg hcp]
        refine Prod.ext rfl (Prod.ext ?_ rfl)
        show n + 1 + (sees rd L p).length = n + ((sees rd L p).length + 1); omega
    · have he : sees rd (d :: L) p = sees rd L p := by
        have : ((rd d p).2 == 0) = false := by
          by_cases e : (rd d p).2 = 0
          · rw [e] at hp; exact absurd hp (by decide)
          · simpa using e
        simp [sees, this]
      rw [if_pos hp, partsL_sees rd p L _ _ hc', he]
/-- what members tell of the places from p on -/
def rowsA (rd : Rd) (L : List Int) (p : Int) (k : Nat) : List (List (List Int)) := (List.range k).map fun (i : Nat) => (sees rd L (p + (i : Int))).filter cpPart
theorem rowsA_len (rd : Rd) (L : List Int) (p : Int) (k : Nat) : (rowsA rd L p k).length = k := by simp [rowsA]
theorem rowsA_at (rd : Rd) (L : List Int) (p : Int) {k i : Nat} (h : i < k) : (rowsA rd L p k).getD i [] = (sees rd L (p + (i : Int))).filter cpPart := by
  rw [List.getD_eq_getElem?_getD, List.getElem?_eq_getElem (by rw [rowsA_len]; exact h)]
  simp [rowsA]
theorem areaTo_rows (rd : Rd) (L : List Int) (p : Int) : ∀ (k : Nat), (∀ i, i < k → CalmR rd L (p + (i : Int)) ∧ sees rd L (p + (i : Int)) ≠ []) → areaTo rd L p k = (rowsA rd L p k, 0)
  | 0, _ => rfl
  | k + 1, h => by
    obtain ⟨h1, h2⟩ := h k (by omega)
    have hl : (sees rd L (p + (k : Int))).length ≠ 0 := fun e => h2 (List.eq_nil_of_length_eq_zero e)
    unfold areaTo
    rw [areaTo_rows rd L p k (fun i hi => h i (by omega)), partsL_sees rd _ L [] 0 h1]
    simp only [Nat.zero_add, List.nil_append]
    rw [if_neg (by decide), if_neg (by decide), if_neg hl]
    unfold rowsA
    rw [List.range_succ, List.map_append]
    rfl
/-- an area: its parts are of checkpoints X g, for generations g that V has -/
structure AreaC (A : List (List (List Int))) (V : Int → Prop) (X : Int → List Int) : Prop where
  rng : ∀ g, V g → 0 ≤ g ∧ g < 4294967296
  len : ∀ g, V g → (X g).length ≤ 1696
  only : ∀ i, i < 32 → ∀ s ∈ A.getD i [], ∃ g, V g ∧ i < partsN (X g).length ∧ s = (splitB g 0 (X g)).getD i []
/-- all of it is there -/
def AllC (A : List (List (List Int))) (V : Int → Prop) (X : Int → List Int) (g : Int) : Prop := V g ∧ ∀ i, i < partsN (X g).length → (splitB g 0 (X g)).getD i [] ∈ A.getD i []
section
variable {A : List (List (List Int))} {V : Int → Prop} {X : Int → List Int}
theorem parts_le {n : Nat} (h : n ≤ 1696) : partsN n ≤ 32 := by unfold partsN; rw [if_neg (by omega)]; omega
theorem AreaC.range (h : AreaC A V X) {g : Int} (hg : V g) : RecRange g 0 (X g) := ⟨h.rng g hg, by decide, by have := h.len g hg; omega⟩
theorem AreaC.tag (h : AreaC A V X) {g : Int} (hg : V g) {i : Nat} (hi : i < partsN (X g).length) : tagRaw ((splitB g 0 (X g)).getD i []) = ⟨g, 0, i, partsN (X g).length, (pieceB (X g) i).length⟩ := ((h.range hg).tag hi).2
theorem AreaC.find (h : AreaC A V X) {g : Int} (hg : V g) {i : Nat} (hi : i < partsN (X g).length) {t : Tag} (ht : t.gen = g ∧ t.parts = (partsN (X g).length : Int)) :
    ((splitB g 0 (X g)).getD i [] ∈ A.getD i [] → (A.getD i []).find? (mayPick t i) = some ((splitB g 0 (X g)).getD i [])) ∧
    ((splitB g 0 (X g)).getD i [] ∉ A.getD i [] → (A.getD i []).find? (mayPick t i) = none) := by
  have hi32 : i < 32 := by have := parts_le (h.len g hg); omega
  have hu : ∀ y ∈ A.getD i [], mayPick t i y = true → y = (splitB g 0 (X g)).getD i [] := fun y hy hm => by
    obtain ⟨g', hg', hi', rfl⟩ := h.only i hi32 y hy
    unfold mayPick at hm
    rw [h.tag hg' hi'] at hm
    simp only [Bool.and_eq_true, beq_iff_eq] at hm
    have e : g' = g := hm.1.1.trans ht.1
    subst e; rfl
  refine ⟨fun hm => find_only hm ?_ hu, fun hm => find_no fun y hy hp => hm (hu y hy hp ▸ hy)⟩
  unfold mayPick
  rw [h.tag hg hi]
  simp [ht.1, ht.2]
theorem AreaC.whole_to (h : AreaC A V X) {g : Int} (hg : V g) {t : Tag} (ht : t.gen = g ∧ t.parts = (partsN (X g).length : Int)) : ∀ k, k ≤ partsN (X g).length → (∀ i, i < k → (splitB g 0 (X g)).getD i [] ∈ A.getD i []) → wholeTo A t k = some ((splitB g 0 (X g)).take k)
  | 0, _, _ => by unfold wholeTo; simp
  | k + 1, hk, hf => by
    unfold wholeTo
    rw [h.whole_to hg ht k (by omega) (fun i hi => hf i (by omega))]
    simp only []
    rw [(h.find hg (show k < _ by omega) ht).1 (hf k (by omega))]
    simp only []
    rw [← splitB_take g 0 (X g) (by omega)]
theorem AreaC.whole_gap (h : AreaC A V X) {g : Int} (hg : V g) {t : Tag} (ht : t.gen = g ∧ t.parts = (partsN (X g).length : Int)) {i : Nat} (hi : i < partsN (X g).length) (hgap : (splitB g 0 (X g)).getD i [] ∉ A.getD i []) : ∀ k, wholeTo A t (i + 1 + k) = none
  | 0 => by
    rw [Nat.add_zero]
    unfold wholeTo
    cases hw : wholeTo A t i with
    | none => rfl
    | some l => simp only [(h.find hg hi ht).2 hgap]
  | k + 1 => by
    rw [← Nat.add_assoc]
    unfold wholeTo
    rw [h.whole_gap hg ht hi hgap k]
theorem AreaC.whole (h : AreaC A V X) {g : Int} (hg : V g) {t : Tag} (ht : t.gen = g ∧ t.parts = (partsN (X g).length : Int)) :
    (AllC A V X g → wholeB A t = some (X g)) ∧ (¬ AllC A V X g → wholeB A t = none) := by
  unfold wholeB
  rw [ht.2, Int.toNat_natCast]
  refine ⟨fun hc => ?_, fun hc => ?_⟩
  · rw [h.whole_to hg ht _ (Nat.le_refl _) hc.2, List.take_of_length_le (by rw [splitB_len]; exact Nat.le_refl _)]
    simp only [ht.1]
    exact join_split (h.range hg).gen (h.range hg).num (h.range hg).len
  · have hex : ∃ i, i < partsN (X g).length ∧ (splitB g 0 (X g)).getD i [] ∉ A.getD i [] := by
      refine Classical.byContradiction fun hn => hc ⟨hg, fun i hi => ?_⟩
      exact Classical.byContradiction fun hm => hn ⟨i, hi, hm⟩
    obtain ⟨i, hi, hgap⟩ := hex
    have := h.whole_gap hg ht hi hgap (partsN (X g).length - (i + 1))
    rw [show i + 1 + (partsN (X g).length - (i + 1)) = partsN (X g).length by omega] at this
    rw [this]
/-- where the best stands behind an area, or some of its first parts -/
structure BestC (A : List (List (List Int))) (V : Int → Prop) (X : Int → List Int) (area : Int) (b b' : Best) : Prop where
  seen : b'.seen = b.seen
  one : (b'.found = true ∧ b'.area = area ∧ AllC A V X b'.gen ∧ b'.bytes = X b'.gen ∧ (b.found = true → b.gen < b'.gen)) ∨ b' = b
theorem AreaC.look (h : AreaC A V X) (area : Int) {b b' : Best} (hb : BestC A V X area b b') {s : List Int} (hs : s ∈ A.getD 0 []) :
    BestC A V X area b (Best.look area A b' s) ∧ (∀ g, s = (splitB g 0 (X g)).getD 0 [] → V g → AllC A V X g → (Best.look area A b' s).found = true ∧ g ≤ (Best.look area A b' s).gen) ∧ (b'.found = true → (Best.look area A b' s).found = true ∧ b'.gen ≤ (Best.look area A b' s).gen) := by
  obtain ⟨g, hg, hi, rfl⟩ := h.only 0 (by decide) s hs
  have ht := h.tag hg hi
  have hw := h.whole hg (t := tagRaw ((splitB g 0 (X g)).getD 0 [])) (by rw [ht]; exact ⟨rfl, rfl⟩)
  have h32 := parts_le (h.len g hg)
  have huniq : ∀ g', (splitB g 0 (X g)).getD 0 [] = (splitB g' 0 (X g')).getD 0 [] → V g' → g' = g := fun g' e hg' => by
    have hp' := (partsN_pos (show (X g').length ≤ 2120 by have := h.len g' hg'; omega)).1
    have ht' := h.tag hg' (i := 0) (by omega)
    rw [← e, ht] at ht'
    exact (congrArg Tag.gen ht').symm
  unfold Best.look
  by_cases hc : (tagRaw ((splitB g 0 (X g)).getD 0 [])).part ≠ 0 ∨ 32 < (tagRaw ((splitB g 0 (X g)).getD 0 [])).parts ∨ (b'.found = true ∧ (tagRaw ((splitB g 0 (X g)).getD 0 [])).gen ≤ b'.gen)
  · rw [if_pos hc]
    refine ⟨hb, fun g' e hg' _ => ?_, fun hf => ⟨hf, Int.le_refl _⟩⟩
    have := huniq g' e hg'
    subst this
    rw [ht] at hc
    simp only at hc
    rcases hc with hc | hc | hc
    · exact absurd rfl hc
    · omega
    · exact hc
  · rw [if_neg hc]
    rw [ht] at hc
    simp only at hc
    have hgt : b'.found = true → b'.gen < g := fun hf => by
      by_cases e : g ≤ b'.gen
      · exact absurd (.inr (.inr ⟨hf, e⟩)) hc
      · omega
    by_cases hall : AllC A V X g
    · rw [hw.1 hall, ht]
      simp only []
      refine ⟨⟨hb.seen, .inl ⟨rfl, rfl, hall, rfl, fun hf => ?_⟩⟩, fun g' e hg' _ => ?_, fun hf => ⟨trivial, ?_⟩⟩
      · rcases hb.one with ⟨h1, _, _, _, h5⟩ | h1
        · have := h5 hf; have := hgt h1; show b.gen < g; omega
        · rw [h1] at hgt; exact hgt hf
      · have := huniq g' e hg'
        subst this
        exact ⟨trivial, Int.le_refl _⟩
      · have := hgt hf; show b'.gen ≤ g; omega
    · rw [hw.2 hall]
      simp only []
      refine ⟨hb, fun g' e hg' ha => ?_, fun hf => ⟨hf, Int.le_refl _⟩⟩
      have := huniq g' e hg'
      subst this
      exact absurd ha hall
theorem AreaC.looks (h : AreaC A V X) (area : Int) : ∀ (row : List (List Int)) {b b' : Best}, (∀ s ∈ row, s ∈ A.getD 0 []) → BestC A V X area b b' →
    BestC A V X area b (row.foldl (Best.look area A) b') ∧ (∀ g, (splitB g 0 (X g)).getD 0 [] ∈ row → V g → AllC A V X g → (row.foldl (Best.look area A) b').found = true ∧ g ≤ (row.foldl (Best.look area A) b').gen) ∧ (b'.found = true → (row.foldl (Best.look area A) b').found = true ∧ b'.gen ≤ (row.foldl (Best.look area A) b').gen)
  | [], b, b', _, hb => ⟨hb, (fun g hg => by cases hg), fun hf => ⟨hf, Int.le_refl _⟩⟩
  | s :: row, b, b', hr, hb => by
    obtain ⟨h1, h2, h3⟩ := h.look area hb (hr s (by simp))
    obtain ⟨i1, i2, i3⟩ := h.looks area row (fun x hx => hr x (by simp [hx])) h1
    rw [List.foldl_cons]
    refine ⟨i1, fun g hm hg ha => ?_, fun hf => ?_⟩
    · rcases List.mem_cons.1 hm with e | hm
      · obtain ⟨j1, j2⟩ := h2 g e.symm hg ha
        obtain ⟨k1, k2⟩ := i3 j1
        exact ⟨k1, by omega⟩
      · exact i2 g hm hg ha
    · obtain ⟨j1, j2⟩ := h3 hf
      obtain ⟨k1, k2⟩ := i3 j1
      exact ⟨k1, by omega⟩
theorem seenL_ge (l : List (List Int)) (x : Int) : x ≤ seenL l x ∧ (∀ s ∈ l, (tagRaw s).gen ≤ seenL l x) ∧ (seenL l x = x ∨ ∃ s ∈ l, seenL l x = (tagRaw s).gen) := by
  unfold seenL
  induction l generalizing x with
  | nil => exact ⟨Int.le_refl _, fun s h => by (cases h), .inl rfl⟩
  | cons a l ih =>
    obtain ⟨h1, h2, h3⟩ := ih (max x (tagRaw a).gen)
    rw [List.foldl_cons]
    refine ⟨by omega, fun s hs => ?_, ?_⟩
    · rcases List.mem_cons.1 hs with rfl | hs
      · omega
      · exact h2 s hs
    · rcases h3 with h3 | ⟨s, hs, h3⟩
      · by_cases e : x ≤ (tagRaw a).gen
        · right; exact ⟨a, by simp, by rw [h3]; omega⟩
        · left; rw [h3]; omega
      · right; exact ⟨s, by simp [hs], h3⟩
def seenA (A : List (List (List Int))) (x : Int) : Int := A.foldl (fun x l => seenL l x) x
theorem seenA_ge (A : List (List (List Int))) (x : Int) : x ≤ seenA A x ∧ (∀ l ∈ A, ∀ s ∈ l, (tagRaw s).gen ≤ seenA A x) ∧ (seenA A x = x ∨ ∃ l ∈ A, ∃ s ∈ l, seenA A x = (tagRaw s).gen) := by
  unfold seenA
  induction A generalizing x with
  | nil => exact ⟨Int.le_refl _, fun s h => by (cases h), .inl rfl⟩
  | cons a A ih =>
    obtain ⟨h1, h2, h3⟩ := ih (seenL a x)
    obtain ⟨k1, k2, k3⟩ := seenL_ge a x
    rw [List.foldl_cons]
    refine ⟨by omega, fun l hl s hs => ?_, ?_⟩
    · rcases List.mem_cons.1 hl with rfl | hl
      · have := k2 s hs; omega
      · exact h2 l hl s hs
    · rcases h3 with h3 | ⟨l, hl, s, hs, h3⟩
      · rcases k3 with k3 | ⟨s, hs, k3⟩
        · left; rw [h3, k3]
        · right; exact ⟨a, by simp, s, hs, by rw [h3, k3]⟩
      · right; exact ⟨l, by simp [hl], s, hs, h3⟩
/-- an area read -/
structure InA (A : List (List (List Int))) (V : Int → Prop) (X : Int → List Int) (area : Int) (b b' : Best) : Prop where
  seen : b'.seen = seenA A b.seen
  one : (b'.found = true ∧ b'.area = area ∧ AllC A V X b'.gen ∧ b'.bytes = X b'.gen ∧ (b.found = true → b.gen < b'.gen)) ∨ (b'.found = b.found ∧ b'.area = b.area ∧ b'.gen = b.gen ∧ b'.bytes = b.bytes)
  all : ∀ g, AllC A V X g → b'.found = true ∧ g ≤ b'.gen
theorem AreaC.inArea (h : AreaC A V X) (area : Int) (b : Best) : InA A V X area b (b.inArea area A) := by
  obtain ⟨h1, h2, h3⟩ := h.looks area (A.getD 0 []) (b := { b with seen := seenA A b.seen }) (b' := { b with seen := seenA A b.seen }) (fun s hs => hs) ⟨rfl, .inr rfl⟩
  refine ⟨h1.seen, ?_, fun g hg => ?_⟩
  · rcases h1.one with h4 | h4
    · exact .inl h4
    · right
      have e : b.inArea area A = { b with seen := seenA A b.seen } := h4
      rw [e]
      exact ⟨rfl, rfl, rfl, rfl⟩
  · have hp := (partsN_pos (show (X g).length ≤ 2120 by have := h.len g hg.1; omega)).1
    exact h2 g (hg.2 0 (by omega)) hg.1 hg
end
end Go.Proofs.YtpeclkhppgabfaaDoor
