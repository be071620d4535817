/- PaH: several texts in one: Dlb Dlc Dlv Rkb Rsl Dlw Rez. -/
import Derived.Test.YtpeclkhppgabfaaDoorPaG
import Derived.Great.BuildSlice
/- A disk.Bank in plain Lean: what its calls do at each place. -/
namespace Go.Proofs.YtpeclkhppgabfaaDoor
open Go.RowKit
set_option linter.unusedVariables false
set_option linter.unusedSimpArgs false

/-- what is flushed at a place, what is newest there, since when it is loose -/
def BankT.F (T : BankT) (d k : Nat) : List Int := (T.d d).flu.getD k []
def BankT.N (T : BankT) (d k : Nat) : List Int := (T.d d).new.getD k []
def BankT.S (T : BankT) (d k : Nat) : Int := (T.d d).sin.getD k 0
/-- n disks of z sectors -/
structure Shape (T : BankT) (n z : Nat) : Prop where
  inv : T.Inv
  len : T.l.length = n
  sz : ∀ d, d < n → (T.d d).sin.length = z
/-- nobody fails, nothing is armed -/
structure Still (T : BankT) (n z : Nat) : Prop extends Shape T n z where
  up : T.down = false
  arm : T.armed = 0
  dead : ∀ d, d < n → (T.d d).dead = false
  fail : ∀ d, d < n → (T.d d).fail = 0
theorem BankT.S_nonneg {T : BankT} (h : T.Inv) (d k : Nat) : 0 ≤ T.S d k := by
  unfold BankT.S
  by_cases e : d < T.l.length
  · exact getD_nonneg (h.ok.d e).sin _
  · have : T.d d = Med.zero := by unfold BankT.d; rw [List.getD_eq_getElem?_getD, List.getElem?_eq_none (by omega)]; rfl
    rw [this]; exact getD_nonneg (by simp [Med.zero]) _
theorem tickTo_calm {T : BankT} (hf : ∀ d, d < T.l.length → (T.d d).fail = 0) : ∀ {j}, j ≤ T.l.length → T.tickTo j = { T with writes := T.writes + 1 }
  | 0, _ => rfl
  | j + 1, hj => by
    rw [BankT.tickTo, tickTo_calm hf (by omega)]
    have : ¬ 0 < (({ T with writes := T.writes + 1 } : BankT).d j).fail := by
      show ¬ 0 < (T.d j).fail
      rw [hf j (by omega)]; decide
    exact BankT.tick1_no this
theorem Still.tick {T : BankT} {n z : Nat} (h : Still T n z) : T.tick = ({ T with writes := T.writes + 1 }, true) := by
  have e := tickTo_calm (T := T) (fun d hd => h.fail d (by rw [← h.len]; exact hd)) (Nat.le_refl _)
  unfold BankT.tick
  rw [if_neg (by rw [h.up]; decide), e, if_neg (by show ¬ 0 < T.armed; rw [h.arm]; decide)]
theorem Still.ready {T : BankT} {n z : Nat} (h : Still T n z) {d : Nat} (hd : d < n) : T.readyE (d : Int) = 0 := by
  unfold BankT.readyE
  rw [if_neg (by rw [h.len]; omega), Int.toNat_natCast, h.dead d hd, if_neg (by decide), h.up, if_neg (by decide)]
theorem Still.wr {T : BankT} {n z : Nat} (h : Still T n z) {x : Int} (hx : 0 ≤ x) : Still { T with writes := x } n z :=
  ⟨⟨⟨h.inv.ok, h.inv.clk, hx, h.inv.ar, h.inv.msk, h.inv.top, h.inv.uniq⟩, h.len, h.sz⟩, h.up, h.arm, h.dead, h.fail⟩
theorem BankT.put_at {T : BankT} (ok : T.Ok) {d a : Nat} (hd : d < T.l.length) (ha : a < (T.d d).sin.length) (s : List Int) (c k : Nat) :
    (T.put d a s).F c k = T.F c k ∧ (T.put d a s).N c k = (if c = d ∧ k = a then s else T.N c k) ∧ (T.put d a s).S c k = (if c = d ∧ k = a then T.stamp d a else T.S c k) := by
  obtain ⟨h1, h2, h3⟩ := Med.put_at (ok.d hd) ha s (T.stamp d a) k
  unfold BankT.F BankT.N BankT.S
  rw [BankT.put_d hd]
  by_cases e : c = d
  · subst e
    rw [if_pos rfl, h1, h2, h3]
    simp
  · rw [if_neg e]; simp [e]
theorem Med.put_rest (m : Med) (a : Nat) (s : List Int) (x : Int) : (m.put a s x).dead = m.dead ∧ (m.put a s x).fail = m.fail ∧ (m.put a s x).sin.length = m.sin.length := ⟨rfl, rfl, by simp [Med.put]⟩
theorem Still.put {T : BankT} {n z : Nat} (h : Still T n z) {d a : Nat} (hd : d < n) (ha : a < z) {s : List Int} (hs : s.length = 64 ∧ ∀ x ∈ s, IsByte x) : Still (T.put d a s) n z := by
  have hd' : d < T.l.length := by rw [h.len]; exact hd
  have ha' : a < (T.d d).sin.length := by rw [h.sz d hd]; exact ha
  obtain ⟨r1, r2, r3, r4, r5⟩ := T.put_rest d a s
  obtain ⟨m1, m2, m3⟩ := Med.put_rest (T.d d) a s (T.stamp d a)
  refine ⟨⟨h.inv.put hd' ha' hs, r1.trans h.len, fun c hc => ?_⟩, r2.trans h.up, r4.trans h.arm, fun c hc => ?_, fun c hc => ?_⟩ <;> rw [BankT.put_d hd']
  · split
    · rw [m3]; exact h.sz d hd
    · exact h.sz c hc
  · split
    · rw [m1]; exact h.dead d hd
    · exact h.dead c hc
  · split
    · rw [m2]; exact h.fail d hd
    · exact h.fail c hc
/-- a write to a calm bank -/
theorem Still.write {T : BankT} {n z : Nat} (h : Still T n z) {d a : Nat} (hd : d < n) (ha : a < z) {s : List Int} (hs : s.length = 64 ∧ ∀ x ∈ s, IsByte x) :
    ∃ T', T.write (d : Int) (a : Int) s = (T', 0) ∧ Still T' n z ∧ T'.clock ≤ T.clock + 1 ∧ T'.writes = T.writes + 1 ∧
      ∀ c k, T'.F c k = T.F c k ∧ T'.N c k = (if c = d ∧ k = a then s else T.N c k) ∧ T'.S c k = (if c = d ∧ k = a then T.stamp d a else T.S c k) := by
  have h1 : Still { T with writes := T.writes + 1 } n z := h.wr (by have := h.inv.wr; omega)
  have hin : ({ T with writes := T.writes + 1 } : BankT).inE (d : Int) (a : Int) = 0 := BankT.inE_in (h1.ready hd) (by rw [h1.sz d hd]; exact ha)
  refine ⟨({ T with writes := T.writes + 1 } : BankT).put d a s, ?_, h1.put hd ha hs, ?_, ?_, fun c k => ?_⟩
  · unfold BankT.write
    rw [h.tick]
    simp only [Bool.true_eq_false, if_false, hin, if_true, Int.toNat_natCast]
  · rw [BankT.put_clock]
    split
    · exact Int.le_refl _
    · show T.clock ≤ T.clock + 1; omega
  · rw [(BankT.put_rest _ d a s).2.2.1]
  · exact BankT.put_at h1.inv.ok (by rw [h1.len]; exact hd) (by rw [h1.sz d hd]; exact ha) s c k
theorem BankT.flush_at {T : BankT} (ok : T.Ok) {d : Nat} (hd : d < T.l.length) (c : Nat) {k : Nat} (hk : k < (T.d d).sin.length) :
    (T.flush d).F c k = (if c = d ∧ 0 < T.S c k then T.N c k else T.F c k) ∧ (T.flush d).N c k = T.N c k ∧ (T.flush d).S c k = (if c = d ∧ 0 < T.S c k then 0 else T.S c k) := by
  obtain ⟨h1, h2, h3⟩ := Med.settleTo_at (ok.d hd) true k (Nat.le_refl _)
  unfold BankT.F BankT.N BankT.S BankT.flush
  rw [BankT.d_up _ hd]
  by_cases e : c = d
  · subst e
    rw [if_pos rfl, h1, h2, h3]
    simp [hk]
  · rw [if_neg e]; simp [e]
theorem BankT.flush_rest (T : BankT) (d : Nat) : (T.flush d).l.length = T.l.length ∧ (T.flush d).down = T.down ∧ (T.flush d).writes = T.writes ∧ (T.flush d).armed = T.armed ∧ (T.flush d).clock = T.clock := ⟨BankT.up_len _ _ _, rfl, rfl, rfl, rfl⟩
theorem Still.flush {T : BankT} {n z : Nat} (h : Still T n z) {d : Nat} (hd : d < n) :
    ∃ T', T.flushC (d : Int) = (T', 0) ∧ Still T' n z ∧ T'.clock = T.clock ∧ T'.writes = T.writes ∧
      ∀ c k, k < z → T'.F c k = (if c = d ∧ 0 < T.S c k then T.N c k else T.F c k) ∧ T'.N c k = T.N c k ∧ T'.S c k = (if c = d ∧ 0 < T.S c k then 0 else T.S c k) := by
  have hd' : d < T.l.length := by rw [h.len]; exact hd
  refine ⟨T.flush d, by unfold BankT.flushC; rw [h.ready hd, if_pos rfl, Int.toNat_natCast], ⟨⟨h.inv.flush hd', (T.flush_rest d).1.trans h.len, fun c hc => ?_⟩, h.up, h.arm, fun c hc => ?_, fun c hc => ?_⟩, rfl, rfl, fun c k hk => BankT.flush_at h.inv.ok hd' c (by rw [h.sz d hd]; exact hk)⟩ <;>
    unfold BankT.flush <;> rw [BankT.d_up _ hd']
  · split
    · rw [Med.settleTo_len]; exact h.sz d hd
    · exact h.sz c hc
  · split
    · rw [Med.settleTo_dead]; exact h.dead d hd
    · exact h.dead c hc
  · split
    · rw [Med.settleTo_fail]; exact h.fail d hd
    · exact h.fail c hc
theorem Still.read {T : BankT} {n z : Nat} (h : Still T n z) {d a : Nat} (hd : d < n) (ha : a < z) : T.read (d : Int) (a : Int) = (T.N d a, 0) := by
  unfold BankT.read
  rw [BankT.inE_in (h.ready hd) (by rw [h.sz d hd]; exact ha), if_pos rfl, Int.toNat_natCast, Int.toNat_natCast]; rfl
/-- a crash of one that is up, at each place: what is loose goes as its bit says, all else stays -/
theorem BankT.crash_at {T : BankT} (inv : T.Inv) (hu : T.down = false) (mask : Int) (c k : Nat) :
    ((T.crash mask).F c k, (T.crash mask).N c k, (T.crash mask).S c k) = ((BankT.settleL mask T.order 0 T).F c k, (BankT.settleL mask T.order 0 T).N c k, (BankT.settleL mask T.order 0 T).S c k) := by
  unfold BankT.crash
  rw [if_neg (by rw [hu]; decide)]; rfl
theorem BankT.crash_still {T : BankT} (inv : T.Inv) (hu : T.down = false) (mask : Int) {c k : Nat} (h : (c, k) ∉ T.order) :
    (T.crash mask).F c k = T.F c k ∧ (T.crash mask).N c k = T.N c k ∧ (T.crash mask).S c k = T.S c k := by
  have := BankT.crash_at inv hu mask c k
  simp only [Prod.mk.injEq] at this
  obtain ⟨e1, e2, e3⟩ := this
  rw [e1, e2, e3]
  exact (BankT.settleL_at mask c k (L := T.order) (i := 0) inv.ok (fun p hp => ((T.mem_order p).1 hp).1) T.nodup_order).1 h
theorem BankT.crash_loose {T : BankT} (inv : T.Inv) (hu : T.down = false) (mask : Int) {c k j : Nat} (hj : j < T.order.length) (h : T.order[j] = (c, k)) :
    (T.crash mask).F c k = (if bitOf mask j then T.N c k else T.F c k) ∧ (T.crash mask).N c k = (if bitOf mask j then T.N c k else T.F c k) ∧ (T.crash mask).S c k = 0 := by
  have := BankT.crash_at inv hu mask c k
  simp only [Prod.mk.injEq] at this
  obtain ⟨e1, e2, e3⟩ := this
  rw [e1, e2, e3]
  have := (BankT.settleL_at mask c k (L := T.order) (i := 0) inv.ok (fun p hp => ((T.mem_order p).1 hp).1) T.nodup_order).2 j hj h
  rw [Nat.zero_add] at this
  exact this
theorem BankT.crash_rest {T : BankT} (inv : T.Inv) (hu : T.down = false) (mask : Int) : (T.crash mask).down = true ∧ (T.crash mask).armed = 0 ∧ (T.crash mask).writes = T.writes ∧ (T.crash mask).clock = T.clock ∧ ∀ c, ((T.crash mask).d c).dead = (T.d c).dead ∧ ((T.crash mask).d c).fail = (T.d c).fail ∧ ((T.crash mask).d c).sin.length = (T.d c).sin.length := by
  obtain ⟨c1, c2⟩ := BankT.crash_clock inv.ok mask
  refine ⟨?_, ?_, c2, c1, fun c => ?_⟩
  · unfold BankT.crash; rw [if_neg (by rw [hu]; decide)]
  · unfold BankT.crash; rw [if_neg (by rw [hu]; decide)]
  · have e : (T.crash mask).d c = (BankT.settleL mask T.order 0 T).d c := by unfold BankT.crash; rw [if_neg (by rw [hu]; decide)]; rfl
    rw [e]
    exact BankT.settleL_dead mask T.order 0 T c (fun p hp => ((T.mem_order p).1 hp).1)
theorem BankT.order_iff {T : BankT} {n z : Nat} (h : Shape T n z) {c k : Nat} (hc : c < n) (hk : k < z) : (c, k) ∈ T.order ↔ 0 < T.S c k := by
  rw [T.mem_order]
  exact ⟨fun h => h.2, fun h' => ⟨⟨by rw [h.len]; exact hc, by show k < (T.d c).sin.length; rw [h.sz c hc]; exact hk⟩, h'⟩⟩
/-- a calm bank falls and is started -/
theorem Still.crash {T : BankT} {n z : Nat} (h : Still T n z) (mask : Int) : Still (T.crash mask).start n z ∧ (T.crash mask).clock = T.clock ∧ (T.crash mask).writes = T.writes ∧ Shape (T.crash mask) n z ∧ (T.crash mask).down = true := by
  obtain ⟨r1, r2, r3, r4, r5⟩ := BankT.crash_rest h.inv h.up mask
  have hs : Shape (T.crash mask) n z := ⟨h.inv.crash mask, (T.crash_len mask).trans h.len, fun d hd => (r5 d).2.2.trans (h.sz d hd)⟩
  exact ⟨⟨⟨hs.inv |> fun i => ⟨i.ok, i.clk, i.wr, i.ar, i.msk, i.top, i.uniq⟩, hs.len, hs.sz⟩, rfl, r2, fun d hd => (r5 d).1.trans (h.dead d hd), fun d hd => (r5 d).2.1.trans (h.fail d hd)⟩, r4, r3, hs, r1⟩
theorem bitOf_zero (j : Nat) : bitOf 0 j = false := by
  unfold bitOf; simp
end Go.Proofs.YtpeclkhppgabfaaDoor
/- DiskFlushes: the plain law. -/
namespace Go.Proofs.YtpeclkhppgabfaaDoor
open Go.RowKit
set_option linter.unusedVariables false
set_option linter.unusedSimpArgs false

theorem addN_inv : ∀ k, k ≤ 31 → (addN k).Inv
  | 0, _ => BankT.Inv.zero
  | k + 1, h => (addN_inv k (by omega)).add (by rw [addN_len]; omega) (by decide)
theorem addN_d : ∀ k d, d < k → (addN k).d d = Med.fresh 8
  | 0, _, h => absurd h (Nat.not_lt_zero _)
  | k + 1, d, h => by
    rw [addN]
    by_cases e : d < k
    · rw [BankT.add_old _ _ (by rw [addN_len]; exact e)]; exact addN_d k d e
    · obtain rfl : d = k := by omega
      have := BankT.add_new (addN d) 8
      rwa [addN_len] at this
theorem addN_rest : ∀ k, (addN k).down = false ∧ (addN k).armed = 0 ∧ (addN k).clock = 0 ∧ (addN k).writes = 0
  | 0 => ⟨rfl, rfl, rfl, rfl⟩
  | k + 1 => addN_rest k
theorem addN_at {k d : Nat} (h : d < k) {a : Nat} (ha : a < 8) : (addN k).F d a = zeroB ∧ (addN k).N d a = zeroB ∧ (addN k).S d a = 0 := by
  unfold BankT.F BankT.N BankT.S
  rw [addN_d k d h, Med.fresh]
  simp only [List.getD_eq_getElem?_getD, List.getElem?_replicate, ha, if_true, Option.getD_some]
  exact ⟨trivial, trivial, trivial⟩
theorem addN_still {k : Nat} (h : k ≤ 31) : Still (addN k) k 8 :=
  ⟨⟨addN_inv k h, addN_len k, fun d hd => by rw [addN_d k d hd]; rfl⟩, (addN_rest k).1, (addN_rest k).2.1, fun d hd => by rw [addN_d k d hd]; rfl, fun d hd => by rw [addN_d k d hd]; rfl⟩
/-- the law's own sectors beside the bank's -/
structure FlI (T : BankT) (ls : List (List Int)) : Prop where
  still : Still T 3 8
  len : ls.length = 24
  l64 : ∀ s ∈ ls, s.length = 64
  new : ∀ d k, d < 3 → k < 8 → T.N d k = ls.getD (8 * d + k) []
  flu : ∀ d k, d < 3 → k < 8 → T.F d k = zeroB
  idle : ∀ d k, d < 3 → k < 8 → T.S d k = 0 → T.N d k = zeroB
theorem FlI.start : FlI (addN 3) (List.replicate 24 zeroB) :=
  ⟨addN_still (by decide), by simp, fun s hs => by rw [List.eq_of_mem_replicate hs]; exact zeroB_length, fun d k hd hk => by rw [(addN_at hd hk).2.1, List.getD_eq_getElem?_getD, List.getElem?_replicate, if_pos (by omega)]; rfl, fun d k hd hk => (addN_at hd hk).1, fun d k hd hk _ => (addN_at hd hk).2.1⟩
theorem getD_set {l : List (List Int)} {i : Nat} (hi : i < l.length) (s : List Int) (j : Nat) : (l.set i s).getD j [] = if j = i then s else l.getD j [] := by
  rw [List.getD_eq_getElem?_getD, List.getElem?_set]
  by_cases e : i = j
  · subst e; simp [hi]
  · simp [e, Ne.symm e, List.getD_eq_getElem?_getD]
theorem FlI.step {T : BankT} {ls : List (List Int)} (h : FlI T ls) {d a : Nat} (hd : d < 3) (ha : a < 8) {s : List Int} (hs : s.length = 64 ∧ ∀ x ∈ s, IsByte x) :
    ∃ T', T.write (d : Int) (a : Int) s = (T', 0) ∧ FlI T' (ls.set (8 * d + a) s) ∧ T'.clock ≤ T.clock + 1 ∧ T'.writes = T.writes + 1 := by
  obtain ⟨T', he, hc, h1, h2, h3⟩ := h.still.write hd ha hs
  have hl : 8 * d + a < ls.length := by rw [h.len]; omega
  refine ⟨T', he, ⟨hc, by rw [List.length_set]; exact h.len, fun x hx => ?_, fun c k hc' hk => ?_, fun c k hc' hk => ?_, fun c k hc' hk h0 => ?_⟩, h1, h2⟩
  · rcases List.mem_or_eq_of_mem_set hx with h' | h'
    · exact h.l64 x h'
    · rw [h']; exact hs.1
  · rw [(h3 c k).2.1, getD_set hl, h.new c k hc' hk]
    by_cases e : c = d ∧ k = a
    · rw [if_pos e, if_pos (by rw [e.1, e.2])]
    · rw [if_neg e, if_neg (fun e' => e (by omega))]
  · rw [(h3 c k).1]; exact h.flu c k hc' hk
  · rw [(h3 c k).2.2] at h0
    rw [(h3 c k).2.1]
    by_cases e : c = d ∧ k = a
    · rw [if_pos e] at h0
      exfalso
      unfold BankT.stamp at h0
      have hclk := h.still.inv.clk
      split at h0
      · omega
      · rename_i hn; exact hn h0
    · rw [if_neg e] at h0 ⊢; exact h.idle c k hc' hk h0
/-- what is told behind the flush and the crash -/
theorem FlI.fin {T : BankT} {ls : List (List Int)} (h : FlI T ls) {who : Nat} (hw : who < 3) :
    ∃ T1, T.flushC (who : Int) = (T1, 0) ∧ T1.Inv ∧ T1.l.length = 3 ∧ T1.clock = T.clock ∧ T1.writes = T.writes ∧ Still (T1.crash 0).start 3 8 ∧ (T1.crash 0).clock = T.clock ∧ (T1.crash 0).writes = T.writes ∧ (T1.crash 0).Inv ∧
      ∀ d k : Nat, d < 3 → k < 8 → (T1.crash 0).start.read (d : Int) (k : Int) = (if d = who then ls.getD (8 * d + k) [] else zeroB, 0) := by
  obtain ⟨T1, he, hc, c1, w1, h1⟩ := h.still.flush hw
  obtain ⟨k1, k2, k3, k4, k5⟩ := hc.crash 0
  refine ⟨T1, he, hc.inv, hc.len, c1, w1, k1, k2.trans c1, k3.trans w1, k4.inv, fun d k hd hk => ?_⟩
  rw [k1.read hd hk]
  congr 1
  have hS0 := BankT.S_nonneg h.still.inv d k
  have hS1 := BankT.S_nonneg hc.inv d k
  obtain ⟨f1, f2, f3⟩ := h1 d k hk
  show (T1.crash 0).N d k = _
  by_cases hp : 0 < T1.S d k
  · obtain ⟨j, hj, hjo⟩ := List.getElem_of_mem ((BankT.order_iff hc.toShape hd hk).2 hp)
    obtain ⟨g1, g2, g3⟩ := BankT.crash_loose hc.inv hc.up 0 hj hjo
    rw [g2, bitOf_zero, if_neg (by decide)]
    by_cases e : d = who
    · exfalso
      rw [f3] at hp
      split at hp
      · omega
      · rename_i hn; exact hn ⟨e, hp⟩
    · rw [if_neg e, f1, if_neg (fun h => e h.1)]; exact h.flu d k hd hk
  · obtain ⟨g1, g2, g3⟩ := BankT.crash_still hc.inv hc.up 0 (c := d) (k := k) (fun hm => hp ((BankT.order_iff hc.toShape hd hk).1 hm))
    rw [g2, f2]
    by_cases e : d = who
    · rw [if_pos e]; exact h.new d k hd hk
    · rw [if_neg e]
      refine h.idle d k hd hk ?_
      rw [f3, if_neg (fun h => e h.1)] at hp
      omega
end Go.Proofs.YtpeclkhppgabfaaDoor
/- A law's bank: reads in whatever order, a write by its answer. -/
namespace Go.Proofs.YtpeclkhppgabfaaDoor
open Go.RowKit
set_option linter.unusedVariables false
set_option linter.unusedSimpArgs false

theorem still_neq_sec {ops : Array Oper} {rest : List Oper} {o : Oper} {a : Act} {w : World} {K : Act → Prop} (hgd : Region.wanted o (yielded ops a.tmps) = true) (x y : Operand) {t' : TypeId} (ho : o.op = .binOp .neq 39 x y t') (xs ys : List Int) (hx : a.eval x = .agg (u8s xs).toArray) (hy : a.eval y = .agg (u8s ys).toArray) (hxl : xs.length = 64) (hyl : ys.length = 64)
    (h : wpStill Tryd.prog ops w K rest (a.put o.dst (.bool (!(xs == ys))))) : wpStill Tryd.prog ops w K (o :: rest) a := by
  have heq := run_equal_secA xs ys hxl hyl w
  refine wpStill_val hgd ?_ h
  unfold execOp
  simp only [ho, hx, hy, Sem.run_bind]
  rw [run_eqGuard_agg _ _ _ _ _ _ _ eqg_sec]
  simp only [Result.andThen_ok]
  rw [run_neq_struct, heq]
  simp only [Result.andThen_ok, Sem.run_pure]
/-- All reads, in whatever order: the world a letter. -/
theorem wp_still_all {P : Program} {Q : Exit → Act → World → Prop} {a : Act} {w : World} {id : Nat} {l : List Oper} (hm : P.follows .mixedOrders = true) (hB : Region.lexB .any l.toArray = true)
    (h : ∀ w1, Kept w w1 → w1.heap = w.heap → wpStill P l.toArray w1 (fun a' => Q .normal a' w1) l a) : (Code.region id l.toArray true).wp P Q a w :=
  wp_region_still hm hB (h w.drew (Kept.refl w).drew rfl)
theorem bk_use {T : BankT} {n z : Nat} (h : Still T n z) (hn : n ≠ 0) {c x : Int} (hc : T.clock ≤ c) (hw : T.writes ≤ x) (h1 : c < 1000000000) (h2 : x < 1000000000) : T.Use := ⟨h.inv, by rw [h.len]; exact hn, by omega, by omega⟩
theorem st_writeE {w0 W : World} {R : Nat → Prop} {q : Nat} {T T' : BankT} (h : BK w0 R W q T) (u : T.Use) (d a : Int) {s : List Int} (hs : s.length = 64) {c : Int} (he : T.write d a s = (T', c)) :
    Calls Tryd.prog 17 #[.pointer (some ⟨q, 0, none⟩), .agg #[.int .i64 d, .int .i64 a], .agg (u8s s).toArray] W fun e w' => e = .returned (.int .i64 c) ∧ BK w0 R w' q T' ∧ SameR R W w' :=
  (bk_Write h u d a hs).mono fun e w' ⟨h1, h2, h3⟩ => ⟨by rw [h1, he], by rw [he] at h2; exact h2, h3⟩
end Go.Proofs.YtpeclkhppgabfaaDoor
/- The document's bank in memory: what its blocks hold. -/
namespace Go.Proofs.YtpeclkhppgabfaaDoor
open Go.RowKit
set_option linter.unusedVariables false
set_option linter.unusedSimpArgs false

/-- what one append does to the memory -/
def Grw (W W' : World) (v v' : Value) : Prop := (v'.ownBlock = v.ownBlock ∧ But (fun k => v.ownBlock = some k) W W') ∨ (∃ g, v'.ownBlock = some g ∧ W.heap.size ≤ g ∧ g < W'.heap.size ∧ Kept W W')
theorem Grw.size {W W' : World} {v v' : Value} (h : Grw W W' v v') : W.heap.size ≤ W'.heap.size := by
  rcases h with ⟨_, h⟩ | ⟨_, _, _, _, h⟩ <;> exact h.size
theorem Grw.blk {W W' : World} {v v' : Value} (h : Grw W W' v v') {b : Nat} (hb : b < W.heap.size) (hn : v.ownBlock ≠ some b) : W'.heap[b]? = W.heap[b]? := by
  rcases h with ⟨_, h⟩ | ⟨_, _, _, _, h⟩
  · exact h.block b hb hn
  · exact h.block_eq hb
theorem own_lt {w : World} {base e size n : Nat} {v : Value} {xs : List Value} (h : w.ownsRow base e size v n xs) {g : Nat} (hg : v.ownBlock = some g) : g < w.heap.size := by
  rcases h.2 with ⟨rfl, _⟩ | ⟨g', cap, cur, rfl, _, hh, _⟩
  · simp [Value.ownBlock] at hg
  · simp only [Value.ownBlock, Option.some.injEq] at hg
    subst hg
    exact (Array.getElem?_eq_some_iff.1 hh).1
/-- one element more in a slice that is owned -/
theorem own_append {P : Program} {t e size bytes : Nat} (E : ElemT P t e size bytes) {W : World} {v : Value} {n : Nat} {xs : List Value} (hv : W.ownsRow 0 e size v n xs) (hn : n < 20000) (hby : bytes ≤ 1000000) {b : Nat} (es : List Value) (hl : es.length = size)
    (hb : ∀ j u, es[j]? = some u → W.cell? ⟨b, j, none⟩ = some u) (h1 : ∀ u ∈ es, u.oneCell' = true) (ty : TypeId) :
    ∃ v' W', (Builtin.append_ #[t, t] ty #[v, .slice (some ⟨b, 0, none⟩) 1 1]).run P W = .ok v' W' ∧ W'.ownsRow 0 e size v' (n + 1) (xs ++ es) ∧ Grw W W' v v' := by
  have hcb : ∀ j u, es[j]? = some u → W.cell? ((⟨b, 0, none⟩ : Addr).add j) = some u := fun j u hu => by rw [Addr.add_mid, Nat.zero_add]; exact hb j u hu
  have hsrc : Src W size (.slice (some ⟨b, 0, none⟩) 1 1) 1 es := ⟨by omega, _, 1, rfl, Nat.le_refl _, by simp, fun b' hb' j u hu => by cases hb'; exact hcb j u hu⟩
  have hbb : (n + 1) * bytes ≤ 140737488355328 := Nat.le_trans (Nat.mul_le_mul (show n + 1 ≤ 20000 by omega) hby) (by decide)
  have fresh : App W W.heap.size e size v n xs → ∃ v' W', (Builtin.append_ #[t, t] ty #[v, .slice (some ⟨b, 0, none⟩) 1 1]).run P W = .ok v' W' ∧ W'.ownsRow 0 e size v' (n + 1) (xs ++ es) ∧ Grw W W' v v' := by
    intro ha
    obtain ⟨v', W', hr, _, hg, hB, hown⟩ := run_append_app (P := P) W E ty W.heap.size v n xs ha _ 1 _ hsrc h1 (by simp only [maxLen]; omega) hbb (Nat.le_refl _)
    have ho := hown (.inl (by decide))
    refine ⟨v', W', hr, ownsRow_base ho (Nat.zero_le _), ?_⟩
    rcases ho.2 with ⟨_, h0⟩ | ⟨g, c, cur, rfl, hge, hh, _⟩
    · omega
    · exact .inr ⟨g, rfl, hge, (Array.getElem?_eq_some_iff.1 hh).1, ⟨hB.os, hB.tape, hB.output, hB.size, fun k hk => hB.block k hk⟩⟩
  have hv0 := hv
  rcases hv.2 with ⟨rfl, h0⟩ | ⟨g, cap, cur, rfl, hbg, hh, hnc, hcm, hcs, htk⟩
  · have hx : xs = [] := List.eq_nil_of_length_eq_zero (by rw [hv.1, h0, Nat.zero_mul])
    subst hx h0
    exact fresh (App.empty W _ _ _)
  · by_cases hfull : n = cap
    · refine fresh (.inr ⟨hv.1, some ⟨g, 0, none⟩, by rw [hfull], by simp, fun b' hb' j u hu => ?_⟩)
      cases hb'
      have hj : j < xs.length := by
        rcases Nat.lt_or_ge j xs.length with h | h
        · exact h
        · rw [List.getElem?_eq_none h] at hu; cases hu
      have hcl : cur = cur.toList.toArray := by simp
      rw [hcl] at hh
      have hj2 : j < n * size := by rw [← hv.1]; exact hj
      rw [Addr.add_mid, Nat.zero_add, cell_of_row _ _ _ _ _ _ hh, ← hu, ← htk, List.getElem?_take, if_pos hj2]
      simp
    · obtain ⟨ht, ⟨i, z, hi, hz, hsz, hby', hzs⟩, hpos⟩ := E
      obtain ⟨W', hr, ho, hg⟩ := run_append_fits (P := P) (w := W) 0 _ ty _ i size ht hi hsz g n cap xs hv0 ⟨b, 0, none⟩ 1 1 es (by omega) hcb h1 (by omega)
      exact ⟨_, W', hr, ho, .inl ⟨rfl, ⟨hg.os, hg.tape, hg.output, hg.size, fun k hk hne => hg.block k hk (fun e => hne e.symm)⟩⟩⟩

/-- a disk of the document -/
structure RMed where
  flu : List (List Int)
  new : List (List Int)
  dead : Bool
  fail : Int
/-- a bank of the document -/
structure RT where
  l : List RMed
  loose : List (Nat × Nat)
  down : Bool
  n : Int
  armed : Int
  mask : Int
def RMed.zero : RMed := ⟨[], [], false, 0⟩
def RMed.fresh (n : Nat) : RMed := ⟨List.replicate n zeroB, List.replicate n zeroB, false, 0⟩
def RT.zero : RT := ⟨[], [], false, 0, 0, 0⟩
def RT.d (T : RT) (k : Nat) : RMed := T.l.getD k RMed.zero
def RT.up (T : RT) (k : Nat) (m : RMed) : RT := { T with l := T.l.set k m }
def RT.add (T : RT) (n : Nat) : RT := { T with l := T.l ++ [RMed.fresh n] }
def pvals (L : List (Nat × Nat)) : List Value := L.flatMap fun p => [.int .i64 (p.1 : Int), .int .i64 (p.2 : Int)]
/-- where a bank's blocks lie: its own; for each disk: it, flushed, newest; both slices -/
structure RLay where
  q : Nat
  D : List (Nat × Nat × Nat)
  Lv : Value
  lv : Value
def rptrs (D : List (Nat × Nat × Nat)) : List Value := D.map fun d => .pointer (some ⟨d.1, 0, none⟩)
def rbank (Y : RLay) (T : RT) : List Value := [Y.Lv, Y.lv, .bool T.down, .int .i64 T.n, .int .i64 T.armed, .int .u64 T.mask]
def rmed (d : Nat × Nat × Nat) (m : RMed) : List Value := [.slice (some ⟨d.2.1, 0, none⟩) m.new.length m.new.length, .slice (some ⟨d.2.2, 0, none⟩) m.new.length m.new.length, .bool m.dead, .int .i64 m.fail]
structure RMed.Ok (m : RMed) : Prop where
  flu : IsSecs m.new.length m.flu
  new : IsSecs m.new.length m.new
  len : m.new.length ≤ 4096
  fail : 0 ≤ m.fail ∧ m.fail < 9223372036854775808
structure RT.Ok (T : RT) : Prop where
  len : T.l.length ≤ 32
  med : ∀ m ∈ T.l, m.Ok
  loose : ∀ p ∈ T.loose, p.1 < T.l.length ∧ p.2 < (T.d p.1).new.length
  many : T.loose.length ≤ 10000
--
--
--
--
--
--
--
--
--
--
/-- block b is one of the bank's -/
def RLay.In (Y : RLay) (b : Nat) : Prop := b = Y.q ∨ Y.Lv.ownBlock = some b ∨ Y.lv.ownBlock = some b ∨ ∃ d ∈ Y.D, b = d.1 ∨ b = d.2.1 ∨ b = d.2.2
section
variable {w w' : World} {Y : RLay} {T : RT}
--
--
--
--
--
--
--
--
--
--
--
--
--
--
--
--
--
--
--
--
--
--
end
section
variable {w : World}
set_option maxHeartbeats 1000000
set_option maxRecDepth 100000
--
--
--
--
--
--
--
--
--
--
end
--
--
section
variable {w0 W W' : World} {R : Nat → Prop} {q : Nat} {T : RT}
--
--
--
--
--
--
--
--
--
end
section
variable {P : Program} {ops : Array Oper} {Q : Exit → Act → World → Prop} {md : Region.Mode} {S : World → Prop} {s : Nat}
/-- two rows made in whatever order -/
theorem wpAnyE_makes2 {i j : Nat} {oi oj : Oper} {di dj mi mj n : Nat} {ei ej : TypeId} {Ci Cj : List Value} {fuel : Nat} {L0 Li Lj L2 : Array Bool} {A : Act} {w : World}
    (hoi : ops[i]? = some oi) (hoj : ops[j]? = some oj) (r0 : Region.ready md ops L0 = [i, j])
    (ei1 : L0.setIfInBounds i true = Li) (ej1 : L0.setIfInBounds j true = Lj) (ri : Region.ready md ops Li = [j]) (rj : Region.ready md ops Lj = [i])
    (eij : Li.setIfInBounds j true = L2) (eji : Lj.setIfInBounds i true = L2)
    (Mi : Makes P oi di mi n ei Ci) (Mj : Makes P oj dj mj n ej Cj) (hn : n ≤ 1000000)
    (vi : A.eval (.tmp mi) = .int .i64 (n : Int)) (vj : A.eval (.tmp mj) = .int .i64 (n : Int))
    (nd : di ≠ dj ∧ di ≠ mj ∧ dj ≠ mi) (hS : ∀ w', Kept w w' → S w')
    (H : ∀ (p q : Nat) (w3 : World), w.heap.size ≤ p → w.heap.size ≤ q → p ≠ q → w3.heap[p]? = some (.cells Ci.toArray ei (0, 0)) → w3.heap[q]? = some (.cells Cj.toArray ej (0, 0)) → Kept w w3 →
      wpAnyE P md ops Q S s fuel L2 ((A.put (some di) (.slice (some ⟨p, 0, none⟩) n n)).put (some dj) (.slice (some ⟨q, 0, none⟩) n n)) w3) :
    wpAnyE P md ops Q S s (fuel + 2) L0 A w := by
  obtain ⟨n1, n4, n6⟩ := nd
  refine wpAnyE_step r0 (by simp) fun x hx => ?_
  simp only [List.mem_cons, List.mem_nil_iff, or_false] at hx
  rcases hx with rfl | rfl
  · refine ⟨oi, hoi, Mi.g, fun K hK => Mi.wp hn vi fun w1 b1 k1 s1 => hK _ _ (fun _ => hS _ k1) ?_⟩
    rw [ei1]
    refine wpAnyE_step ri (by simp) fun y hy => ?_
    obtain rfl : y = j := by simpa using hy
    refine ⟨oj, hoj, Mj.g, fun K hK => Mj.wp hn ((put_eval A n4 _).trans vj) fun w2 b2 k2 s2 => hK _ _ (fun _ => hS _ (k1.trans k2)) ?_⟩
    rw [eij]
    exact H _ _ w2 (by omega) (by omega) (by omega) (k2.block b1) b2 (k1.trans k2)
  · refine ⟨oj, hoj, Mj.g, fun K hK => Mj.wp hn vj fun w1 b1 k1 s1 => hK _ _ (fun _ => hS _ k1) ?_⟩
    rw [ej1]
    refine wpAnyE_step rj (by simp) fun y hy => ?_
    obtain rfl : y = i := by simpa using hy
    refine ⟨oi, hoi, Mi.g, fun K hK => Mi.wp hn ((put_eval A n6 _).trans vi) fun w2 b2 k2 s2 => hK _ _ (fun _ => hS _ (k1.trans k2)) ?_⟩
    rw [eji, put_comm A n1.symm]
    exact H _ _ w2 (by omega) (by omega) (by omega) b2 (k2.block b1) (k1.trans k2)
end
--
--
--
--
--
--
--
--
--
theorem RT.add_len (T : RT) (n : Nat) : (T.add n).l.length = T.l.length + 1 := by simp [RT.add]
theorem RT.add_old (T : RT) (n : Nat) {k : Nat} (hk : k < T.l.length) : (T.add n).d k = T.d k := by
  unfold RT.add RT.d
  rw [List.getD_eq_getElem?_getD, List.getD_eq_getElem?_getD, List.getElem?_append_left hk]
theorem RT.add_new (T : RT) (n : Nat) : (T.add n).d T.l.length = RMed.fresh n := by
  unfold RT.add RT.d
  rw [List.getD_eq_getElem?_getD, List.getElem?_append_right (Nat.le_refl _)]; simp
theorem block_ty {w : World} {a b : Nat} {cs cs' : Array Value} {t t' : TypeId} (ha : w.heap[a]? = some (.cells cs t (0, 0))) (hb : w.heap[b]? = some (.cells cs' t' (0, 0))) (ht : t ≠ t') : a ≠ b := by
  rintro rfl
  rw [ha] at hb
  injection hb with hb
  injection hb with _ hb
  exact ht hb
section
variable {w w5 w6 w7 : World} {Y : RLay} {T : RT} {n m p q : Nat} {v' : Value}
--
--
--
--
--
--
--
--
--
--
--
--
--
--
--
--
--
--
--
--
--
--
--
--
--
--
--
--
--
--
--
--
--
--
--
--
--
--
--
--
--
--
--
--
--
--
--
--
--
--
--
--
--
--
--
--
--
--
--
--
--
--
--
--
--
--
--
--
--
--
--
--
--
--
--
--
--
--
--
--
--
--
--
--
--
--
--
--
--
--
end
section
variable {w : World} {Y : RLay} {T : RT}
set_option maxHeartbeats 1000000
set_option maxRecDepth 100000
--
--
--
--
--
--
--
--
--
--
--
--
--
--
--
--
--
--
--
--
--
--
--
--
--
--
--
--
--
--
--
--
--
--
--
--
--
--
--
--
--
--
--
--
--
--
--
--
--
--
--
--
--
--
--
--
--
--
--
--
--
--
--
--
--
--
--
--
--
--
--
--
--
--
--
--
--
--
--
--
--
--
--
--
--
--
--
--
--
--
--
--
--
--
--
--
--
--
--
--
--
--
--
--
--
--
--
--
--
--
--
--
--
--
--
--
--
--
--
--
--
--
--
--
--
--
end
section
variable {w0 W : World} {R : Nat → Prop} {q : Nat} {T : RT}
--
--
--
--
--
--
--
--
--
--
--
--
end
end Go.Proofs.YtpeclkhppgabfaaDoor
/- Slices of sectors in memory, in a block of their own beside a bank. -/
namespace Go.Proofs.YtpeclkhppgabfaaDoor
open Go.RowKit
set_option linter.unusedVariables false
set_option linter.unusedSimpArgs false

theorem ty_secs : ElemT Tryd.prog 65 39 64 64 := by
  refine ⟨Tryd.underlying65, ?_, by decide⟩
  have h1 := secs_info
  cases hi : Tryd.prog.info? 39 with
  | none => simp [hi] at h1
  | some i =>
    simp only [hi, Option.map_some, Option.some.injEq, Prod.mk.injEq] at h1
    exact ⟨i, _, rfl, h1.1, h1.2.1, h1.2.2, by decide⟩
/-- the slice v, in a block of its own, reads L -/
def SL (W : World) (v : Value) (L : List (List Int)) : Prop := W.ownsRow 0 39 64 v L.length (secs L) ∧ ∀ s ∈ L, s.length = 64
theorem SL.nil (W : World) : SL W (.slice none 0 0) [] := ⟨World.ownsRow_nil W _ _ _, fun s h => by cases h⟩
theorem SL.kept {W W' : World} {v : Value} {L : List (List Int)} (h : SL W v L) (hk : Kept W W') : SL W' v L := ⟨ownsRow_kept h.1 hk, h.2⟩
theorem SL.same {W W' : World} {v : Value} {L : List (List Int)} (h : SL W v L) (hs : ∀ g, v.ownBlock = some g → W'.heap[g]? = W.heap[g]?) : SL W' v L := ⟨own_same h.1 hs, h.2⟩
theorem SL.form {W : World} {v : Value} {L : List (List Int)} (h : SL W v L) : ∃ ao cap, v = .slice ao L.length cap ∧ ∀ i (hi : i < L.length), ∃ g, ao = some ⟨g, 0, none⟩ ∧ Cells W g (i * 64) (u8s L[i]) ∧ L[i].length = 64 := by
  rcases owns_form h.1 with ⟨rfl, h0, _⟩ | ⟨g, cap, rfl, hb, hg, hn, hc⟩
  · exact ⟨none, 0, by rw [h0], fun i hi => by omega⟩
  · refine ⟨_, cap, rfl, fun i hi => ⟨g, rfl, ?_, h.2 _ (List.getElem_mem _)⟩⟩
    have := cells_sec hc h.2 hi
    rwa [List.getD_eq_getElem?_getD, List.getElem?_eq_getElem hi, Option.getD_some] at this
theorem secs_snoc (L : List (List Int)) (s : List Int) : secs (L ++ [s]) = secs L ++ u8s s := by simp [secs, u8s]
theorem fill_sec (cells : Array Value) (s : List Int) (hc : cells.size = 64) (hs : s.length = 64) : Instr.fill (fun i => some (i * 64, 64)) cells [(0, .agg (u8s s).toArray)] = some (u8s s).toArray := by
  have hl := u8s_length s
  obtain ⟨r, hr, hsz, hk⟩ := Great.fill_dense (s := 64) (by decide) [.agg (u8s s).toArray] 0 cells (fun v hv => by rw [List.mem_singleton.1 hv]; show (u8s s).toArray.size = 64; rw [List.size_toArray, hl, hs]) (by rw [hc, List.length_singleton]; decide)
  refine hr.trans (congrArg some (Array.ext_getElem? fun k => ?_))
  rw [hk k]
  by_cases h : k < 64
  · rw [if_pos ⟨by omega, by show k < (0 + 1) * 64; omega⟩, Nat.div_eq_of_lt h, Nat.mod_eq_of_lt h]; rfl
  · rw [if_neg (by show ¬ (0 * 64 ≤ k ∧ k < (0 + 1) * 64); omega), Array.getElem?_eq_none (by omega), Array.getElem?_eq_none (by rw [List.size_toArray, hl, hs]; omega)]
/-- '[]api.Sector{s}', and what is appended to -/
theorem wpList_one_sec {ops : Array Oper} {rest : List Oper} {o : Oper} {a : Act} {w : World} {Q : Exit → Act → World → Prop} (hg : o.guard = none) (x : Operand) (ho : o.op = .buildSlice 65 1 #[(0, x)])
    (s : List Int) (hs : s.length = 64) (hx : a.eval x = .agg (u8s s).toArray)
    (h : ∀ w1, Hid (w1.heap[w.heap.size]? = some (.cells (u8s s).toArray 39 (0, 0))) → w.heap.size < w1.heap.size → Kept w w1 → wpList Tryd.prog ops Q rest (a.put o.dst (.slice (some ⟨w.heap.size, 0, none⟩) 1 1)) w1) : wpList Tryd.prog ops Q (o :: rest) a w := by
  have h1 := secs_info
  cases hi : Tryd.prog.info? 39 with
  | none => simp [hi] at h1
  | some i =>
    simp only [hi, Option.map_some, Option.some.injEq, Prod.mk.injEq] at h1
    refine wpList_buildSlice hg _ 39 1 _ ho (u8s s).toArray i _ Tryd.underlying65 hi h1.1 (by rw [h1.2.1]; decide) (by rw [h1.2.1]; decide) ?_ (h _ (Lib.hid (heap_alloc_new w _)) (by simp) ((Kept.refl _).alloc _))
    have he : (#[(0, x)].map fun (i, x) => ((i, a.eval x) : Nat × Value)).toList = [(0, .agg (u8s s).toArray)] := by simp [hx]
    rw [he, h1.2.1]
    exact fill_sec _ s (by simp) hs
section
variable {w0 W W' : World} {R : Nat → Prop} {q : Nat} {T : BankT} {v v' : Value}
theorem BK.grw (h : BK w0 R W q T) (hg : Grw W W' v v') (hR : ∀ k, v.ownBlock = some k → R k) (h0 : ∀ k, v.ownBlock = some k → w0.heap.size ≤ k) : BK w0 (fun k => R k ∨ v'.ownBlock = some k) W' q T := by
  rcases hg with ⟨e, hb⟩ | ⟨g, e, h1, h2, hk⟩
  · obtain ⟨Y, hy, h⟩ := h
    refine ⟨Y, hy, ⟨h.d.same fun b hb' => hb.block b (h.d.lt hb') (fun e' => (h.off b (hR b e')).2 hb'), But.to_kept h.keeps hb h0, h.own, fun k hk => ?_⟩⟩
    have hk' : R k := by
      rcases hk with hk | hk
      · exact hk
      · exact hR k (e ▸ hk)
    exact ⟨Nat.lt_of_lt_of_le (h.off k hk').1 hb.size, (h.off k hk').2⟩
  · refine (h.more hk g h1 h2).less fun k hk' => ?_
    rcases hk' with hk' | hk'
    · exact .inl hk'
    · rw [e] at hk'; exact .inr (by injection hk' with hk'; exact hk'.symm)
/-- one sector more in a slice beside the bank -/
theorem wpList_append_sec {ops : Array Oper} {rest : List Oper} {o : Oper} {a : Act} {Q : Exit → Act → World → Prop} (hgd : o.guard = none) (s x : Operand) (ho : o.op = .call { callee := .builtin .append, args := #[s, x], argTypes := #[65, 65] })
    (L : List (List Int)) (hs : a.eval s = v) (hv : SL W v L) (hl : L.length < 20000) (b : Nat) (hx : a.eval x = .slice (some ⟨b, 0, none⟩) 1 1) (z : List Int) (hz : z.length = 64) (hb : W.heap[b]? = some (.cells (u8s z).toArray 39 (0, 0)))
    (h : ∀ v' W', SL W' v' (L ++ [z]) → Grw W W' v v' → wpList Tryd.prog ops Q rest (a.put o.dst v') W') : wpList Tryd.prog ops Q (o :: rest) a W := by
  refine wpList_plain hgd fun K hK => ?_
  obtain ⟨v', W', hr, h1, h2⟩ := own_append ty_secs (b := b) hv.1 hl (by decide) (u8s z) (by rw [u8s_length, hz]) (fun j u hu => by
    have := cell_of_row W b j _ _ _ hb
    rw [this]; simpa using hu) (u8s_one _) o.type
  unfold Oper.wp execOp
  simp only [ho, resolve, invoke, builtin, Sem.run_bind, Sem.run_pure, Result.andThen_ok, List.map_toArray, List.map_cons, List.map_nil, hs, hx, hr]
  refine hK _ _ (h v' W' ⟨by rw [secs_snoc, List.length_append]; exact h1, fun t ht => ?_⟩ h2)
  rcases List.mem_append.1 ht with ht | ht
  · exact hv.2 t ht
  · rw [List.mem_singleton.1 ht]; exact hz
end
end Go.Proofs.YtpeclkhppgabfaaDoor
/- Rules: sectors and places loaded and compared in a drawn region; what Flush and Fail leave as it is. -/
namespace Go.Proofs.YtpeclkhppgabfaaDoor
open Go.RowKit
set_option linter.unusedVariables false
set_option linter.unusedSimpArgs false

theorem exec_load_sec {W : World} {a : Act} {o : Oper} (x : Operand) (ho : o.op = .load 39 x) (b : Nat) (hx : a.eval x = .pointer (some ⟨b, 0, none⟩)) (xs : List Int) (hl : xs.length = 64) (hc : Cells W b 0 (u8s xs)) :
    (execOp a.eval o).run Tryd.prog W = .ok (.value (.agg (u8s xs).toArray)) W := by
  obtain ⟨⟨d, hd1, hd2⟩, hs⟩ := ty_sec
  unfold execOp
  simp only [ho, hx, Instr.loadAt, Instr.sureAddr, Sem.run_bind, Sem.run_pure, Result.andThen_ok, run_loadVar_mid W b 0 39 (u8s xs) d (rangeAt_of_cells hc) hd1 hd2 (by rw [hs, u8s_length, hl])]
theorem exec_cmp_secN {W : World} {a : Act} {o : Oper} (x y : Operand) {t' : TypeId} (ho : o.op = .binOp .neq 39 x y t') (xs : List Int) (hl : xs.length = 64) (hx : a.eval x = .agg (u8s xs).toArray) (hy : a.eval y = .agg (u8s xs).toArray) :
    (execOp a.eval o).run Tryd.prog W = .ok (.value (.bool false)) W := by
  have heq := run_equal_secA xs xs hl hl W
  unfold execOp
  simp only [ho, hx, hy, Sem.run_bind]
  rw [run_eqGuard_agg _ _ _ _ _ _ _ eqg_sec]
  simp only [Result.andThen_ok]
  rw [run_neq_struct, heq]
  simp only [Result.andThen_ok, Sem.run_pure, beq_self_eq_true, Bool.not_true]
theorem exec_cmp_secE {W : World} {a : Act} {o : Oper} (x y : Operand) {t' : TypeId} (ho : o.op = .binOp .eql 39 x y t') (xs : List Int) (hl : xs.length = 64) (hx : a.eval x = .agg (u8s xs).toArray) (hy : a.eval y = .agg (u8s xs).toArray) :
    (execOp a.eval o).run Tryd.prog W = .ok (.value (.bool true)) W := by
  have heq := run_equal_secA xs xs hl hl W
  unfold execOp
  simp only [ho, hx, hy, Sem.run_bind]
  rw [run_eqGuard_agg _ _ _ _ _ _ _ eqg_sec]
  simp only [Result.andThen_ok]
  rw [run_eql_struct, heq]
  simp only [Result.andThen_ok, Sem.run_pure, beq_self_eq_true]
theorem eqg_plc : Tryd.prog.eqGuardType Tryd.prog.depth 36 = false := by kernel_rfl
theorem plc_fields : (Tryd.prog.fieldsOf 36).toList.map (fun f => (f.name, f.type, f.offset)) = [("Disk", 3, 0), ("At", 3, 1)] := by kernel_rfl
theorem run_equal_plc (w : World) (a b c d : Int) : (Op.equalIn 10000 36 (.agg #[.int .i64 a, .int .i64 b]) (.agg #[.int .i64 c, .int .i64 d])).run Tryd.prog w = .ok (a == c && b == d) w := by
  have hr := run_equalIn_struct (P := Tryd.prog) w 9999 36 #[.int .i64 a, .int .i64 b] #[.int .i64 c, .int .i64 d] (by kernel_rfl) (by kernel_rfl)
  rw [hr]
  have hf := plc_fields
  generalize (Tryd.prog.fieldsOf 36).toList = fs at hf ⊢
  rcases fs with _ | ⟨f, _ | ⟨g, _ | ⟨h, fs⟩⟩⟩
  · simp at hf
  · simp at hf
  · skip
    simp only [List.map_cons, List.map_nil, List.cons.injEq, Prod.mk.injEq, and_true] at hf
    obtain ⟨⟨f1, f2, f3⟩, g1, g2, g3⟩ := hf
    have hi : Tryd.prog.underlying 3 = some (.int .i64) := Tryd.underlying3
    have pa : ∀ (x y : Int) (ww : World), (part 3 #[.int .i64 x, .int .i64 y] 0).run Tryd.prog ww = .ok (.int .i64 x) ww := fun x y ww => by simp [part, isAgg, run_underlying hi]
    have pb : ∀ (x y : Int) (ww : World), (part 3 #[.int .i64 x, .int .i64 y] 1).run Tryd.prog ww = .ok (.int .i64 y) ww := fun x y ww => by simp [part, isAgg, run_underlying hi]
    have pe : ∀ (x y : Int) (ww : World), (Op.equalIn 9999 3 (.int .i64 x) (.int .i64 y)).run Tryd.prog ww = .ok (x == y) ww := fun x y ww => run_equalIn_int ww 9998 3 .i64 .i64 x y hi
    simp only [Op.eqFields, f1, f2, f3, g1, g2, g3, Sem.run_bind, pa, pb, pe, Result.andThen_ok, Sem.run_ite, Sem.run_pure]
    cases (a == c) <;> cases (b == d) <;> simp
  · simp at hf
theorem flushC_rest (T : BankT) (d : Int) : (T.flushC d).1.clock ≤ T.clock + 1 ∧ (T.flushC d).1.writes ≤ T.writes + 1 := by
  unfold BankT.flushC
  split
  · exact ⟨by show T.clock ≤ T.clock + 1; omega, by show T.writes ≤ T.writes + 1; omega⟩
  · exact ⟨by show T.clock ≤ T.clock + 1; omega, by show T.writes ≤ T.writes + 1; omega⟩
theorem failC_rest (T : BankT) (d : Int) : (T.failC d).1.clock ≤ T.clock + 1 ∧ (T.failC d).1.writes ≤ T.writes + 1 := by
  unfold BankT.failC
  split
  · exact ⟨by show T.clock ≤ T.clock + 1; omega, by show T.writes ≤ T.writes + 1; omega⟩
  · exact ⟨by show T.clock ≤ T.clock + 1; omega, by show T.writes ≤ T.writes + 1; omega⟩
theorem start_rest (T : BankT) : T.start.clock ≤ T.clock + 1 ∧ T.start.writes ≤ T.writes + 1 :=
  ⟨by show T.clock ≤ T.clock + 1; omega, by show T.writes ≤ T.writes + 1; omega⟩
theorem crash_rest2 {T : BankT} (h : T.Inv) (m : Int) : (T.crash m).clock ≤ T.clock + 1 ∧ (T.crash m).writes ≤ T.writes + 1 := by
  obtain ⟨h1, h2⟩ := BankT.crash_clock h.ok m
  exact ⟨by rw [h1]; omega, by rw [h2]; omega⟩
end Go.Proofs.YtpeclkhppgabfaaDoor
/- record.Split walked. -/
namespace Go.Proofs.YtpeclkhppgabfaaDoor
open Go.RowKit
set_option linter.unusedVariables false
set_option linter.unusedSimpArgs false

theorem wpList_make_secsR {ops : Array Oper} {rest : List Oper} {o : Oper} {a : Act} {w : World} {Q : Exit → Act → World → Prop} (hgd : o.guard = none) (x y : Operand) (ho : o.op = .makeSlice 65 x y) (n : Nat) (hn : n ≤ 4096) (hx : a.eval x = .int .i64 (n : Int)) (hy : a.eval y = .int .i64 (n : Int))
    (h : ∀ w1, Hid (w1.heap[w.heap.size]? = some (.cells (secs (List.replicate n zeroB)).toArray 39 (0, 0))) → w.heap.size < w1.heap.size → Kept w w1 → wpList Tryd.prog ops Q rest (a.put o.dst (.slice (some ⟨w.heap.size, 0, none⟩) n n)) w1) : wpList Tryd.prog ops Q (o :: rest) a w := by
  refine wpList_plain hgd fun K hK => ?_
  have h1 := secs_info
  cases hi : Tryd.prog.info? 39 with
  | none => simp [hi] at h1
  | some i =>
    simp only [hi, Option.map_some, Option.some.injEq, Prod.mk.injEq] at h1
    have hr := run_make (P := Tryd.prog) w 65 39 i _ Tryd.underlying65 hi h1.1 .i64 .i64 n n (by omega) (Int.le_refl _) (by rw [h1.2.2]; omega) (by omega)
    have h5 : madeCells (Value.agg (List.replicate 64 (.int .u8 0)).toArray).cells (n * i.size) = (secs (List.replicate n zeroB)).toArray := by
      rw [h1.2.1, secs_zero]
      exact made_const (by decide) (fun i h => by have h' : i < (List.replicate 64 (Value.int IntKind.u8 0)).length := h; exact (List.getElem_replicate h')) _
    simp only [Int.toNat_natCast, h5] at hr
    unfold Oper.wp execOp
    simp only [ho, hx, hy, Sem.run_bind, hr, Result.andThen_ok, Sem.run_pure]
    exact hK _ _ (h _ (Lib.hid (heap_alloc_new w _)) (by simp) ((Kept.refl _).alloc _))

theorem add_none (b o j : Nat) : (⟨b, o, none⟩ : Addr).add j = ⟨b, o + j, none⟩ := by
  unfold Addr.add
  split
  · rename_i h; subst h; rfl
  · rfl
theorem Src.spot {w : World} {ax : Option Addr} {n c : Nat} {xs : List Value} (h : Src w 1 (.slice ax n c) n xs) (h0 : 0 < n) : ∃ b off, ax = some ⟨b, off, none⟩ := by
  obtain ⟨hl, ax', c', he, _, hn, hc⟩ := h
  cases he
  rcases ax with _ | ⟨b, off, spot⟩
  · have := (hn rfl).1; omega
  · have := hc _ rfl 0 xs[0] (List.getElem?_eq_getElem (by omega))
    have hs := World.cell?_spot this
    have : spot = none := by simpa [Addr.add] using hs
    exact ⟨b, off, by rw [this]⟩
theorem piece_slice {w : World} (ax : Option Addr) (c : Nat) (b : List Int) (hs : Src w 1 (.slice ax b.length c) b.length (u8s b)) (l h : Nat) (h1 : l ≤ h) (h2 : h ≤ b.length) :
    ∃ ax' c', (∀ W, (Instr.slice 25 (.slice ax b.length c) (some (.int .i64 (l : Int))) (some (.int .i64 (h : Int))) none).run Tryd.prog W = .ok (.slice ax' (h - l) c') W) ∧ Src w 1 (.slice ax' (h - l) c') (h - l) (u8s ((b.drop l).take (h - l))) := by
  have hb := ty_bytes
  obtain ⟨i, z, hi, _, hsz, _, _⟩ := hb.i
  have he : Tryd.prog.elem 25 = 5 := by kernel_rfl
  have ht : Tryd.prog.underlying 25 = some (.slice (Tryd.prog.elem 25)) := by rw [he]; exact hb.ht
  obtain ⟨hl, ax0, c0, hv, hcap, hnone, hc⟩ := id hs
  cases hv
  refine ⟨if c = l then ax else ax.map (·.add (l * 1)), c - l, fun W => ?_, ?_⟩
  · have := run_slice_lh (P := Tryd.prog) W 25 ax b.length c ht .i64 .i64 (l : Int) (h : Int) (by omega) (by omega) (by omega)
    rw [this, he]
    simp [sizeOf, typeInfo, hi, hsz, sliced]
  · have hlen : ((b.drop l).take (h - l)).length = h - l := by rw [List.length_take, List.length_drop]; omega
    refine ⟨by rw [u8s_length, hlen]; omega, _, _, rfl, by omega, fun hn => ?_, fun ad had j u hj => ?_⟩
    · have hax : ax = none := by
        by_cases e : c = l
        · rw [if_pos e] at hn; exact hn
        · rw [if_neg e] at hn; simpa using hn
      have := hnone hax; omega
    · have hjl : j < h - l := by have := (List.getElem?_eq_some_iff.1 hj).1; rw [u8s_length, hlen] at this; exact this
      obtain ⟨B, off, rfl⟩ := hs.spot (by omega)
      rw [if_neg (by omega)] at had
      simp only [Option.map_some, Option.some.injEq] at had
      have hu : (u8s b)[l + j]? = some u := by
        have e : u8s ((b.drop l).take (h - l)) = ((u8s b).drop l).take (h - l) := by simp [u8s]
        rw [e, List.getElem?_take] at hj
        rw [if_pos hjl, List.getElem?_drop] at hj
        exact hj
      have := hc _ rfl _ u hu
      rw [← had]
      have e : ((⟨B, off, none⟩ : Addr).add (l * 1)).add j = (⟨B, off, none⟩ : Addr).add (l + j) := by
        rw [Nat.mul_one, add_none, add_none, add_none, Nat.add_assoc]
      rw [e]; exact this
/-- the row as it is filled -/
def splTo (gen num : Int) (b : List Int) (k : Nat) : List (List Int) := (List.range (partsN b.length)).map fun (i : Nat) => if i < k then partB gen num (i : Int) (partsN b.length : Int) (pieceB b i) else zeroB
theorem splTo_len (gen num : Int) (b : List Int) (k : Nat) : (splTo gen num b k).length = partsN b.length := by simp [splTo]
theorem splTo_zero (gen num : Int) (b : List Int) : splTo gen num b 0 = List.replicate (partsN b.length) zeroB := by
  unfold splTo
  simp [List.map_const']
theorem splTo_set (gen num : Int) (b : List Int) {k : Nat} (hk : k < partsN b.length) : (splTo gen num b k).set k (partB gen num (k : Int) (partsN b.length : Int) (pieceB b k)) = splTo gen num b (k + 1) := by
  refine List.ext_getElem (by simp [splTo]) fun i h1 h2 => ?_
  rw [List.length_set, splTo_len] at h1
  rw [List.getElem_set]
  by_cases e : k = i
  · subst e
    simp [splTo]
  · rw [if_neg e]
    simp only [splTo, List.getElem_map, List.getElem_range]
    by_cases hl : i < k
    · rw [if_pos hl, if_pos (by omega)]
    · rw [if_neg hl, if_neg (by omega)]
theorem splTo_all (gen num : Int) (b : List Int) : splTo gen num b (partsN b.length) = splitB gen num b := by
  unfold splTo splitB
  refine List.map_congr_left fun i hi => ?_
  rw [List.mem_range] at hi
  rw [if_pos hi]
theorem splTo_sec {gen num : Int} {b : List Int} (k : Nat) : ∀ s ∈ splTo gen num b k, s.length = 64 := by
  intro s hs
  simp only [splTo, List.mem_map, List.mem_range] at hs
  obtain ⟨i, _, rfl⟩ := hs
  split
  · exact partB_len _ _ _ _ (by rw [pieceB_len]; omega)
  · exact zeroB_length
theorem piece_eq (b : List Int) {k h : Nat} (hh : h = min b.length ((k + 1) * 53)) (hk : k * 53 ≤ b.length) : (b.drop (k * 53)).take (h - k * 53) = pieceB b k := by
  unfold pieceB
  by_cases e : (k + 1) * 53 ≤ b.length
  · rw [show h - k * 53 = 53 by omega]
  · rw [List.take_of_length_le (by rw [List.length_drop]; omega), List.take_of_length_le (by rw [List.length_drop]; omega)]

set_option maxHeartbeats 2000000 in
set_option maxRecDepth 100000 in
theorem record_Split (gen num : Int) (sv : Value) (b : List Int) (w : World) (hs : Src w 1 sv b.length (u8s b)) (hb : b.length ≤ 2120) (hg : 0 ≤ gen ∧ gen < 4294967296) (hn : 0 ≤ num ∧ num < 4294967296) :
    Calls Tryd.prog 33 #[.int .i64 gen, .int .i64 num, sv] w fun e w' => e = .returned (.slice (some ⟨w.heap.size, 0, none⟩) (partsN b.length) (partsN b.length)) ∧ w'.heap[w.heap.size]? = some (.cells (secs (splitB gen num b)).toArray 39 (0, 0)) ∧ Kept w w' := by
  obtain ⟨p1, p2, p3, p4, p5⟩ := partsN_pos hb
  obtain ⟨hl, ax, c, rfl, hlc, hnone, hc⟩ := id hs
  have HS := Lib.hid hs; clear hs
  have hP := fun w' => record_Parts b.length (by omega) w'
  have HP := Lib.hid hP; clear hP
  obtain ⟨hg0, hg1⟩ := hg
  obtain ⟨hn0, hn1⟩ := hn
  have HN := Lib.hid hnone; clear hnone
  have HC := Lib.hid hc; clear hc
  have hN0 : ((partsN b.length : Int) == 0) = false := by simp; omega
  have hmin : ¬ (min gen num < 0) := by omega
  have hmax : ¬ (4294967295 < max gen num) := by omega
  have HP5 := Lib.hid p5; clear p5
  have HMG : Hid (mayPut gen 4 = true) := Lib.hid ((mayPut_iff gen 4).2 ⟨by decide, by decide, hg0, by have : (2 : Int) ^ (8 * (4 : Int)).toNat = 4294967296 := by decide
                                                                                                       omega⟩)
  have HMN : Hid (mayPut num 4 = true) := Lib.hid ((mayPut_iff num 4).2 ⟨by decide, by decide, hn0, by have : (2 : Int) ^ (8 * (4 : Int)).toNat = 4294967296 := by decide
                                                                                                       omega⟩)
  clear hl
  go_enter Tryd.func33, Tryd.ntmps33
  go_wp2_with (first | (go_at_call 26; refine (HP.out _).mono ?_; rintro e w' ⟨rfl, rfl⟩) | (refine wpList_make_secsR rfl _ _ rfl (partsN b.length) (by omega) rfl rfl ?_; intro w1 hz1 hs1 hk1; refine Hid.out ?_))
  refine Lib.hid ?_
  have hcs1 : ∀ j u, (secs (List.replicate (partsN b.length) zeroB))[j]? = some u → w1.cell? ⟨w.heap.size, j, none⟩ = some u := by
    intro j u hj
    have := cell_of_row w1 w.heap.size j _ _ _ hz1.out
    rw [this]; simpa using hj
  have HZ1 := hz1
  have HK1 := Lib.hid hk1
  clear hz1 hs1 hk1 hcs1
  go_wp2
  clear hmin hmax hN0 HP
  go_loopw [32] (fun i wr => ∃ k : Nat, k ≤ partsN b.length ∧ i = .int .i64 k ∧ Hid (wr.heap[w.heap.size]? = some (.cells (secs (splTo gen num b k)).toArray 39 (0, 0))) ∧ Hid (Kept w wr)) (fun i _ => partsN b.length - (intOf i).toNat)
  case atStart => exact ⟨0, Nat.zero_le _, rfl, Lib.hid (by rw [splTo_zero]; exact HZ1.out), HK1⟩
  case round =>
    clear HZ1 HK1
    obtain ⟨k, hk, rfl, HZ, HK⟩ := hrel
    by_cases hlt : k < partsN b.length
    · have hk53 : k * 53 ≤ b.length := by
        have : k * 53 ≤ (partsN b.length - 1) * 53 := Nat.mul_le_mul_right _ (by omega)
        omega
      obtain ⟨h, hh⟩ : ∃ h, h = min b.length ((k + 1) * 53) := ⟨_, rfl⟩
      have hpe := piece_eq b hh hk53
      obtain ⟨ax', c', hrun, hsrc⟩ := piece_slice ax c b HS.out (k * 53) h (by omega) (by omega)
      rw [hpe] at hsrc
      have hpl : (pieceB b k).length = h - k * 53 := by rw [pieceB_len]; omega
      have e1 : ((k * 53 : Nat) : Int) = (k : Int) * 53 := by omega
      have e2 : (h : Int) = min (b.length : Int) (((k : Int) + 1) * 53) := by rw [hh]; omega
      rw [e1, e2] at hrun
      have HP1 := Lib.hid hpl
      have hp53 : (pieceB b k).length ≤ 53 := by rw [pieceB_len]; omega
      rw [← hpl] at hrun hsrc
      obtain ⟨pl, hpl2⟩ : ∃ pl, (pieceB b k).length = pl := ⟨_, rfl⟩
      have HPL := Lib.hid hpl2
      have HSET := Lib.hid (splTo_set gen num b hlt)
      have HSRC := Lib.hid (hsrc.kept HK.out)
      rw [hpl2] at hrun HSRC hp53
      clear hpe hpl e1 e2 hpl2 hh HP1 hsrc
      have HPT := Lib.hid (partB_len gen num (k : Int) (partsN b.length : Int) (b := pieceB b k) (by rw [HPL.out]; exact hp53))
      have HSL := Lib.hid (splTo_sec (gen := gen) (num := num) (b := b) k)
      have HSN := Lib.hid (splTo_len gen num b k)
      go_wp2_with fail
      refine Calls.mono (record_part ⟨gen, num, (k : Int), (partsN b.length : Int), (pl : Int)⟩ (.slice ax' pl c') (pieceB b k) wr (by rw [HPL.out]; exact HSRC.out) (by rw [HPL.out]; exact hp53) HMG.out HMN.out (by rw [HPL.out])) ?_
      rintro e w2 ⟨rfl, hk2⟩
      have HZ2 := Lib.hid (hk2.block HZ.out)
      have HK2 := Lib.hid (HK.out.trans hk2)
      simp only [] at HPT ⊢
      generalize hPT : partB gen num (k : Int) (partsN b.length : Int) (pieceB b k) = pt at *
      clear hk2 HZ HK hPT
      go_wp2_with (refine stop_at (o := ⟨none, .store _ _ _, _, _, _, _⟩) ?_)
      refine Stop.mk ?_
      refine wpList_store_agg rfl _ _ rfl ty_sec w.heap.size (k * 64) rfl (u8s pt) rfl (by rw [u8s_length, HPT.out]) (u8s_one _) (secs (splTo gen num b k)) _ HZ2.out (by rw [secs_length _ HSL.out, HSN.out]; omega) ?_
      intro w3 hw3
      rw [splice_flat _ HSL.out k (by rw [HSN.out]; exact hlt) pt HPT.out, HSET.out] at hw3
      have HZ3 := Lib.hid hw3.blk
      have HK3 := Lib.hid (hw3.kept HK2.out (Nat.le_refl _))
      clear hw3
      go_wp2
      go_roundw
      case rel => exact ⟨k + 1, hlt, by go_num, HZ3, HK3⟩
      case measure => simp [intOf]; omega
    · have hkn : k = partsN b.length := by omega
      have HKN := Lib.hid hkn
      have hge : partsN b.length ≤ k := by omega
      clear hkn
      go_wp2
      go_ret
      exact ⟨rfl, by have := HZ.out; rw [HKN.out, splTo_all] at this; exact this, HK.out⟩
end Go.Proofs.YtpeclkhppgabfaaDoor
