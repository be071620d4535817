/- A disk.Bank in plain Lean: what its calls do at each place. -/
import Derived.Test.YtglplhmclfekfaaGreatDkx
namespace Go.Proofs.YtglplhmclfekfaaGreat
open Go.RowKit
set_option linter.unusedVariables false
set_option linter.unusedSimpArgs false

/-- what is flushed at a place, what is newest there, since when it is loose -/
def BankT.F (T : BankT) (d k : Nat) : List Int := (T.d d).flu.getD k []
def BankT.N (T : BankT) (d k : Nat) : List Int := (T.d d).new.getD k []
def BankT.S (T : BankT) (d k : Nat) : Int := (T.d d).sin.getD k 0
/-- n disks of z sectors -/
structure Shape (T : BankT) (n z : Nat) : Prop where
  inv : T.Inv
  len : T.l.length = n
  sz : ∀ d, d < n → (T.d d).sin.length = z
/-- nobody fails, nothing is armed -/
structure Still (T : BankT) (n z : Nat) : Prop extends Shape T n z where
  up : T.down = false
  arm : T.armed = 0
  dead : ∀ d, d < n → (T.d d).dead = false
  fail : ∀ d, d < n → (T.d d).fail = 0
theorem BankT.S_nonneg {T : BankT} (h : T.Inv) (d k : Nat) : 0 ≤ T.S d k := by
  unfold BankT.S
  by_cases e : d < T.l.length
  · exact getD_nonneg (h.ok.d e).sin _
  · have : T.d d = Med.zero := by unfold BankT.d; rw [List.getD_eq_getElem?_getD, List.getElem?_eq_none (by omega)]; rfl
    rw [this]; exact getD_nonneg (by simp [Med.zero]) _
theorem tickTo_calm {T : BankT} (hf : ∀ d, d < T.l.length → (T.d d).fail = 0) : ∀ {j}, j ≤ T.l.length → T.tickTo j = { T with writes := T.writes + 1 }
  | 0, _ => rfl
  | j + 1, hj => by
    rw [BankT.tickTo, tickTo_calm hf (by omega)]
    have : ¬ 0 < (({ T with writes := T.writes + 1 } : BankT).d j).fail := by
      show ¬ 0 < (T.d j).fail
      rw [hf j (by omega)]; decide
    exact BankT.tick1_no this
theorem Still.tick {T : BankT} {n z : Nat} (h : Still T n z) : T.tick = ({ T with writes := T.writes + 1 }, true) := by
  have e := tickTo_calm (T := T) (fun d hd => h.fail d (by rw [← h.len]; exact hd)) (Nat.le_refl _)
  unfold BankT.tick
  rw [if_neg (by rw [h.up]; decide), e, if_neg (by show ¬ 0 < T.armed; rw [h.arm]; decide)]
theorem Still.ready {T : BankT} {n z : Nat} (h : Still T n z) {d : Nat} (hd : d < n) : T.readyE (d : Int) = 0 := by
  unfold BankT.readyE
  rw [if_neg (by rw [h.len]; omega), Int.toNat_natCast, h.dead d hd, if_neg (by decide), h.up, if_neg (by decide)]
theorem Still.wr {T : BankT} {n z : Nat} (h : Still T n z) {x : Int} (hx : 0 ≤ x) : Still { T with writes := x } n z :=
  ⟨⟨⟨h.inv.ok, h.inv.clk, hx, h.inv.ar, h.inv.msk, h.inv.top, h.inv.uniq⟩, h.len, h.sz⟩, h.up, h.arm, h.dead, h.fail⟩
theorem BankT.put_at {T : BankT} (ok : T.Ok) {d a : Nat} (hd : d < T.l.length) (ha : a < (T.d d).sin.length) (s : List Int) (c k : Nat) :
    (T.put d a s).F c k = T.F c k ∧ (T.put d a s).N c k = (if c = d ∧ k = a then s else T.N c k) ∧ (T.put d a s).S c k = (if c = d ∧ k = a then T.stamp d a else T.S c k) := by
  obtain ⟨h1, h2, h3⟩ := Med.put_at (ok.d hd) ha s (T.stamp d a) k
  unfold BankT.F BankT.N BankT.S
  rw [BankT.put_d hd]
  by_cases e : c = d
  · subst e
    rw [if_pos rfl, h1, h2, h3]
    simp
  · rw [if_neg e]; simp [e]
theorem Med.put_rest (m : Med) (a : Nat) (s : List Int) (x : Int) : (m.put a s x).dead = m.dead ∧ (m.put a s x).fail = m.fail ∧ (m.put a s x).sin.length = m.sin.length := ⟨rfl, rfl, by simp [Med.put]⟩
theorem Still.put {T : BankT} {n z : Nat} (h : Still T n z) {d a : Nat} (hd : d < n) (ha : a < z) {s : List Int} (hs : s.length = 64 ∧ ∀ x ∈ s, IsByte x) : Still (T.put d a s) n z := by
  have hd' : d < T.l.length := by rw [h.len]; exact hd
  have ha' : a < (T.d d).sin.length := by rw [h.sz d hd]; exact ha
  obtain ⟨r1, r2, r3, r4, r5⟩ := T.put_rest d a s
  obtain ⟨m1, m2, m3⟩ := Med.put_rest (T.d d) a s (T.stamp d a)
  refine ⟨⟨h.inv.put hd' ha' hs, r1.trans h.len, fun c hc => ?_⟩, r2.trans h.up, r4.trans h.arm, fun c hc => ?_, fun c hc => ?_⟩ <;> rw [BankT.put_d hd']
  · split
    · rw [m3]; exact h.sz d hd
    · exact h.sz c hc
  · split
    · rw [m1]; exact h.dead d hd
    · exact h.dead c hc
  · split
    · rw [m2]; exact h.fail d hd
    · exact h.fail c hc
/-- a write to a calm bank -/
theorem Still.write {T : BankT} {n z : Nat} (h : Still T n z) {d a : Nat} (hd : d < n) (ha : a < z) {s : List Int} (hs : s.length = 64 ∧ ∀ x ∈ s, IsByte x) :
    ∃ T', T.write (d : Int) (a : Int) s = (T', 0) ∧ Still T' n z ∧ T'.clock ≤ T.clock + 1 ∧ T'.writes = T.writes + 1 ∧
      ∀ c k, T'.F c k = T.F c k ∧ T'.N c k = (if c = d ∧ k = a then s else T.N c k) ∧ T'.S c k = (if c = d ∧ k = a then T.stamp d a else T.S c k) := by
  have h1 : Still { T with writes := T.writes + 1 } n z := h.wr (by have := h.inv.wr; omega)
  have hin : ({ T with writes := T.writes + 1 } : BankT).inE (d : Int) (a : Int) = 0 := BankT.inE_in (h1.ready hd) (by rw [h1.sz d hd]; exact ha)
  refine ⟨({ T with writes := T.writes + 1 } : BankT).put d a s, ?_, h1.put hd ha hs, ?_, ?_, fun c k => ?_⟩
  · unfold BankT.write
    rw [h.tick]
    simp only [Bool.true_eq_false, if_false, hin, if_true, Int.toNat_natCast]
  · rw [BankT.put_clock]
    split
    · exact Int.le_refl _
    · show T.clock ≤ T.clock + 1; omega
  · rw [(BankT.put_rest _ d a s).2.2.1]
  · exact BankT.put_at h1.inv.ok (by rw [h1.len]; exact hd) (by rw [h1.sz d hd]; exact ha) s c k
theorem BankT.flush_at {T : BankT} (ok : T.Ok) {d : Nat} (hd : d < T.l.length) (c : Nat) {k : Nat} (hk : k < (T.d d).sin.length) :
    (T.flush d).F c k = (if c = d ∧ 0 < T.S c k then T.N c k else T.F c k) ∧ (T.flush d).N c k = T.N c k ∧ (T.flush d).S c k = (if c = d ∧ 0 < T.S c k then 0 else T.S c k) := by
  obtain ⟨h1, h2, h3⟩ := Med.settleTo_at (ok.d hd) true k (Nat.le_refl _)
  unfold BankT.F BankT.N BankT.S BankT.flush
  rw [BankT.d_up _ hd]
  by_cases e : c = d
  · subst e
    rw [if_pos rfl, h1, h2, h3]
    simp [hk]
  · rw [if_neg e]; simp [e]
theorem BankT.flush_rest (T : BankT) (d : Nat) : (T.flush d).l.length = T.l.length ∧ (T.flush d).down = T.down ∧ (T.flush d).writes = T.writes ∧ (T.flush d).armed = T.armed ∧ (T.flush d).clock = T.clock := ⟨BankT.up_len _ _ _, rfl, rfl, rfl, rfl⟩
theorem Still.flush {T : BankT} {n z : Nat} (h : Still T n z) {d : Nat} (hd : d < n) :
    ∃ T', T.flushC (d : Int) = (T', 0) ∧ Still T' n z ∧ T'.clock = T.clock ∧ T'.writes = T.writes ∧
      ∀ c k, k < z → T'.F c k = (if c = d ∧ 0 < T.S c k then T.N c k else T.F c k) ∧ T'.N c k = T.N c k ∧ T'.S c k = (if c = d ∧ 0 < T.S c k then 0 else T.S c k) := by
  have hd' : d < T.l.length := by rw [h.len]; exact hd
  refine ⟨T.flush d, by unfold BankT.flushC; rw [h.ready hd, if_pos rfl, Int.toNat_natCast], ⟨⟨h.inv.flush hd', (T.flush_rest d).1.trans h.len, fun c hc => ?_⟩, h.up, h.arm, fun c hc => ?_, fun c hc => ?_⟩, rfl, rfl, fun c k hk => BankT.flush_at h.inv.ok hd' c (by rw [h.sz d hd]; exact hk)⟩ <;>
    unfold BankT.flush <;> rw [BankT.d_up _ hd']
  · split
    · rw [Med.settleTo_len]; exact h.sz d hd
    · exact h.sz c hc
  · split
    · rw [Med.settleTo_dead]; exact h.dead d hd
    · exact h.dead c hc
  · split
    · rw [Med.settleTo_fail]; exact h.fail d hd
    · exact h.fail c hc
theorem Still.read {T : BankT} {n z : Nat} (h : Still T n z) {d a : Nat} (hd : d < n) (ha : a < z) : T.read (d : Int) (a : Int) = (T.N d a, 0) := by
  unfold BankT.read
  rw [BankT.inE_in (h.ready hd) (by rw [h.sz d hd]; exact ha), if_pos rfl, Int.toNat_natCast, Int.toNat_natCast]; rfl
/-- a crash of one that is up, at each place: what is loose goes as its bit says, all else stays -/
theorem BankT.crash_at {T : BankT} (inv : T.Inv) (hu : T.down = false) (mask : Int) (c k : Nat) :
    ((T.crash mask).F c k, (T.crash mask).N c k, (T.crash mask).S c k) = ((BankT.settleL mask T.order 0 T).F c k, (BankT.settleL mask T.order 0 T).N c k, (BankT.settleL mask T.order 0 T).S c k) := by
  unfold BankT.crash
  rw [if_neg (by rw [hu]; decide)]; rfl
theorem BankT.crash_still {T : BankT} (inv : T.Inv) (hu : T.down = false) (mask : Int) {c k : Nat} (h : (c, k) ∉ T.order) :
    (T.crash mask).F c k = T.F c k ∧ (T.crash mask).N c k = T.N c k ∧ (T.crash mask).S c k = T.S c k := by
  have := BankT.crash_at inv hu mask c k
  simp only [Prod.mk.injEq] at this
  obtain ⟨e1, e2, e3⟩ := this
  rw [e1, e2, e3]
  exact (BankT.settleL_at mask c k (L := T.order) (i := 0) inv.ok (fun p hp => ((T.mem_order p).1 hp).1) T.nodup_order).1 h
theorem BankT.crash_loose {T : BankT} (inv : T.Inv) (hu : T.down = false) (mask : Int) {c k j : Nat} (hj : j < T.order.length) (h : T.order[j] = (c, k)) :
    (T.crash mask).F c k = (if bitOf mask j then T.N c k else T.F c k) ∧ (T.crash mask).N c k = (if bitOf mask j then T.N c k else T.F c k) ∧ (T.crash mask).S c k = 0 := by
  have := BankT.crash_at inv hu mask c k
  simp only [Prod.mk.injEq] at this
  obtain ⟨e1, e2, e3⟩ := this
  rw [e1, e2, e3]
  have := (BankT.settleL_at mask c k (L := T.order) (i := 0) inv.ok (fun p hp => ((T.mem_order p).1 hp).1) T.nodup_order).2 j hj h
  rw [Nat.zero_add] at this
  exact this
theorem BankT.crash_rest {T : BankT} (inv : T.Inv) (hu : T.down = false) (mask : Int) : (T.crash mask).down = true ∧ (T.crash mask).armed = 0 ∧ (T.crash mask).writes = T.writes ∧ (T.crash mask).clock = T.clock ∧ ∀ c, ((T.crash mask).d c).dead = (T.d c).dead ∧ ((T.crash mask).d c).fail = (T.d c).fail ∧ ((T.crash mask).d c).sin.length = (T.d c).sin.length := by
  obtain ⟨c1, c2⟩ := BankT.crash_clock inv.ok mask
  refine ⟨?_, ?_, c2, c1, fun c => ?_⟩
  · unfold BankT.crash; rw [if_neg (by rw [hu]; decide)]
  · unfold BankT.crash; rw [if_neg (by rw [hu]; decide)]
  · have e : (T.crash mask).d c = (BankT.settleL mask T.order 0 T).d c := by unfold BankT.crash; rw [if_neg (by rw [hu]; decide)]; rfl
    rw [e]
    exact BankT.settleL_dead mask T.order 0 T c (fun p hp => ((T.mem_order p).1 hp).1)
theorem BankT.order_iff {T : BankT} {n z : Nat} (h : Shape T n z) {c k : Nat} (hc : c < n) (hk : k < z) : (c, k) ∈ T.order ↔ 0 < T.S c k := by
  rw [T.mem_order]
  exact ⟨fun h => h.2, fun h' => ⟨⟨by rw [h.len]; exact hc, by show k < (T.d c).sin.length; rw [h.sz c hc]; exact hk⟩, h'⟩⟩
/-- a calm bank falls and is started -/
theorem Still.crash {T : BankT} {n z : Nat} (h : Still T n z) (mask : Int) : Still (T.crash mask).start n z ∧ (T.crash mask).clock = T.clock ∧ (T.crash mask).writes = T.writes ∧ Shape (T.crash mask) n z ∧ (T.crash mask).down = true := by
  obtain ⟨r1, r2, r3, r4, r5⟩ := BankT.crash_rest h.inv h.up mask
  have hs : Shape (T.crash mask) n z := ⟨h.inv.crash mask, (T.crash_len mask).trans h.len, fun d hd => (r5 d).2.2.trans (h.sz d hd)⟩
  exact ⟨⟨⟨hs.inv |> fun i => ⟨i.ok, i.clk, i.wr, i.ar, i.msk, i.top, i.uniq⟩, hs.len, hs.sz⟩, rfl, r2, fun d hd => (r5 d).1.trans (h.dead d hd), fun d hd => (r5 d).2.1.trans (h.fail d hd)⟩, r4, r3, hs, r1⟩
theorem bitOf_zero (j : Nat) : bitOf 0 j = false := by
  unfold bitOf; simp
end Go.Proofs.YtglplhmclfekfaaGreat
