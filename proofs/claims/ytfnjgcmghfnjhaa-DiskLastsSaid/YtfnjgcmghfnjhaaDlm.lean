/- DiskLasts: the plain law. -/
import Derived.Test.YtfnjgcmghfnjhaaDlc
namespace Go.Proofs.Ytfnjgcmghfnjhaa
open Go.RowKit
set_option linter.unusedVariables false
set_option linter.unusedSimpArgs false

/-- the place (d, a) has s, flushed; its disk lives -/
structure KpI (d a : Nat) (s : List Int) (T : BankT) : Prop extends Shape T 3 8 where
  fail : ∀ c, c < 3 → (T.d c).fail = 0
  dead : (T.d d).dead = false
  f : T.F d a = s
  n : T.N d a = s
  z : T.S d a = 0
section
variable {d a : Nat} {s : List Int} {T : BankT}
theorem KpI.same {T' : BankT} (h : KpI d a s T) (hs : Shape T' 3 8) (hf : ∀ c, c < 3 → (T'.d c).fail = (T.d c).fail) (hd : (T'.d d).dead = (T.d d).dead) (h1 : T'.F d a = T.F d a) (h2 : T'.N d a = T.N d a) (h3 : T'.S d a = T.S d a) : KpI d a s T' :=
  ⟨hs, fun c hc => (hf c hc).trans (h.fail c hc), hd.trans h.dead, h1.trans h.f, h2.trans h.n, h3.trans h.z⟩
theorem KpI.at_ {T' : BankT} (h : KpI d a s T) (hi : T'.Inv) (hl : T'.l = T.l) : KpI d a s T' := by
  have hd : ∀ c, T'.d c = T.d c := fun c => by simp [BankT.d, hl]
  refine h.same ⟨hi, by rw [hl]; exact h.len, fun c hc => by rw [hd]; exact h.sz c hc⟩ (fun c _ => by rw [hd]) (by rw [hd]) ?_ ?_ ?_
  · unfold BankT.F; rw [hd]
  · unfold BankT.N; rw [hd]
  · unfold BankT.S; rw [hd]
theorem KpI.start (h : KpI d a s T) : KpI d a s T.start := h.at_ h.inv.start rfl
theorem KpI.arm (h : KpI d a s T) (n m : Int) (hn : n ≤ 9223372036854775807) (hm : 0 ≤ m ∧ m < 18446744073709551616) : KpI d a s (T.arm n m) :=
  h.at_ ⟨h.inv.ok, h.inv.clk, h.inv.wr, by show 0 ≤ max n 0 ∧ max n 0 < _; omega, hm, h.inv.top, h.inv.uniq⟩ rfl
theorem KpI.crash (h : KpI d a s T) (hd : d < 3) (m : Int) : KpI d a s (T.crash m) := by
  by_cases hu : T.down = true
  · have : T.crash m = T := by unfold BankT.crash; rw [if_pos hu]
    rw [this]; exact h
  · have hu' : T.down = false := by simpa using hu
    obtain ⟨r1, r2, r3, r4, r5⟩ := BankT.crash_rest h.inv hu' m
    have hm : (d, a) ∉ T.order := fun hm => by
      have := ((T.mem_order (d, a)).1 hm).2
      have hz : T.since (d, a) = 0 := h.z
      omega
    obtain ⟨c1, c2, c3⟩ := BankT.crash_still h.inv hu' m hm
    exact h.same ⟨h.inv.crash m, (T.crash_len m).trans h.len, fun c hc => (r5 c).2.2.trans (h.sz c hc)⟩ (fun c _ => (r5 c).2.1) (r5 d).1 c1 c2 c3
theorem KpI.flush (h : KpI d a s T) (hd : d < 3) (ha : a < 8) (c : Nat) (hc : c < 3) : KpI d a s (T.flushC (c : Int)).1 := by
  unfold BankT.flushC
  split
  · rw [Int.toNat_natCast]
    have hc' : c < T.l.length := by rw [h.len]; exact hc
    have hdd : ∀ e, (T.flush c).d e = if e = c then (T.d c).settleTo true (T.d c).sin.length else T.d e := fun e => by unfold BankT.flush; rw [BankT.d_up _ hc']
    by_cases e : d = c
    · subst e
      obtain ⟨f1, f2, f3⟩ := BankT.flush_at h.inv.ok hc' d (k := a) (by rw [h.sz d hd]; exact ha)
      have hz : ¬ (d = d ∧ 0 < T.S d a) := fun h' => by have := h'.2; rw [h.z] at this; omega
      rw [if_neg hz] at f1 f3
      refine h.same ⟨h.inv.flush hc', (T.flush_rest d).1.trans h.len, fun c hc => ?_⟩ (fun c hc => ?_) ?_ f1 f2 f3
      · rw [hdd]; split
        · rename_i e; rw [Med.settleTo_len]; exact h.sz d hd
        · exact h.sz c hc
      · rw [hdd]; split
        · rename_i e; rw [Med.settleTo_fail, e]
        · rfl
      · rw [hdd, if_pos rfl, Med.settleTo_dead]
    · have hd' : (T.flush c).d d = T.d d := by rw [hdd, if_neg e]
      refine h.same ⟨h.inv.flush hc', (T.flush_rest c).1.trans h.len, fun c' hc2 => ?_⟩ (fun c' hc2 => ?_) (by rw [hd']) (by unfold BankT.F; rw [hd']) (by unfold BankT.N; rw [hd']) (by unfold BankT.S; rw [hd'])
      · rw [hdd]; split
        · rw [Med.settleTo_len]; exact h.sz c hc
        · exact h.sz c' hc2
      · rw [hdd]; split
        · rename_i e; rw [Med.settleTo_fail, e]
        · rfl
  · exact h
theorem KpI.fell (h : KpI d a s T) (c : Nat) (hc : c < 3) (hne : c ≠ d) : KpI d a s (T.failC (c : Int)).1 := by
  unfold BankT.failC
  rw [if_neg (by rw [h.len]; omega), Int.toNat_natCast]
  have hc' : c < T.l.length := by rw [h.len]; exact hc
  have hdd : ∀ e, (T.fell c).d e = if e = c then (T.d c).kill.settleTo false (T.d c).sin.length else T.d e := fun e => by unfold BankT.fell; rw [BankT.d_up _ hc']
  have hd' : (T.fell c).d d = T.d d := by rw [hdd, if_neg (Ne.symm hne)]
  refine h.same ⟨h.inv.fell hc', (BankT.up_len _ _ _).trans h.len, fun c' hc2 => ?_⟩ (fun c' hc2 => ?_) (by rw [hd']) (by unfold BankT.F; rw [hd']) (by unfold BankT.N; rw [hd']) (by unfold BankT.S; rw [hd'])
  · rw [hdd]; split
    · rw [Med.settleTo_len]; exact h.sz c hc
    · exact h.sz c' hc2
  · rw [hdd]; split
    · rename_i e; rw [Med.settleTo_fail, e]; rfl
    · rfl
theorem KpI.tick (h : KpI d a s T) (hd : d < 3) : KpI d a s T.tick.1 := by
  have ht := tickTo_calm (T := T) (fun c hc => h.fail c (by rw [← h.len]; exact hc)) (Nat.le_refl _)
  have h1 : KpI d a s { T with writes := T.writes + 1 } := h.at_ ⟨h.inv.ok, h.inv.clk, by have := h.inv.wr; show 0 ≤ T.writes + 1; omega, h.inv.ar, h.inv.msk, h.inv.top, h.inv.uniq⟩ rfl
  unfold BankT.tick
  rw [ht]
  split
  · exact h
  · split
    · rename_i h0
      have h2 : KpI d a s ({ T with writes := T.writes + 1 } : BankT).arm1 := h1.at_ (h1.inv.arm1 h0) rfl
      split
      · exact h2.crash hd _
      · exact h2
    · exact h1
theorem KpI.write (h : KpI d a s T) (hd : d < 3) (c b : Nat) (hc : c < 3) (hb : b < 8) (hne : ¬ (c = d ∧ b = a)) {x : List Int} (hx : x.length = 64 ∧ ∀ y ∈ x, IsByte y) : KpI d a s (T.write (c : Int) (b : Int) x).1 := by
  have h1 := h.tick hd
  unfold BankT.write
  split
  · exact h1
  · split
    · rw [Int.toNat_natCast, Int.toNat_natCast]
      generalize T.tick.1 = T1 at *
      have hc' : c < T1.l.length := by rw [h1.len]; exact hc
      have hb' : b < (T1.d c).sin.length := by rw [h1.sz c hc]; exact hb
      obtain ⟨p1, p2, p3⟩ := BankT.put_at h1.inv.ok hc' hb' x d a
      have hne' : ¬ (d = c ∧ a = b) := fun e => hne ⟨e.1.symm, e.2.symm⟩
      rw [if_neg hne'] at p2 p3
      obtain ⟨m1, m2, m3⟩ := Med.put_rest (T1.d c) b x (T1.stamp c b)
      refine h1.same ⟨h1.inv.put hc' hb' hx, (T1.put_rest c b x).1.trans h1.len, fun e he => ?_⟩ (fun e he => ?_) ?_ p1 p2 p3
      · rw [BankT.put_d hc']; split
        · rw [m3]; exact h1.sz c hc
        · exact h1.sz e he
      · rw [BankT.put_d hc']; split
        · rename_i e; rw [m2, e]
        · rfl
      · rw [BankT.put_d hc']; split
        · rename_i e; rw [m1, e]
        · rfl
    · exact h1
theorem KpI.read (h : KpI d a s T) (hd : d < 3) (ha : a < 8) (hu : T.down = false) : T.read (d : Int) (a : Int) = (s, 0) := by
  have hr : T.readyE (d : Int) = 0 := by
    unfold BankT.readyE
    rw [if_neg (by rw [h.len]; omega), Int.toNat_natCast, h.dead, if_neg (by decide), hu, if_neg (by decide)]
  unfold BankT.read
  rw [BankT.inE_in hr (by rw [h.sz d hd]; exact ha), if_pos rfl, Int.toNat_natCast, Int.toNat_natCast]
  congr 1
  exact h.n
end
/-- the first write and its flush -/
theorem kp_begin {d a : Nat} (hd : d < 3) (ha : a < 8) {s : List Int} (hs : s.length = 64 ∧ ∀ x ∈ s, IsByte x) : ∃ T1 T2, (addN 3).write (d : Int) (a : Int) s = (T1, 0) ∧ T1.flushC (d : Int) = (T2, 0) ∧ T1.Inv ∧ T1.l.length = 3 ∧ T1.clock ≤ 1 ∧ T1.writes = 1 ∧ KpI d a s T2 ∧ T2.clock ≤ 1 ∧ T2.writes = 1 := by
  obtain ⟨T1, e1, s1, c1, w1, h1⟩ := (addN_still (k := 3) (by decide)).write hd ha hs
  obtain ⟨T2, e2, s2, c2, w2, h2⟩ := s1.flush hd
  rw [(addN_rest 3).2.2.1] at c1
  rw [(addN_rest 3).2.2.2] at w1
  obtain ⟨f1, f2, f3⟩ := h2 d a ha
  obtain ⟨g1, g2, g3⟩ := h1 d a
  rw [if_pos ⟨rfl, rfl⟩] at g2 g3
  have hst : 0 < T1.S d a := by
    rw [g3]
    unfold BankT.stamp
    have h0 : ((addN 3).d d).sin.getD a 0 = 0 := (addN_at hd ha).2.2
    rw [if_pos h0, (addN_rest 3).2.2.1]; decide
  rw [if_pos ⟨rfl, hst⟩] at f1 f3
  exact ⟨T1, T2, e1, e2, s1.inv, s1.len, by omega, by omega, ⟨s2.toShape, s2.fail, s2.dead d hd, f1.trans g2, f2.trans g2, f3⟩, by omega, by omega⟩
end Go.Proofs.Ytfnjgcmghfnjhaa
