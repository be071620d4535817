/- MirrorLives: the plain law. -/
import Derived.Test.YtcbghpcohbgcjaaMia
namespace Go.Proofs.Ytcbghpcohbgcjaa
open Go.RowKit
set_option linter.unusedVariables false
set_option linter.unusedSimpArgs false

/-- two disks of which one, if any, fails at the m-th write; t writes have been; slot k reads L0 k on the first, L1 k on the second -/
structure LvI (on : Bool) (f m t : Nat) (L0 L1 : Nat → List Int) (T : BankT) : Prop where
  live : Live T 2 12
  wr : T.writes = t
  dead : ∀ d, d < 2 → (T.d d).dead = (on && decide (d = f ∧ m ≤ t))
  fail : ∀ d, d < 2 → (T.d d).fail = if on = true ∧ d = f then ((m - t : Nat) : Int) else 0
  new0 : (T.d 0).dead = false → ∀ k, k < 8 → T.N 0 k = L0 k
  new1 : (T.d 1).dead = false → ∀ k, k < 8 → T.N 1 (11 - k) = L1 k
def setL (L : Nat → List Int) (a : Nat) (s : List Int) : Nat → List Int := fun k => if k = a then s else L k
section
variable {on : Bool} {f m t : Nat} {L L0 L1 : Nat → List Int} {T : BankT}
theorem LvI.tick (h : LvI on f m t L0 L1 T) (hm : 0 < m) {d : Nat} (hd : d < 2) : (T.d d).tick.dead = (on && decide (d = f ∧ m ≤ t + 1)) ∧ (T.d d).tick.fail = if on = true ∧ d = f then ((m - (t + 1) : Nat) : Int) else 0 := by
  have hdd := h.dead d hd
  have hff := h.fail d hd
  constructor
  · rw [Med.tick_dead, hdd, hff]
    cases on
    · simp
    · by_cases e : d = f
      · simp only [e, true_and, if_true, Bool.true_and]
        by_cases h1 : m ≤ t
        · simp [h1]; omega
        · simp [h1]; omega
      · simp [e]
  · rw [Med.tick_fail _ (by rw [hff]; split <;> omega), hff]
    by_cases e : on = true ∧ d = f
    · rw [if_pos e, if_pos e]; split <;> omega
    · rw [if_neg e, if_neg e]; rfl
theorem LvI.write0 (h : LvI on f m t L0 L1 T) (hm : 0 < m) {a : Nat} (ha : a < 8) {s : List Int} (hs : s.length = 64 ∧ ∀ x ∈ s, IsByte x) :
    ∃ T', T.write 0 (a : Int) s = (T', if on = true ∧ 0 = f ∧ m ≤ t + 1 then 7 else 0) ∧ LvI on f m (t + 1) (setL L0 a s) L1 T' ∧ T'.clock ≤ T.clock + 1 := by
  obtain ⟨T', he, hl, hc, hw, hat⟩ := h.live.write (d := 0) (a := a) (by decide) (by omega) hs
  refine ⟨T', ?_, ⟨hl, by rw [hw, h.wr]; push_cast; rfl, fun d hd => by rw [(hat d hd).1, (h.tick hm hd).1], fun d hd => by rw [(hat d hd).2.1, (h.tick hm hd).2], fun hd k hk => ?_, fun hd k hk => ?_⟩, hc⟩
  · rw [show (0 : Int) = ((0 : Nat) : Int) from rfl, he, (h.tick hm (by decide)).1]
    congr 1
    cases on <;> simp
  · obtain ⟨_, _, h3⟩ := hat 0 (by decide)
    rw [(hat 0 (by decide)).1] at hd
    obtain ⟨_, h4, _⟩ := h3 hd k (by omega)
    rw [h4]
    unfold setL
    by_cases e : k = a
    · rw [if_pos ⟨rfl, e⟩, if_pos e]
    · rw [if_neg (fun h => e h.2), if_neg e]; exact h.new0 (Med.tick_alive hd).1 k hk
  · obtain ⟨_, _, h3⟩ := hat 1 (by decide)
    rw [(hat 1 (by decide)).1] at hd
    obtain ⟨_, h4, _⟩ := h3 hd (11 - k) (by omega)
    rw [h4, if_neg (fun h => absurd h.1 (by decide))]
    exact h.new1 (Med.tick_alive hd).1 k hk
theorem LvI.write1 (h : LvI on f m t L0 L1 T) (hm : 0 < m) {a : Nat} (ha : a < 8) {s : List Int} (hs : s.length = 64 ∧ ∀ x ∈ s, IsByte x) :
    ∃ T', T.write 1 ((11 - a : Nat) : Int) s = (T', if on = true ∧ 1 = f ∧ m ≤ t + 1 then 7 else 0) ∧ LvI on f m (t + 1) L0 (setL L1 a s) T' ∧ T'.clock ≤ T.clock + 1 := by
  obtain ⟨T', he, hl, hc, hw, hat⟩ := h.live.write (d := 1) (a := 11 - a) (by decide) (by omega) hs
  refine ⟨T', ?_, ⟨hl, by rw [hw, h.wr]; push_cast; rfl, fun d hd => by rw [(hat d hd).1, (h.tick hm hd).1], fun d hd => by rw [(hat d hd).2.1, (h.tick hm hd).2], fun hd k hk => ?_, fun hd k hk => ?_⟩, hc⟩
  · rw [show (1 : Int) = ((1 : Nat) : Int) from rfl, he, (h.tick hm (by decide)).1]
    congr 1
    cases on <;> simp
  · obtain ⟨_, _, h3⟩ := hat 0 (by decide)
    rw [(hat 0 (by decide)).1] at hd
    obtain ⟨_, h4, _⟩ := h3 hd k (by omega)
    rw [h4, if_neg (fun h => absurd h.1 (by decide))]
    exact h.new0 (Med.tick_alive hd).1 k hk
  · obtain ⟨_, _, h3⟩ := hat 1 (by decide)
    rw [(hat 1 (by decide)).1] at hd
    obtain ⟨_, h4, _⟩ := h3 hd (11 - k) (by omega)
    rw [h4]
    unfold setL
    by_cases e : k = a
    · rw [if_pos ⟨rfl, by rw [e]⟩, if_pos e]
    · rw [if_neg (fun h => e (by omega)), if_neg e]; exact h.new1 (Med.tick_alive hd).1 k hk
theorem LvI.mwrite (h : LvI on f m t L L T) (hm : 0 < m) {a : Nat} (ha : a < 8) {s : List Int} (hs : s.length = 64 ∧ ∀ x ∈ s, IsByte x) :
    ∃ T1 T', (T.write 0 (a : Int) s).1 = T1 ∧ T.mWrite 0 (a : Int) 1 ((11 - a : Nat) : Int) s = (T', 0) ∧ LvI on f m (t + 1) (setL L a s) L T1 ∧ LvI on f m (t + 2) (setL L a s) (setL L a s) T' ∧ T1.clock ≤ T.clock + 1 ∧ T'.clock ≤ T.clock + 2 := by
  obtain ⟨T1, e1, h1, c1⟩ := h.write0 hm ha hs
  obtain ⟨T2, e2, h2, c2⟩ := h1.write1 hm ha hs
  refine ⟨T1, T2, by rw [e1], ?_, h1, h2, c1, by omega⟩
  unfold BankT.mWrite
  rw [e1]
  simp only []
  rw [e2]
  simp only []
  by_cases q1 : on = true ∧ 0 = f ∧ m ≤ t + 1
  · have q2 : ¬ (on = true ∧ 1 = f ∧ m ≤ t + 1 + 1) := fun h => by omega
    rw [if_pos q1, if_neg q2]; rfl
  · rw [if_neg q1]
    by_cases q2 : on = true ∧ 1 = f ∧ m ≤ t + 1 + 1
    · rw [if_pos q2]; rfl
    · rw [if_neg q2]; rfl
theorem LvI.reads (h : LvI on f m t L L T) {k : Nat} (hk : k < 8) : T.mRead 0 (k : Int) 1 ((11 - k : Nat) : Int) = (L k, 0) ∧ T.mRead 1 ((11 - k : Nat) : Int) 0 (k : Int) = (L k, 0) ∧ T.mAlike 0 (k : Int) 1 ((11 - k : Nat) : Int) = (T, false, 0) := by
  have r0 := h.live.read (d := 0) (a := k) (by decide) (by omega)
  have r1 := h.live.read (d := 1) (a := 11 - k) (by decide) (by omega)
  rw [show ((0 : Nat) : Int) = 0 from rfl] at r0
  rw [show ((1 : Nat) : Int) = 1 from rfl] at r1
  have hno : ¬ ((T.d 0).dead = true ∧ (T.d 1).dead = true) := fun ⟨h0, h1⟩ => by
    rw [h.dead 0 (by decide)] at h0
    rw [h.dead 1 (by decide)] at h1
    simp only [Bool.and_eq_true, decide_eq_true_eq] at h0 h1
    omega
  unfold BankT.mRead BankT.mAlike
  rw [r0, r1]
  cases d0 : (T.d 0).dead
  · rw [h.new0 d0 k hk]
    cases d1 : (T.d 1).dead
    · rw [h.new1 d1 k hk]; simp [lostB]
    · simp [lostB]
  · cases d1 : (T.d 1).dead
    · rw [h.new1 d1 k hk]; simp [lostB]
    · exact absurd ⟨d0, d1⟩ hno
theorem LvI.use (h : LvI on f m t L0 L1 T) (h1 : T.clock ≤ 1000) (h2 : t ≤ 1000) : T.Use := h.live.use (by decide) (by omega) (by rw [h.wr]; omega)
end
theorem zeroB_sec : zeroB = secN 0 := by decide
theorem LvI.start : LvI false 0 1 0 (fun _ => secN 0) (fun _ => secN 0) (addZ 12 2) := by
  have hs := addZ_still (z := 12) (k := 2) (by decide) (by decide)
  refine ⟨hs.live, (addZ_rest 12 2).2.2.2, fun d hd => by rw [hs.dead d hd]; rfl, fun d hd => by rw [hs.fail d hd]; rfl, fun _ k hk => ?_, fun _ k hk => ?_⟩
  · rw [(addZ_at (z := 12) (k := 2) (d := 0) (a := k) (by decide) (by omega)).2.1, zeroB_sec]
  · rw [(addZ_at (z := 12) (k := 2) (d := 1) (a := 11 - k) (by decide) (by omega)).2.1, zeroB_sec]
theorem LvI.start_at {f m : Nat} (hf : f < 2) (hm : 0 < m) (hm2 : m ≤ 1000) : LvI true f m 0 (fun _ => secN 0) (fun _ => secN 0) ((addZ 12 2).up f { (addZ 12 2).d f with fail := max (m : Int) 0 }) := by
  have hs := addZ_still (z := 12) (k := 2) (by decide) (by decide)
  have hl : f < (addZ 12 2).l.length := by rw [hs.len]; exact hf
  have hok := hs.inv.ok.d hl
  have hmx : max (m : Int) 0 = (m : Int) := by omega
  rw [hmx]
  have hd : ∀ c, ((addZ 12 2).up f { (addZ 12 2).d f with fail := (m : Int) }).d c = if c = f then { (addZ 12 2).d f with fail := (m : Int) } else (addZ 12 2).d c := fun c => BankT.d_up _ hl c
  have hc : (addZ 12 2).Calmer ((addZ 12 2).up f { (addZ 12 2).d f with fail := (m : Int) }) := BankT.Calmer.up hl rfl (fun _ => .inl rfl)
  have hok2 : ({ (addZ 12 2).d f with fail := (m : Int) } : Med).Ok := ⟨hok.flu, hok.new, hok.len, hok.sin, by show 0 ≤ (m : Int) ∧ (m : Int) < _; omega⟩
  have hN : ∀ c k, ((addZ 12 2).up f { (addZ 12 2).d f with fail := (m : Int) }).N c k = (addZ 12 2).N c k := fun c k => by
    unfold BankT.N; rw [hd]; split
    · rename_i e; rw [e]
    · rfl
  refine ⟨⟨⟨hc.inv hs.inv (hs.inv.ok.up f hok2) hs.inv.wr hs.inv.ar hs.inv.msk, hc.len.trans hs.len, fun d hd' => (hc.lens d).trans (hs.sz d hd')⟩, hs.up, hs.arm⟩, (addZ_rest 12 2).2.2.2, fun d hd' => ?_, fun d hd' => ?_, fun _ k hk => ?_, fun _ k hk => ?_⟩
  · rw [hd]
    have : ¬ (d = f ∧ m ≤ 0) := by omega
    simp only [this, decide_false, Bool.and_false]
    split
    · exact hs.dead f hf
    · exact hs.dead d hd'
  · rw [hd]
    by_cases e : d = f
    · rw [if_pos e, if_pos ⟨rfl, e⟩]; rfl
    · rw [if_neg e, if_neg (fun h => e h.2)]; exact hs.fail d hd'
  · rw [hN, (addZ_at (z := 12) (k := 2) (d := 0) (a := k) (by decide) (by omega)).2.1, zeroB_sec]
  · rw [hN, (addZ_at (z := 12) (k := 2) (d := 1) (a := 11 - k) (by decide) (by omega)).2.1, zeroB_sec]
end Go.Proofs.Ytcbghpcohbgcjaa
