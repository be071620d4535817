/- MirrorAlike: the plain law. -/
import Derived.Test.YtcbghpcohbgcjaaMib
namespace Go.Proofs.Ytcbghpcohbgcjaa
open Go.RowKit
set_option linter.unusedVariables false
set_option linter.unusedSimpArgs false

/-- slot k of both disks: flushed La k, newest Lb k -/
structure AlI (La Lb : Nat → List Int) (T : BankT) : Prop where
  still : Still T 2 12
  flu : ∀ d k, d < 2 → k < 8 → T.F d k = La k
  new : ∀ d k, d < 2 → k < 8 → T.N d k = Lb k
  idle : ∀ d k, d < 2 → k < 8 → T.S d k = 0 → T.F d k = T.N d k
theorem Still.no_dead {T : BankT} {n z : Nat} (h : Still T n z) {d : Nat} (hd : d < n) : (T.d d).tick.dead = false ∧ (T.d d).tick = T.d d := by
  have h1 := h.fail d hd
  have h2 : (T.d d).tick = T.d d := by unfold Med.tick; rw [if_neg (by rw [h1]; decide)]
  exact ⟨by rw [h2]; exact h.dead d hd, h2⟩
section
variable {La Lb : Nat → List Int} {T : BankT}
theorem Still.mwrite (h : Still T 2 12) {a b : Nat} (ha : a < 12) (hb : b < 12) {s : List Int} (hs : s.length = 64 ∧ ∀ x ∈ s, IsByte x) :
    ∃ T1 T2, T.write 0 (a : Int) s = (T1, 0) ∧ T.mWrite 0 (a : Int) 1 (b : Int) s = (T2, 0) ∧ Still T1 2 12 ∧ Still T2 2 12 ∧ T1.clock ≤ T.clock + 1 ∧ T2.clock ≤ T.clock + 2 ∧ T1.writes = T.writes + 1 ∧ T2.writes = T.writes + 2 ∧
      ∀ c k, T2.F c k = T.F c k ∧ T2.N c k = (if (c = 0 ∧ k = a) ∨ (c = 1 ∧ k = b) then s else T.N c k) ∧ ((c = 0 ∧ k = a) ∨ (c = 1 ∧ k = b) → 0 < T2.S c k) ∧ (¬ ((c = 0 ∧ k = a) ∨ (c = 1 ∧ k = b)) → T2.S c k = T.S c k) := by
  obtain ⟨T1, e1, h1, c1, w1, a1⟩ := h.write (d := 0) (a := a) (by decide) ha hs
  obtain ⟨T2, e2, h2, c2, w2, a2⟩ := h1.write (d := 1) (a := b) (by decide) hb hs
  rw [show ((0 : Nat) : Int) = 0 from rfl] at e1
  rw [show ((1 : Nat) : Int) = 1 from rfl] at e2
  refine ⟨T1, T2, e1, ?_, h1, h2, c1, by omega, w1, by rw [w2, w1]; omega, fun c k => ?_⟩
  · unfold BankT.mWrite
    rw [e1]; simp only []; rw [e2]; rfl
  · obtain ⟨f1, n1, s1⟩ := a1 c k
    obtain ⟨f2, n2, s2⟩ := a2 c k
    have p1 := stampP h.inv 0 a
    have p2 := stampP h1.inv 1 b
    rw [f2, f1, n2, n1, s2, s1]
    by_cases e : c = 0 ∧ k = a
    · have e' : ¬ (c = 1 ∧ k = b) := fun h => by omega
      rw [if_neg e', if_pos e, if_pos (.inl e), if_neg e', if_pos e]
      exact ⟨rfl, rfl, fun _ => p1, fun h => absurd (.inl e) h⟩
    · by_cases e' : c = 1 ∧ k = b
      · rw [if_pos e', if_pos (.inr e'), if_pos e']
        exact ⟨rfl, rfl, fun _ => p2, fun h => absurd (.inr e') h⟩
      · have e3 : ¬ ((c = 0 ∧ k = a) ∨ (c = 1 ∧ k = b)) := fun h => h.elim e e'
        rw [if_neg e', if_neg e, if_neg e3, if_neg e', if_neg e]
        exact ⟨rfl, rfl, fun h => absurd h e3, fun _ => rfl⟩
theorem AlI.write (h : AlI La Lb T) {a : Nat} (ha : a < 8) {s : List Int} (hs : s.length = 64 ∧ ∀ x ∈ s, IsByte x) :
    ∃ T1 T2, T.write 0 (a : Int) s = (T1, 0) ∧ T.mWrite 0 (a : Int) 1 (a : Int) s = (T2, 0) ∧ Still T1 2 12 ∧ AlI La (setL Lb a s) T2 ∧ T1.clock ≤ T.clock + 1 ∧ T2.clock ≤ T.clock + 2 ∧ T1.writes = T.writes + 1 ∧ T2.writes = T.writes + 2 := by
  obtain ⟨T1, T2, e1, e2, h1, h2, c1, c2, w1, w2, hat⟩ := h.still.mwrite (a := a) (b := a) (by omega) (by omega) hs
  refine ⟨T1, T2, e1, e2, h1, ⟨h2, fun d k hd hk => ?_, fun d k hd hk => ?_, fun d k hd hk h0 => ?_⟩, c1, c2, w1, w2⟩
  · rw [(hat d k).1]; exact h.flu d k hd hk
  · rw [(hat d k).2.1]
    unfold setL
    by_cases e : k = a
    · rw [if_pos (by omega), if_pos e]
    · rw [if_neg (by omega), if_neg e]; exact h.new d k hd hk
  · obtain ⟨f, n, s1, s2⟩ := hat d k
    by_cases e : (d = 0 ∧ k = a) ∨ (d = 1 ∧ k = a)
    · have := s1 e; omega
    · rw [s2 e] at h0
      rw [f, n, if_neg e]; exact h.idle d k hd hk h0
theorem AlI.flush (h : AlI La Lb T) : ∃ T1 T2, T.flushC 0 = (T1, 0) ∧ T1.flushC 1 = (T2, 0) ∧ Still T1 2 12 ∧ AlI Lb Lb T2 ∧ T1.clock = T.clock ∧ T2.clock = T.clock ∧ T1.writes = T.writes ∧ T2.writes = T.writes := by
  obtain ⟨T1, e1, h1, c1, w1, a1⟩ := h.still.flush (d := 0) (by decide)
  obtain ⟨T2, e2, h2, c2, w2, a2⟩ := h1.flush (d := 1) (by decide)
  rw [show ((0 : Nat) : Int) = 0 from rfl] at e1
  rw [show ((1 : Nat) : Int) = 1 from rfl] at e2
  have key : ∀ d k, d < 2 → k < 8 → T2.F d k = T.N d k ∧ T2.N d k = T.N d k := fun d k hd hk => by
    obtain ⟨f1, n1, s1⟩ := a1 d k (by omega)
    obtain ⟨f2, n2, s2⟩ := a2 d k (by omega)
    have hS := BankT.S_nonneg h.still.inv d k
    have hid := h.idle d k hd hk
    refine ⟨?_, by rw [n2, n1]⟩
    rw [f2, n1, f1, s1]
    by_cases hs : 0 < T.S d k
    · by_cases e : d = 0
      · have q : d = 0 ∧ 0 < T.S d k := ⟨e, hs⟩
        rw [if_neg (fun h => by have := h.1; omega), if_pos q]
      · have q : ¬ (d = 0 ∧ 0 < T.S d k) := fun h => e h.1
        rw [if_neg q, if_neg q, if_pos ⟨by omega, hs⟩]
    · have hn := hid (by omega)
      have q : ¬ (d = 0 ∧ 0 < T.S d k) := fun h => hs h.2
      rw [if_neg q, if_neg q, if_neg (fun h => hs h.2)]
      exact hn
  refine ⟨T1, T2, e1, e2, h1, ⟨h2, fun d k hd hk => by rw [(key d k hd hk).1]; exact h.new d k hd hk, fun d k hd hk => by rw [(key d k hd hk).2]; exact h.new d k hd hk, fun d k hd hk _ => by rw [(key d k hd hk).1, (key d k hd hk).2]⟩, c1, by rw [c2, c1], w1, by rw [w2, w1]⟩
/-- behind the crash -/
def CaI (La Lb : Nat → List Int) (j : Nat) (T : BankT) : Prop := Still T 2 12 ∧ ∀ d k, d < 2 → j ≤ k → k < 8 → T.N d k = La k ∨ T.N d k = Lb k
theorem AlI.crash (h : AlI La Lb T) (mask : Int) : CaI La Lb 0 (T.crash mask).start ∧ (T.crash mask).clock = T.clock ∧ (T.crash mask).writes = T.writes ∧ Still (T.crash mask).start 2 12 := by
  obtain ⟨k1, k2, k3, k4, k5⟩ := h.still.crash mask
  refine ⟨⟨k1, fun d k hd _ hk => ?_⟩, k2, k3, k1⟩
  show (T.crash mask).N d k = La k ∨ (T.crash mask).N d k = Lb k
  by_cases hm : (d, k) ∈ T.order
  · obtain ⟨j, hj, hjo⟩ := List.getElem_of_mem hm
    rw [(BankT.crash_loose h.still.inv h.still.up mask hj hjo).2.1]
    split
    · exact .inr (h.new d k hd hk)
    · exact .inl (h.flu d k hd hk)
  · rw [(BankT.crash_still h.still.inv h.still.up mask hm).2.1]
    exact .inr (h.new d k hd hk)
theorem CaI.step {j : Nat} (h : CaI La Lb j T) (hj : j < 8) {x y : Nat} (hx : x < 2) (hy : y < 2) (hxy : x ≠ y) :
    ∃ s t T', T.read (x : Int) (j : Int) = (s, 0) ∧ T.read (y : Int) (j : Int) = (t, 0) ∧ (s.length = 64 ∧ ∀ c ∈ s, IsByte c) ∧ t.length = 64 ∧ (s = La j ∨ s = Lb j) ∧ (t = La j ∨ t = Lb j) ∧
      T.mAlike (x : Int) (j : Int) (y : Int) (j : Int) = (T', (!(s == t)), 0) ∧ T'.mAlike (x : Int) (j : Int) (y : Int) (j : Int) = (T', false, 0) ∧ T'.read (x : Int) (j : Int) = (s, 0) ∧ T'.read (y : Int) (j : Int) = (s, 0) ∧ CaI La Lb (j + 1) T' ∧ T'.clock ≤ T.clock + 1 ∧ T'.writes ≤ T.writes + 1 := by
  obtain ⟨hs, hn⟩ := h
  have rx := hs.read (d := x) (a := j) hx (by omega)
  have ry := hs.read (d := y) (a := j) hy (by omega)
  have lx := hs.toShape.N_len (d := x) (a := j) hx (by omega)
  have ly := hs.toShape.N_len (d := y) (a := j) hy (by omega)
  have nx := hn x j hx (Nat.le_refl _) hj
  have ny := hn y j hy (Nat.le_refl _) hj
  by_cases e : T.N x j = T.N y j
  · have al : T.mAlike (x : Int) (j : Int) (y : Int) (j : Int) = (T, false, 0) := by
      unfold BankT.mAlike; rw [rx, ry]; simp [e]
    refine ⟨T.N x j, T.N y j, T, rx, ry, lx, ly.1, nx, ny, ?_, al, rx, by rw [ry, e], ⟨hs, fun d k hd hk => hn d k hd (by omega)⟩, by omega, by omega⟩
    rw [al, show (T.N x j == T.N y j) = true by simp [e]]; rfl
  · obtain ⟨T', he, h', hc, hw, hat⟩ := hs.write (d := y) (a := j) hy (by omega) lx
    have nx' : T'.N x j = T.N x j := by rw [(hat x j).2.1, if_neg (fun h => hxy h.1)]
    have ny' : T'.N y j = T.N x j := by rw [(hat y j).2.1, if_pos ⟨rfl, rfl⟩]
    have rx' := h'.read (d := x) (a := j) hx (by omega)
    have ry' := h'.read (d := y) (a := j) hy (by omega)
    rw [nx'] at rx'
    rw [ny'] at ry'
    refine ⟨T.N x j, T.N y j, T', rx, ry, lx, ly.1, nx, ny, ?_, ?_, rx', ry', ⟨h', fun d k hd hk hk8 => ?_⟩, hc, by omega⟩
    · unfold BankT.mAlike
      rw [rx, ry]
      have hb : (T.N x j == T.N y j) = false := by simpa using e
      simp only []
      rw [he]
      simp [e, hb, lostB]
    · unfold BankT.mAlike; rw [rx', ry']; simp
    · rw [(hat d k).2.1, if_neg (fun h => by omega)]; exact hn d k hd (by omega) hk8
end
theorem AlI.start : AlI (fun _ => secN 0) (fun _ => secN 0) (addZ 12 2) := by
  have hs := addZ_still (z := 12) (k := 2) (by decide) (by decide)
  refine ⟨hs, fun d k hd hk => ?_, fun d k hd hk => ?_, fun d k hd hk _ => ?_⟩
  · rw [(addZ_at (z := 12) (k := 2) (d := d) (a := k) hd (by omega)).1, zeroB_sec]
  · rw [(addZ_at (z := 12) (k := 2) (d := d) (a := k) hd (by omega)).2.1, zeroB_sec]
  · rw [(addZ_at (z := 12) (k := 2) (d := d) (a := k) hd (by omega)).1, (addZ_at (z := 12) (k := 2) (d := d) (a := k) hd (by omega)).2.1]
end Go.Proofs.Ytcbghpcohbgcjaa
