/- MirrorDown: the plain law. -/
import Derived.Test.YtcbghpcohbgcjaaMiq
namespace Go.Proofs.Ytcbghpcohbgcjaa
open Go.RowKit
set_option linter.unusedVariables false
set_option linter.unusedSimpArgs false

theorem down_begin {a : Nat} (ha : a < 8) {s : List Int} (hs : s.length = 64 ∧ ∀ x ∈ s, IsByte x) :
    ∃ T1 T2 T3 T4, (addZ 12 2).write 0 (a : Int) s = (T1, 0) ∧ (addZ 12 2).mWrite 0 (a : Int) 1 ((11 - a : Nat) : Int) s = (T2, 0) ∧ T2.flushC 0 = (T3, 0) ∧ T3.flushC 1 = (T4, 0) ∧ Still T1 2 12 ∧ Still T2 2 12 ∧ Still T3 2 12 ∧ Still T4 2 12 ∧
      (T1.clock ≤ 1 ∧ T2.clock ≤ 2 ∧ T3.clock ≤ 2 ∧ T4.clock ≤ 2) ∧ (T1.writes ≤ 1 ∧ T2.writes ≤ 2 ∧ T3.writes ≤ 2 ∧ T4.writes ≤ 2) ∧ (∀ d k, d < 2 → k < 12 → T4.S d k = 0) ∧ T4.N 0 a = s ∧ T4.N 1 (11 - a) = s ∧ T4.F 0 a = s := by
  have h0 := addZ_still (z := 12) (k := 2) (by decide) (by decide)
  obtain ⟨z1, z2, z3, z4⟩ := addZ_rest 12 2
  obtain ⟨T1, T2, e1, e2, h1, h2, c1, c2, w1, w2, hat⟩ := h0.mwrite (a := a) (b := 11 - a) (by omega) (by omega) hs
  obtain ⟨T3, e3, h3, c3, w3, a3⟩ := h2.flush (d := 0) (by decide)
  obtain ⟨T4, e4, h4, c4, w4, a4⟩ := h3.flush (d := 1) (by decide)
  rw [show ((0 : Nat) : Int) = 0 from rfl] at e3
  rw [show ((1 : Nat) : Int) = 1 from rfl] at e4
  refine ⟨T1, T2, T3, T4, e1, e2, e3, e4, h1, h2, h3, h4, ⟨by omega, by omega, by omega, by omega⟩, ⟨by omega, by omega, by omega, by omega⟩, fun d k hd hk => ?_, ?_, ?_, ?_⟩
  · obtain ⟨_, _, s4⟩ := a4 d k hk
    obtain ⟨_, _, s3⟩ := a3 d k hk
    have n2 := BankT.S_nonneg h2.inv d k
    rw [s4, s3]
    by_cases e : d = 0
    · subst e
      rw [if_neg (fun h => by cases h.1)]
      by_cases p : 0 < T2.S 0 k
      · rw [if_pos ⟨rfl, p⟩]
      · rw [if_neg (fun h => p h.2)]; omega
    · have e1' : d = 1 := by omega
      subst e1'
      have q : ¬ ((1 : Nat) = 0 ∧ 0 < T2.S 1 k) := fun h => by cases h.1
      rw [if_neg q]
      by_cases p : 0 < T2.S 1 k
      · rw [if_pos ⟨rfl, p⟩]
      · rw [if_neg (fun h => p h.2)]; omega
  · rw [(a4 0 a (by omega)).2.1, (a3 0 a (by omega)).2.1, (hat 0 a).2.1, if_pos (.inl ⟨rfl, rfl⟩)]
  · rw [(a4 1 (11 - a) (by omega)).2.1, (a3 1 (11 - a) (by omega)).2.1, (hat 1 (11 - a)).2.1, if_pos (.inr ⟨rfl, rfl⟩)]
  · have hp := (hat 0 a).2.2.1 (.inl ⟨rfl, rfl⟩)
    rw [(a4 0 a (by omega)).1, if_neg (fun h => by cases h.1), (a3 0 a (by omega)).1, if_pos ⟨rfl, hp⟩, (hat 0 a).2.1, if_pos (.inl ⟨rfl, rfl⟩)]
/-- what is calm but for an armed write -/
def BankT.aw (T : BankT) (x a m : Int) : BankT := { T with writes := x, armed := a, mask := m }
theorem Still.aw {T : BankT} {n z : Nat} (h : Still T n z) {x m : Int} (hx : 0 ≤ x) (hm : 0 ≤ m ∧ m < 18446744073709551616) : Still (T.aw x 0 m) n z :=
  ⟨⟨⟨h.inv.ok, h.inv.clk, hx, ⟨Int.le_refl _, by show (0 : Int) < 9223372036854775808; decide⟩, hm, h.inv.top, h.inv.uniq⟩, h.len, h.sz⟩, h.up, rfl, h.dead, h.fail⟩
theorem put_aw (T : BankT) (x a m : Int) (k b : Nat) (s : List Int) : (T.aw x a m).put k b s = (T.put k b s).aw x a m := by
  unfold BankT.put BankT.aw
  show (if (T.d k).sin.getD b 0 = 0 then _ else _) = _
  split <;> rfl
theorem aw_tick {T : BankT} {n z : Nat} (h : Still T n z) (x k m : Int) (hk : 0 < k) : (T.aw x k m).tick = if k = 1 then ((T.aw (x + 1) 0 m).crash m, false) else (T.aw (x + 1) (k - 1) m, true) := by
  have e : (T.aw x k m).tickTo (T.aw x k m).l.length = T.aw (x + 1) k m := tickTo_calm (T := T.aw x k m) (fun d hd => h.fail d (by rw [← h.len]; exact hd)) (Nat.le_refl _)
  unfold BankT.tick
  rw [if_neg (show ¬ (T.aw x k m).down = true by show ¬ T.down = true; rw [h.up]; decide), e, if_pos (show 0 < (T.aw (x + 1) k m).armed from hk)]
  by_cases h1 : k = 1
  · subst h1; rfl
  · rw [if_neg (show ¬ (T.aw (x + 1) k m).armed = 1 from h1), if_neg h1]; rfl
theorem aw_hit {T : BankT} {n z : Nat} (h : Still T n z) (x m d b : Int) (s : List Int) : (T.aw x 1 m).write d b s = ((T.aw (x + 1) 0 m).crash m, 6) := by
  unfold BankT.write
  rw [aw_tick h x 1 m (by decide)]; rfl
theorem aw_miss {T : BankT} {n z : Nat} (h : Still T n z) (x m : Int) {d b : Nat} (hd : d < n) (hb : b < z) (s : List Int) : (T.aw x 2 m).write (d : Int) (b : Int) s = ((T.put d b s).aw (x + 1) 1 m, 0) := by
  unfold BankT.write
  rw [aw_tick h x 2 m (by decide)]
  have hin : (T.aw (x + 1) 1 m).inE (d : Int) (b : Int) = 0 := BankT.inE_in (h.ready hd) (show b < (T.d d).sin.length by rw [h.sz d hd]; exact hb)
  have h2 : ((2 : Int) - 1) = 1 := rfl
  simp only [show ¬ ((2 : Int) = 1) by decide, if_false, h2, Bool.true_eq_false, hin, if_true, Int.toNat_natCast]
  rw [put_aw]
theorem down_read {T : BankT} (h : Still T 2 12) (m : Int) {d : Nat} (hd : d < 2) (b : Int) : (T.crash m).read (d : Int) b = (zeroB, 6) := by
  obtain ⟨r1, r2, r3, r4, r5⟩ := BankT.crash_rest h.inv h.up m
  have hr : (T.crash m).readyE (d : Int) = 6 := by
    unfold BankT.readyE
    rw [if_neg (by rw [T.crash_len m, h.len]; omega), Int.toNat_natCast, (r5 d).1, h.dead d hd, if_neg (by decide), r1]; rfl
  unfold BankT.read
  rw [BankT.inE_no (by rw [hr]; decide), hr, if_neg (by decide)]
theorem down_fin {V : BankT} (h : Still V 2 12) (m : Int) {a : Nat} (ha : a < 8) : (V.crash m).mRead 0 (a : Int) 1 ((11 - a : Nat) : Int) = (zeroB, 6) ∧ (V.crash m).mAlike 0 (a : Int) 1 ((11 - a : Nat) : Int) = (V.crash m, false, 6) ∧
    (V.crash m).start.read 0 (a : Int) = ((V.crash m).N 0 a, 0) ∧ (V.crash m).start.read 1 ((11 - a : Nat) : Int) = ((V.crash m).N 1 (11 - a), 0) ∧ (V.crash m).start.mRead 0 (a : Int) 1 ((11 - a : Nat) : Int) = ((V.crash m).N 0 a, 0) ∧ Still (V.crash m).start 2 12 := by
  have d0 := down_read h m (d := 0) (by decide) (a : Int)
  rw [show ((0 : Nat) : Int) = 0 from rfl] at d0
  obtain ⟨k1, _⟩ := h.crash m
  have r0 := k1.read (d := 0) (a := a) (by decide) (by omega)
  have r1 := k1.read (d := 1) (a := 11 - a) (by decide) (by omega)
  rw [show ((0 : Nat) : Int) = 0 from rfl] at r0
  rw [show ((1 : Nat) : Int) = 1 from rfl] at r1
  refine ⟨?_, ?_, r0, r1, ?_, k1⟩
  · unfold BankT.mRead; rw [d0]; rfl
  · unfold BankT.mAlike; rw [d0]; rfl
  · unfold BankT.mRead; rw [r0]; rfl
theorem crash_keeps {V : BankT} (h : Still V 2 12) (m : Int) {d k : Nat} (hd : d < 2) (hk : k < 12) (h0 : V.S d k = 0) : (V.crash m).N d k = V.N d k :=
  (BankT.crash_still h.inv h.up m (c := d) (k := k) (fun hm => by have := (BankT.order_iff h.toShape hd hk).1 hm; omega)).2.1
theorem down_law {T : BankT} (h : Still T 2 12) (hc : T.clock ≤ 100) (hw : T.writes ≤ 100) {a : Nat} (ha : a < 8) (hidle : ∀ d k, d < 2 → k < 12 → T.S d k = 0) {x : List Int} (hN0 : T.N 0 a = x) (hN1 : T.N 1 (11 - a) = x) (hF : T.F 0 a = x) {k : Nat} (hk : k < 2) (mask : Int) (hm : 0 ≤ mask ∧ mask < 18446744073709551616) {s : List Int} (hs : s.length = 64 ∧ ∀ x ∈ s, IsByte x) :
    ∃ T6 s', (T.arm (1 + (k : Int)) mask).Use ∧ ((T.arm (1 + (k : Int)) mask).write 0 (a : Int) s).1.Use ∧ (T.arm (1 + (k : Int)) mask).mWrite 0 (a : Int) 1 ((11 - a : Nat) : Int) s = (T6, 6) ∧ T6.Use ∧ T6.start.Use ∧ T6.mRead 0 (a : Int) 1 ((11 - a : Nat) : Int) = (zeroB, 6) ∧
      T6.mAlike 0 (a : Int) 1 ((11 - a : Nat) : Int) = (T6, false, 6) ∧ T6.start.read 0 (a : Int) = (s', 0) ∧ T6.start.read 1 ((11 - a : Nat) : Int) = (x, 0) ∧ T6.start.mRead 0 (a : Int) 1 ((11 - a : Nat) : Int) = (s', 0) ∧ s'.length = 64 ∧ (s' = x ∨ s' = s ∧ k = 1) := by
  have hwr := h.inv.wr
  have harm : (T.arm (1 + (k : Int)) mask) = T.aw T.writes (1 + (k : Int)) mask := by
    unfold BankT.arm BankT.aw; rw [show max (1 + (k : Int)) 0 = 1 + (k : Int) by omega]
  have hinv : (T.arm (1 + (k : Int)) mask).Inv := ⟨h.inv.ok, h.inv.clk, h.inv.wr, by show 0 ≤ max (1 + (k : Int)) 0 ∧ max (1 + (k : Int)) 0 < 9223372036854775808; omega, hm, h.inv.top, h.inv.uniq⟩
  have hu : (T.arm (1 + (k : Int)) mask).Use := ⟨hinv, by show T.l.length ≠ 0; rw [h.len]; decide, by show T.clock < 1000000000; omega, by show T.writes < 1000000000; omega⟩
  have hu1 : ((T.arm (1 + (k : Int)) mask).write 0 (a : Int) s).1.Use := by
    obtain ⟨r1, r2, r3⟩ := BankT.write_rest hinv.ok 0 (a : Int) s
    refine ⟨hinv.write 0 (a : Int) hs, by rw [r1]; show T.l.length ≠ 0; rw [h.len]; decide, ?_, ?_⟩
    · have : (T.arm (1 + (k : Int)) mask).clock = T.clock := rfl
      omega
    · have : (T.arm (1 + (k : Int)) mask).writes = T.writes := rfl
      omega
  suffices key : ∃ V : BankT, Still V 2 12 ∧ V.clock ≤ 200 ∧ V.writes ≤ 200 ∧ (T.arm (1 + (k : Int)) mask).mWrite 0 (a : Int) 1 ((11 - a : Nat) : Int) s = (V.crash mask, 6) ∧ (V.crash mask).N 1 (11 - a) = x ∧ ((V.crash mask).N 0 a = x ∨ (V.crash mask).N 0 a = s ∧ k = 1) by
    obtain ⟨V, hV, c1, c2, he, hx1, hx0⟩ := key
    obtain ⟨f1, f2, f3, f4, f5, f6⟩ := down_fin hV mask ha
    obtain ⟨r1, r2, r3, r4, r5⟩ := BankT.crash_rest hV.inv hV.up mask
    obtain ⟨k1, k2, k3, k4, k5⟩ := hV.crash mask
    exact ⟨V.crash mask, (V.crash mask).N 0 a, hu, hu1, he, ⟨k4.inv, by rw [k4.len]; decide, by omega, by omega⟩, ⟨f6.inv, by rw [f6.len]; decide, by show (V.crash mask).clock < _; omega, by show (V.crash mask).writes < _; omega⟩, f1, f2, f3, by rw [f4, hx1], f5, (f6.toShape.N_len (d := 0) (a := a) (by decide) (by omega)).1, hx0⟩
  have hk' : k = 0 ∨ k = 1 := by omega
  rcases hk' with rfl | rfl
  · have hV : Still (T.aw (T.writes + 1) 0 mask) 2 12 := h.aw (by omega) hm
    refine ⟨_, hV, by show T.clock ≤ 200; omega, by show T.writes + 1 ≤ 200; omega, ?_, ?_, .inl ?_⟩
    · unfold BankT.mWrite
      rw [harm, show (1 + ((0 : Nat) : Int)) = 1 from rfl, aw_hit h, if_pos ⟨show (6 : Int) ≠ 0 by decide, show lostB 6 = false by decide⟩]
    · rw [crash_keeps hV mask (by decide) (by omega) (hidle 1 (11 - a) (by decide) (by omega))]; exact hN1
    · rw [crash_keeps hV mask (by decide) (by omega) (hidle 0 a (by decide) (by omega))]; exact hN0
  · have hP : Still (T.put 0 a s) 2 12 := h.put (by decide) (by omega) hs
    have hV : Still ((T.put 0 a s).aw (T.writes + 1 + 1) 0 mask) 2 12 := hP.aw (by omega) hm
    have hcl : (T.put 0 a s).clock ≤ T.clock + 1 := by rw [BankT.put_clock]; split <;> omega
    have hat : ∀ c j, ((T.put 0 a s).aw (T.writes + 1 + 1) 0 mask).N c j = (if c = 0 ∧ j = a then s else T.N c j) ∧ ((T.put 0 a s).aw (T.writes + 1 + 1) 0 mask).S c j = (if c = 0 ∧ j = a then T.stamp 0 a else T.S c j) ∧ ((T.put 0 a s).aw (T.writes + 1 + 1) 0 mask).F c j = T.F c j := fun c j => by
      obtain ⟨b1, b2, b3⟩ := BankT.put_at h.inv.ok (d := 0) (a := a) (by rw [h.len]; decide) (by rw [h.sz 0 (by decide)]; omega) s c j
      exact ⟨b2, b3, b1⟩
    refine ⟨_, hV, by show (T.put 0 a s).clock ≤ 200; omega, by show T.writes + 1 + 1 ≤ 200; omega, ?_, ?_, ?_⟩
    · have e1 := aw_miss h T.writes mask (d := 0) (b := a) (by decide) (by omega) s
      rw [show ((0 : Nat) : Int) = 0 from rfl] at e1
      unfold BankT.mWrite
      rw [harm, show (1 + ((1 : Nat) : Int)) = 2 from rfl, e1]
      simp only []
      rw [if_neg (fun h => h.1 rfl), aw_hit hP, if_pos ⟨show (6 : Int) ≠ 0 by decide, show lostB 6 = false by decide⟩]
    · obtain ⟨n1, s1, _⟩ := hat 1 (11 - a)
      rw [crash_keeps hV mask (by decide) (by omega) (by rw [s1, if_neg (fun h => by cases h.1)]; exact hidle 1 (11 - a) (by decide) (by omega)), n1, if_neg (fun h => by cases h.1)]
      exact hN1
    · obtain ⟨n0, s0, f0⟩ := hat 0 a
      rw [if_pos ⟨rfl, rfl⟩] at n0 s0
      by_cases hmem : (0, a) ∈ ((T.put 0 a s).aw (T.writes + 1 + 1) 0 mask).order
      · obtain ⟨j, hj, hjo⟩ := List.getElem_of_mem hmem
        rw [(BankT.crash_loose hV.inv hV.up mask hj hjo).2.1, n0, f0, hF]
        split
        · exact .inr ⟨rfl, rfl⟩
        · exact .inl rfl
      · rw [(BankT.crash_still hV.inv hV.up mask hmem).2.1, n0]
        exact .inr ⟨rfl, rfl⟩
end Go.Proofs.Ytcbghpcohbgcjaa
