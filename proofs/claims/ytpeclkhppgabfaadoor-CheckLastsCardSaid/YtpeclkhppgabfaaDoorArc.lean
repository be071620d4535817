/- As XArm, with one thing more: behind the fall nothing is loose. -/
import Derived.Test.YtpeclkhppgabfaaDoorArm
namespace Go.Proofs.YtpeclkhppgabfaaDoor
open Go.RowKit
set_option linter.unusedVariables false
set_option linter.unusedSimpArgs false

structure Arc (T : BankT) (n z : Nat) (V : Nat → Nat → List Int → Prop) (t : Nat) : Prop where
  st : Still (T.re T.writes 0 T.mask) n z
  inv : T.Inv
  val : ∀ c, c < n → ∀ k, k < z → V c k (T.N c k) ∧ V c k (T.F c k)
  clk : T.clock ≤ t
  wri : T.writes ≤ t
  syn : ∀ c, c < n → Sync T z c
/-- the power has failed -/
structure Fec (T : BankT) (n z : Nat) (V : Nat → Nat → List Int → Prop) (t : Nat) : Prop where
  st : Still T.start n z
  inv : T.Inv
  down : T.down = true
  val : ∀ c, c < n → ∀ k, k < z → V c k (T.N c k)
  clk : T.clock ≤ t
  wri : T.writes ≤ t
  clean : ∀ c, c < n → Clean T z c
section
variable {T : BankT} {n z t : Nat} {V V' : Nat → Nat → List Int → Prop}
theorem Arc.up (h : Arc T n z V t) : T.down = false := h.st.up
theorem Arc.mono (h : Arc T n z V t) {t' : Nat} (ht : t ≤ t') : Arc T n z V t' := ⟨h.st, h.inv, h.val, by have := h.clk; omega, by have := h.wri; omega, h.syn⟩
theorem Arc.reV (h : Arc T n z V t) (hv : ∀ c, c < n → ∀ k, k < z → V' c k (T.N c k) ∧ V' c k (T.F c k)) : Arc T n z V' t := ⟨h.st, h.inv, hv, h.clk, h.wri, h.syn⟩
theorem Arc.useN (h : Arc T n z V t) (hn : n ≠ 0) (k : Nat) (hk : t + k < 1000000000) : T.UseN k := ⟨h.inv, by have : T.l.length = n := h.st.len; rw [this]; exact hn, by have := h.clk; omega, by have := h.wri; omega⟩
theorem Arc.crash (h : Arc T n z V t) (mask : Int) : Fec (T.crash mask) n z V t := by
  obtain ⟨k1, k2, k3, k4, k5⟩ := h.st.crash mask
  have e : T.crash mask = ((T.re T.writes 0 T.mask).crash mask).re T.writes 0 T.mask := by
    rw [← re_crash T.writes T.armed T.mask h.st.up mask]; rfl
  have hst : Still (T.crash mask).start n z := by
    rw [e, re_start]
    exact k1.reA h.inv.wr h.inv.msk
  obtain ⟨r1, _, r3, r4, _⟩ := BankT.crash_rest h.inv h.up mask
  refine ⟨hst, h.inv.crash mask, r1, fun c hc k hk => ?_, by rw [r4]; exact h.clk, by rw [r3]; exact h.wri, fun c hc k hk => ?_⟩
  rotate_left
  · by_cases hm : (c, k) ∈ T.order
    · obtain ⟨j, hj, hje⟩ := List.getElem_of_mem hm
      obtain ⟨q1, q2, q3⟩ := BankT.crash_loose h.inv h.up mask hj hje
      rw [q1, q2, q3]; exact ⟨by decide, rfl⟩
    · obtain ⟨q1, q2, q3⟩ := BankT.crash_still h.inv h.up mask hm
      have hn : ¬ 0 < T.S c k := fun h0 => hm ((BankT.order_iff (⟨h.inv, h.st.len, h.st.sz⟩ : Shape T n z) hc hk).2 h0)
      rw [q1, q2, q3]; exact ⟨hn, h.syn c hc k hk hn⟩
  by_cases hm : (c, k) ∈ T.order
  · obtain ⟨j, hj, hje⟩ := List.getElem_of_mem hm
    have := (BankT.crash_loose h.inv h.up mask hj hje).2.1
    rw [this]
    split
    · exact (h.val c hc k hk).1
    · exact (h.val c hc k hk).2
  · rw [(BankT.crash_still h.inv h.up mask hm).2.1]; exact (h.val c hc k hk).1
theorem Arc.write (h : Arc T n z V t) {d a : Nat} (hd : d < n) (ha : a < z) {s : List Int} (hs : SecB s) (hv : V d a s) :
    (∃ T', T.write (d : Int) (a : Int) s = (T', 0) ∧ Arc T' n z V (t + 1) ∧ (∀ c k, T'.F c k = T.F c k ∧ T'.N c k = (if c = d ∧ k = a then s else T.N c k) ∧ (0 < T'.S c k ↔ (c = d ∧ k = a) ∨ 0 < T.S c k)) ∧ (T.armed = 0 → T'.armed = 0)) ∨
    (∃ T', T.write (d : Int) (a : Int) s = (T', 6) ∧ Fec T' n z V (t + 1) ∧ T.armed ≠ 0) := by
  obtain ⟨U, hU⟩ : ∃ U, U = T.re T.writes 0 T.mask := ⟨_, rfl⟩
  have hT : T = U.re T.writes T.armed T.mask := by rw [hU]; rfl
  have hst := h.st
  rw [← hU] at hst
  have har := h.inv.ar
  have hwr := h.inv.wr
  have hms := h.inv.msk
  have htk := re_tickA hst T.writes T.armed T.mask har.1
  rw [← hT] at htk
  by_cases h1 : T.armed = 1
  · right
    rw [if_pos h1] at htk
    have hre : Still (U.re (T.writes + 1) 0 T.mask) n z := hst.reA (by omega) hms
    have hA : Arc (U.re (T.writes + 1) 0 T.mask) n z V (t + 1) := ⟨hre, hre.inv, by rw [hU]; exact h.val, by rw [hU]; show T.clock ≤ _; have := h.clk; omega, by show T.writes + 1 ≤ _; have := h.wri; omega, by rw [hU]; exact h.syn⟩
    refine ⟨_, ?_, hA.crash T.mask, by rw [h1]; decide⟩
    unfold BankT.write
    rw [htk]; rfl
  · left
    rw [if_neg h1] at htk
    obtain ⟨k, hk⟩ : ∃ k, k = if T.armed = 0 then 0 else T.armed - 1 := ⟨_, rfl⟩
    rw [← hk] at htk
    have hk0 : 0 ≤ k ∧ k < 9223372036854775808 := by rw [hk]; split <;> omega
    have hin : (U.re (T.writes + 1) k T.mask).inE (d : Int) (a : Int) = 0 := by
      rw [re_inE]; exact BankT.inE_in (hst.ready hd) (by rw [hst.sz d hd]; exact ha)
    have hdl : d < U.l.length := by rw [hst.len]; exact hd
    have hal : a < (U.d d).sin.length := by rw [hst.sz d hd]; exact ha
    have hp := hst.put hd ha hs
    have hat := fun c k => BankT.put_at hst.inv.ok hdl hal s c k
    have hFN : ∀ c k, T.F c k = U.F c k ∧ T.N c k = U.N c k ∧ T.S c k = U.S c k := fun c k => by rw [hU]; exact ⟨rfl, rfl, rfl⟩
    have hcl : (U.put d a s).clock ≤ T.clock + 1 := by
      rw [BankT.put_clock]
      have : U.clock = T.clock := by rw [hU]; rfl
      split <;> omega
    refine ⟨(U.put d a s).re (T.writes + 1) k T.mask, ?_, ⟨?_, re_inv hp.inv (by omega) hk0 hms, fun c hc k' hk' => ?_, ?_, ?_, fun c hc k' hk' hn => ?_⟩, fun c k' => ?_, fun h0 => by show k = 0; rw [hk, if_pos h0]⟩
    · unfold BankT.write
      rw [htk]
      simp only [Bool.true_eq_false, if_false, hin, if_true, Int.toNat_natCast]
      rw [re_put]
    · exact hp.reA (x := T.writes + 1) (m := T.mask) (by omega) hms
    · show V c k' ((U.put d a s).N c k') ∧ V c k' ((U.put d a s).F c k')
      rw [(hat c k').2.1, (hat c k').1, ← (hFN c k').1, ← (hFN c k').2.1]
      refine ⟨?_, (h.val c hc k' hk').2⟩
      split
      · rename_i e; rw [e.1, e.2]; exact hv
      · exact (h.val c hc k' hk').1
    · show (U.put d a s).clock ≤ _; have := h.clk; omega
    · show T.writes + 1 ≤ _; have := h.wri; omega
    · have hn' : ¬ 0 < (U.put d a s).S c k' := hn
      show (U.put d a s).F c k' = (U.put d a s).N c k'
      rw [(hat c k').2.2] at hn'
      rw [(hat c k').1, (hat c k').2.1]
      by_cases e : c = d ∧ k' = a
      · rw [if_pos e] at hn'; exact absurd (stampP hst.inv d a) hn'
      · rw [if_neg e] at hn' ⊢
        rw [← (hFN c k').1, ← (hFN c k').2.1]; rw [← (hFN c k').2.2] at hn'
        exact h.syn c hc k' hk' hn'
    · show (U.put d a s).F c k' = _ ∧ (U.put d a s).N c k' = _ ∧ (0 < (U.put d a s).S c k' ↔ _)
      rw [(hat c k').1, (hat c k').2.1, (hat c k').2.2, (hFN c k').1, (hFN c k').2.1, (hFN c k').2.2]
      refine ⟨rfl, rfl, ?_⟩
      by_cases e : c = d ∧ k' = a
      · rw [if_pos e]
        exact ⟨fun _ => .inl e, fun _ => stampP hst.inv d a⟩
      · rw [if_neg e]
        exact ⟨fun x => .inr x, fun x => x.resolve_left e⟩
theorem Arc.flush (h : Arc T n z V t) {d : Nat} (hd : d < n) :
    ∃ T', T.flushC (d : Int) = (T', 0) ∧ T'.armed = T.armed ∧ Arc T' n z V t ∧ Clean T' z d ∧ (∀ k, k < z → T'.N d k = T.N d k) ∧ ∀ c, c ≠ d → ∀ k, k < z → T'.F c k = T.F c k ∧ T'.N c k = T.N c k ∧ T'.S c k = T.S c k := by
  obtain ⟨U, hU⟩ : ∃ U, U = T.re T.writes 0 T.mask := ⟨_, rfl⟩
  have hT : T = U.re T.writes T.armed T.mask := by rw [hU]; rfl
  have hst := h.st
  rw [← hU] at hst
  obtain ⟨F, e, hf, c1, c2, r⟩ := hst.flush hd
  have hFN : ∀ c k, T.F c k = U.F c k ∧ T.N c k = U.N c k ∧ T.S c k = U.S c k := fun c k => by rw [hU]; exact ⟨rfl, rfl, rfl⟩
  have hfl := re_flushC U T.writes T.armed T.mask (d : Int)
  rw [← hT, e] at hfl
  refine ⟨_, hfl, rfl, ⟨?_, re_inv hf.inv h.inv.wr h.inv.ar h.inv.msk, fun c hc k hk => ?_, ?_, ?_, fun c hc k hk hn => ?_⟩, fun k hk => ?_, fun k hk => ?_, fun c hc k hk => ?_⟩
  · exact hf.reA (x := T.writes) (m := T.mask) h.inv.wr h.inv.msk
  · show V c k (F.N c k) ∧ V c k (F.F c k)
    obtain ⟨r1, r2, _⟩ := r c k hk
    rw [r1, r2, ← (hFN c k).1, ← (hFN c k).2.1]
    refine ⟨(h.val c hc k hk).1, ?_⟩
    split
    · exact (h.val c hc k hk).1
    · exact (h.val c hc k hk).2
  · show F.clock ≤ _; rw [c1, hU]; exact h.clk
  · exact h.wri
  · have hn' : ¬ 0 < F.S c k := hn
    show F.F c k = F.N c k
    obtain ⟨r1, r2, r3⟩ := r c k hk
    rw [r3] at hn'
    rw [r1, r2]
    by_cases e : c = d ∧ 0 < U.S c k
    · rw [if_pos e]
    · rw [if_neg e] at hn' ⊢
      rw [← (hFN c k).1, ← (hFN c k).2.1]; rw [← (hFN c k).2.2] at hn'
      exact h.syn c hc k hk hn'
  · show ¬ 0 < F.S d k ∧ F.F d k = F.N d k
    obtain ⟨r1, r2, r3⟩ := r d k hk
    rw [r1, r2, r3, ← (hFN d k).1, ← (hFN d k).2.1, ← (hFN d k).2.2]
    by_cases e : 0 < T.S d k
    · rw [if_pos ⟨rfl, e⟩, if_pos ⟨rfl, e⟩]; exact ⟨by decide, rfl⟩
    · rw [if_neg (fun x => e x.2), if_neg (fun x => e x.2)]; exact ⟨e, h.syn d hd k hk e⟩
  · show F.N d k = _
    rw [(r d k hk).2.1, ← (hFN d k).2.1]
  · show F.F c k = _ ∧ F.N c k = _ ∧ F.S c k = _
    obtain ⟨r1, r2, r3⟩ := r c k hk
    rw [r1, r2, r3, if_neg (fun x => hc x.1), if_neg (fun x => hc x.1), (hFN c k).1, (hFN c k).2.1, (hFN c k).2.2]
    exact ⟨rfl, rfl, rfl⟩
/-- parts laid on a disk: all, and flushed, or the power fails -/
theorem Arc.layL {d : Nat} (hd : d < n) : ∀ (P : List (List Int)) {T : BankT} {t p : Nat}, Arc T n z V t → (∀ s ∈ P, SecB s) → p + P.length ≤ z → (∀ i, i < P.length → V d (p + i) (P.getD i [])) →
    (∃ T', BankT.layL (d : Int) (p : Int) P T = (T', 0) ∧ Arc T' n z V (t + P.length) ∧ Clean T' z d ∧ (∀ k, k < z → T'.N d k = if p ≤ k ∧ k < p + P.length then P.getD (k - p) [] else T.N d k) ∧ (∀ c, c ≠ d → ∀ k, k < z → T'.F c k = T.F c k ∧ T'.N c k = T.N c k ∧ (0 < T'.S c k ↔ 0 < T.S c k)) ∧ (T.armed = 0 → T'.armed = 0)) ∨
    (∃ T', BankT.layL (d : Int) (p : Int) P T = (T', 6) ∧ Fec T' n z V (t + P.length) ∧ T.armed ≠ 0)
  | [], T, t, p, h, _, _, _ => by
    obtain ⟨T', e, h0, h1, h2, h3, h4⟩ := h.flush hd
    refine .inl ⟨T', by unfold BankT.layL; exact e, h1, h2, fun k hk => ?_, fun c hc k hk => ?_, fun ha => h0.trans ha⟩
    · rw [if_neg (by simp only [List.length_nil]; omega)]; exact h3 k hk
    · obtain ⟨a, b, c'⟩ := h4 c hc k hk
      exact ⟨a, b, by rw [c']⟩
  | s :: P, T, t, p, h, hP, hp, hv => by
    rw [List.length_cons] at hp
    have hv0 : V d p s := by have := hv 0 (by simp); simpa using this
    rcases h.write hd (show p < z by omega) (hP s (by simp)) hv0 with ⟨T1, e1, h1, r1, ra⟩ | ⟨T1, e1, h1, ra⟩
    · skip
      have hstep : BankT.layL (d : Int) (p : Int) (s :: P) T = BankT.layL (d : Int) ((p + 1 : Nat) : Int) P T1 := by
        conv => lhs; unfold BankT.layL
        rw [e1]
        simp only [if_true]
        rw [show (p : Int) + 1 = ((p + 1 : Nat) : Int) by omega]
      rcases Arc.layL hd P (p := p + 1) h1 (fun x hx => hP x (by simp [hx])) (by omega) (fun i hi => by
        have := hv (i + 1) (by simp; exact hi)
        rw [show p + 1 + i = p + (i + 1) by omega]; simpa using this) with ⟨T', e, h2, h3, h4, h5, hb⟩ | ⟨T', e, h2, hb⟩
      · refine .inl ⟨T', hstep.trans e, h2.mono (by rw [List.length_cons]; omega), h3, fun k hk => ?_, fun c hc k hk => ?_, fun ha => hb (ra ha)⟩
        · rw [h4 k hk, List.length_cons, (r1 d k).2.1]
          by_cases b : k = p
          · rw [if_neg (by omega), if_pos ⟨rfl, b⟩, if_pos ⟨by omega, by omega⟩, b, Nat.sub_self]; rfl
          · by_cases cc : p + 1 ≤ k ∧ k < p + 1 + P.length
            · rw [if_pos cc, if_pos ⟨by omega, by omega⟩, show k - p = (k - (p + 1)) + 1 by omega]; rfl
            · rw [if_neg cc, if_neg (fun h => b h.2), if_neg (fun h => by omega)]
        · obtain ⟨a, b, c'⟩ := h5 c hc k hk
          obtain ⟨a1, b1, c1⟩ := r1 c k
          refine ⟨a.trans a1, b.trans (by rw [b1, if_neg (fun e => hc e.1)]), c'.trans (c1.trans ⟨fun x => x.resolve_left (fun e => hc e.1), .inr⟩)⟩
      · exact .inr ⟨T', hstep.trans e, by have := h2; rw [List.length_cons, show t + (P.length + 1) = t + 1 + P.length by omega]; exact this, fun ha => hb (ra ha)⟩
    · refine .inr ⟨T1, ?_, ⟨h1.st, h1.inv, h1.down, h1.val, by have := h1.clk; rw [List.length_cons]; omega, by have := h1.wri; rw [List.length_cons]; omega, h1.clean⟩, ra⟩
      unfold BankT.layL
      rw [e1]
      simp only []
      rw [if_neg (by decide)]
/-- .. on all members -/
theorem Arc.layM {p : Nat} {P : List (List Int)} (hP : ∀ s ∈ P, SecB s) (hp : p + P.length ≤ z) : ∀ (L : List Nat) (m : Nat) {T : BankT} {t : Nat}, (∀ d ∈ L, d < n) → (L ≠ [] ∨ m ≠ 0) → Arc T n z V t → (∀ c, c < n → Clean T z c) → (∀ d, d < n → ∀ i, i < P.length → V d (p + i) (P.getD i [])) →
    (∃ T', BankT.layM (p : Int) P (natI0 L) m T = (T', 0) ∧ Arc T' n z V (t + L.length * P.length) ∧ (∀ c, c < n → Clean T' z c) ∧ (∀ c, c < n → ∀ k, k < z → T'.N c k = layAll T.N p P L c k) ∧ (T.armed = 0 → T'.armed = 0)) ∨
    (∃ T', BankT.layM (p : Int) P (natI0 L) m T = (T', 6) ∧ Fec T' n z V (t + L.length * P.length) ∧ T.armed ≠ 0)
  | [], m, T, t, _, h0, h, hc, _ => .inl ⟨T, by
      have hm : m ≠ 0 := h0.resolve_left (fun h => h rfl)
      show (T, if m = 0 then (5 : Int) else 0) = (T, 0)
      rw [if_neg hm], h.mono (by omega), hc, fun c _ k _ => rfl, fun ha => ha⟩
  | d :: L, m, T, t, hL, h0, h, hc, hv => by
    have hd := hL d (by simp)
    rcases Arc.layL hd P (p := p) h hP hp (fun i hi => hv d hd i hi) with ⟨T1, e1, h1, h2, h3, h4, ra⟩ | ⟨T1, e1, h1, ra⟩
    · have hstep : BankT.layM (p : Int) P (natI0 (d :: L)) m T = BankT.layM (p : Int) P (natI0 L) (m + 1) T1 := by
        show BankT.layM (p : Int) P ((d : Int) :: natI0 L) m T = _
        conv => lhs; unfold BankT.layM
        rw [e1]
        simp only [if_true]
      have hc1 : ∀ c, c < n → Clean T1 z c := fun c hcn => by
        by_cases e : c = d
        · rw [e]; exact h2
        · intro k hk
          obtain ⟨a, b, c'⟩ := h4 c e k hk
          rw [a, b, c']; exact hc c hcn k hk
      rcases Arc.layM hP hp L (m + 1) (fun x hx => hL x (by simp [hx])) (.inr (by omega)) h1 hc1 hv with ⟨T', e, g1, g2, g3, hb⟩ | ⟨T', e, g1, hb⟩
      · refine .inl ⟨T', hstep.trans e, g1.mono (by rw [List.length_cons, Nat.succ_mul]; omega), g2, fun c hcn k hk => ?_, fun ha => hb (ra ha)⟩
        rw [g3 c hcn k hk]
        show _ = layAll (layN T.N d p P) p P L c k
        rw [layAll_at, layAll_at]
        by_cases hh : c ∈ L ∧ p ≤ k ∧ k < p + P.length
        · rw [if_pos hh, if_pos hh]
        · rw [if_neg hh, if_neg hh]
          unfold layN
          by_cases e : c = d
          · rw [e, h3 k hk]
            by_cases hr : p ≤ k ∧ k < p + P.length
            · rw [if_pos hr, if_pos ⟨rfl, hr⟩]
            · rw [if_neg hr, if_neg (fun x => hr x.2)]
          · rw [(h4 c e k hk).2.1, if_neg (fun x => e x.1)]
      · refine .inr ⟨T', hstep.trans e, ⟨g1.st, g1.inv, g1.down, g1.val, ?_, ?_, g1.clean⟩, fun ha => hb (ra ha)⟩
        · have := g1.clk; rw [List.length_cons, Nat.succ_mul]; omega
        · have := g1.wri; rw [List.length_cons, Nat.succ_mul]; omega
    · refine .inr ⟨T1, ?_, ⟨h1.st, h1.inv, h1.down, h1.val, ?_, ?_, h1.clean⟩, ra⟩
      · show BankT.layM (p : Int) P ((d : Int) :: natI0 L) m T = _
        unfold BankT.layM
        rw [e1]
        simp only []
        rw [if_neg (by decide), if_neg (by decide)]
      · have := h1.clk; rw [List.length_cons, Nat.succ_mul]; omega
      · have := h1.wri; rw [List.length_cons, Nat.succ_mul]; omega
/-- started again: a quiet bank -/
theorem Fec.quiet (h : Fec T n z V t) : Quiet T.start n z (fun _ => false) T.N t := ⟨h.st.live, h.st.dead, h.st.fail, fun c hc _ k hk => rfl, h.clk, h.wri⟩
end
end Go.Proofs.YtpeclkhppgabfaaDoor
