/- DiskFails: the plain law. -/
import Derived.Test.YtcbghpcohbgcjaaDli
namespace Go.Proofs.Ytcbghpcohbgcjaa
open Go.RowKit
set_option linter.unusedVariables false
set_option linter.unusedSimpArgs false

/-- a place reads alike in both -/
def Alike2 (Ta Tb : BankT) (d k : Nat) : Prop := Ta.F d k = Tb.F d k ∧ Ta.N d k = Tb.N d k ∧ (0 < Ta.S d k ↔ 0 < Tb.S d k)
/-- who fails at the n-th write of a, nobody of b; c writes have been -/
structure FaI (who n c : Nat) (Ta Tb : BankT) : Prop where
  sa : Shape Ta 3 8
  sb : Still Tb 3 8
  up : Ta.down = false
  arm : Ta.armed = 0
  wa : Ta.writes = c
  wb : Tb.writes = c
  oth : ∀ d, d < 3 → d ≠ who → (Ta.d d).dead = false ∧ (Ta.d d).fail = 0
  own : if c < n then (Ta.d who).dead = false ∧ (Ta.d who).fail = ((n - c : Nat) : Int) else (Ta.d who).dead = true ∧ (Ta.d who).fail = 0
  eq : ∀ d k, d < 3 → k < 8 → (d = who → c < n) → Alike2 Ta Tb d k
theorem stamp_pos {T : BankT} (h : T.Inv) (d a : Nat) : 0 < T.stamp d a := by
  have h0 := BankT.S_nonneg h d a
  have hc := h.clk
  unfold BankT.stamp
  unfold BankT.S at h0
  split
  · omega
  · omega
theorem tick1_other {T : BankT} {who : Nat} (hw : who < T.l.length) {d : Nat} (e : d ≠ who) : (T.tick1 who).d d = T.d d := by
  unfold BankT.tick1
  split
  · split
    · unfold BankT.fell
      rw [BankT.d_up _ (by rw [BankT.up_len]; exact hw), if_neg e, BankT.d_up _ hw, if_neg e]
    · rw [BankT.d_up _ hw, if_neg e]
  · rfl
/-- all but one have nothing to fail at -/
theorem tickTo_one {T : BankT} {who : Nat} (hf : ∀ d, d < T.l.length → d ≠ who → (T.d d).fail = 0) (hw : who < T.l.length) : ∀ {j}, j ≤ T.l.length →
    T.tickTo j = if who < j then ({ T with writes := T.writes + 1 } : BankT).tick1 who else { T with writes := T.writes + 1 }
  | 0, _ => by rw [if_neg (by omega)]; rfl
  | j + 1, hj => by
    rw [BankT.tickTo, tickTo_one hf hw (by omega)]
    by_cases e : j = who
    · subst e
      rw [if_neg (by omega), if_pos (by omega)]
    · have hd : ∀ X : BankT, (X = ({ T with writes := T.writes + 1 } : BankT).tick1 who ∨ X = { T with writes := T.writes + 1 }) → X.tick1 j = X := fun X hX => by
        refine BankT.tick1_no ?_
        have : X.d j = T.d j := by
          rcases hX with rfl | rfl
          · exact tick1_other (T := { T with writes := T.writes + 1 }) hw e
          · rfl
        rw [this, hf j (by omega) e]; decide
      by_cases h : who < j
      · rw [if_pos h, if_pos (by omega), hd _ (.inl rfl)]
      · rw [if_neg h, if_neg (by omega), hd _ (.inr rfl)]
section
variable {who n c : Nat} {Ta Tb : BankT}
theorem FaI.lw (h : FaI who n c Ta Tb) (hw : who < 3) : who < Ta.l.length := by rw [h.sa.len]; exact hw
theorem FaI.dead (h : FaI who n c Ta Tb) {d : Nat} (hd : d < 3) : (Ta.d d).dead = decide (d = who ∧ n ≤ c) := by
  by_cases e : d = who
  · have ho := h.own
    by_cases hc : c < n
    · rw [if_pos hc] at ho
      rw [e, ho.1]; simp; omega
    · rw [if_neg hc] at ho
      rw [e, ho.1]; simp; omega
  · rw [(h.oth d hd e).1]; simp [e]
theorem FaI.ready (h : FaI who n c Ta Tb) {d : Nat} (hd : d < 3) : Ta.readyE (d : Int) = if d = who ∧ n ≤ c then 7 else 0 := by
  unfold BankT.readyE
  rw [if_neg (by rw [h.sa.len]; omega), Int.toNat_natCast, h.dead hd, h.up]
  by_cases e : d = who ∧ n ≤ c
  · rw [if_pos (by simpa using e), if_pos e]
  · rw [if_neg (by simpa using e), if_neg (by decide), if_neg e]
theorem FaI.use (h : FaI who n c Ta Tb) (hc : c ≤ 1000) (h1 : Ta.clock ≤ 1000) (h2 : Tb.clock ≤ 1000) : Ta.Use ∧ Tb.Use :=
  ⟨⟨h.sa.inv, by rw [h.sa.len]; decide, by omega, by rw [h.wa]; omega⟩, ⟨h.sb.inv, by rw [h.sb.len]; decide, by omega, by rw [h.wb]; omega⟩⟩
theorem FaI.flush (h : FaI who n c Ta Tb) {d : Nat} (hd : d < 3) : ∃ e Ta' Tb', Ta.flushC (d : Int) = (Ta', e) ∧ Tb.flushC (d : Int) = (Tb', 0) ∧ FaI who n c Ta' Tb' ∧ e = (if d = who ∧ n ≤ c then 7 else 0) ∧ Ta'.clock = Ta.clock ∧ Tb'.clock = Tb.clock := by
  obtain ⟨Tb', he, hb, hk, hw', hat⟩ := h.sb.flush hd
  have hr := h.ready hd
  by_cases e : d = who ∧ n ≤ c
  · rw [if_pos e] at hr
    refine ⟨7, Ta, Tb', by unfold BankT.flushC; rw [hr, if_neg (by decide)], he, ⟨h.sa, hb, h.up, h.arm, h.wa, hw'.trans h.wb, h.oth, h.own, fun c' k hc hk' hw => ?_⟩, by rw [if_pos e], rfl, hk⟩
    have hne : c' ≠ d := fun e' => by have := hw (e'.trans e.1); omega
    obtain ⟨f1, f2, f3⟩ := h.eq c' k hc hk' hw
    obtain ⟨a1, a2, a3⟩ := hat c' k hk'
    unfold Alike2
    rw [a1, a2, a3, if_neg (fun h => hne h.1), if_neg (fun h => hne h.1)]
    exact ⟨f1, f2, f3⟩
  · rw [if_neg e] at hr
    have hda : d < Ta.l.length := by rw [h.sa.len]; exact hd
    have hsa : Shape (Ta.flush d) 3 8 := ⟨h.sa.inv.flush hda, (Ta.flush_rest d).1.trans h.sa.len, fun c' hc' => by
      unfold BankT.flush; rw [BankT.d_up _ hda]
      split
      · rw [Med.settleTo_len]; exact h.sa.sz d hd
      · exact h.sa.sz c' hc'⟩
    have hdf : ∀ c', ((Ta.flush d).d c').dead = (Ta.d c').dead ∧ ((Ta.flush d).d c').fail = (Ta.d c').fail := fun c' => by
      unfold BankT.flush; rw [BankT.d_up _ hda]
      split
      · rename_i e'; rw [Med.settleTo_dead, Med.settleTo_fail, e']; exact ⟨rfl, rfl⟩
      · exact ⟨rfl, rfl⟩
    refine ⟨0, Ta.flush d, Tb', by unfold BankT.flushC; rw [hr, if_pos rfl, Int.toNat_natCast], he, ⟨hsa, hb, h.up, h.arm, h.wa, hw'.trans h.wb, fun c' hc' hn => by rw [(hdf c').1, (hdf c').2]; exact h.oth c' hc' hn, by rw [(hdf who).1, (hdf who).2]; exact h.own, fun c' k hc hk' hw => ?_⟩, by rw [if_neg e], rfl, hk⟩
    obtain ⟨f1, f2, f3⟩ := h.eq c' k hc hk' hw
    obtain ⟨a1, a2, a3⟩ := hat c' k hk'
    obtain ⟨b1, b2, b3⟩ := BankT.flush_at h.sa.inv.ok hda c' (k := k) (by rw [h.sa.sz d hd]; exact hk')
    unfold Alike2
    rw [a1, a2, a3, b1, b2, b3]
    by_cases ec : c' = d ∧ 0 < Tb.S c' k
    · rw [if_pos ec, if_pos ec, if_pos ⟨ec.1, f3.2 ec.2⟩, if_pos ⟨ec.1, f3.2 ec.2⟩]
      exact ⟨f2, f2, Iff.rfl⟩
    · have ec' : ¬ (c' = d ∧ 0 < Ta.S c' k) := fun h => ec ⟨h.1, f3.1 h.2⟩
      rw [if_neg ec, if_neg ec, if_neg ec', if_neg ec']
      exact ⟨f1, f2, f3⟩
/-- the count of a write -/
theorem FaI.tick (h : FaI who n c Ta Tb) (hw : who < 3) (hn : 0 < n) : ∃ T2, Ta.tick = (T2, true) ∧ FaI who n (c + 1) T2 { Tb with writes := Tb.writes + 1 } ∧ T2.clock = Ta.clock := by
  have hwl := h.lw hw
  have ht := tickTo_one (T := Ta) (who := who) (fun d hd hn => (h.oth d (by rw [← h.sa.len]; exact hd) hn).2) hwl (Nat.le_refl _)
  rw [if_pos hwl] at ht
  obtain ⟨k1, k2, k3, k4, k5, k6⟩ := BankT.tickTo_calmer h.sa.inv.ok (Nat.le_refl Ta.l.length)
  have htk : Ta.tick = (Ta.tickTo Ta.l.length, true) := by
    unfold BankT.tick
    rw [if_neg (by rw [h.up]; decide), if_neg (by rw [k4, h.arm]; decide)]
  have hinv : (Ta.tickTo Ta.l.length).Inv := h.sa.inv.tickTo (Nat.le_refl _)
  refine ⟨_, htk, ?_, k1.clk⟩
  have hsb : Still ({ Tb with writes := Tb.writes + 1 } : BankT) 3 8 := h.sb.wr (by have := h.sb.inv.wr; omega)
  have hne : ∀ d, d ≠ who → (Ta.tickTo Ta.l.length).d d = Ta.d d := fun d e => by
    rw [ht]
    exact tick1_other (T := { Ta with writes := Ta.writes + 1 }) hwl e
  have ho := h.own
  refine ⟨⟨hinv, k1.len.trans h.sa.len, fun d hd => (k1.lens d).trans (h.sa.sz d hd)⟩, hsb, k6.trans h.up, k4.trans h.arm, by rw [k3, h.wa]; push_cast; rfl, by show Tb.writes + 1 = _; rw [h.wb]; push_cast; rfl, fun d hd e => by rw [hne d e]; exact h.oth d hd e, ?_, fun d k hd hk hcn => ?_⟩
  · rw [ht]
    have hself : ∀ m, (({ Ta with writes := Ta.writes + 1 } : BankT).up who m).d who = m := fun m => BankT.up_self m hwl
    have hd0 : ({ Ta with writes := Ta.writes + 1 } : BankT).d who = Ta.d who := rfl
    unfold BankT.tick1
    rw [hd0]
    by_cases hc : c < n
    · rw [if_pos hc] at ho
      rw [if_pos (show 0 < (Ta.d who).fail by rw [ho.2]; omega)]
      by_cases h1 : c + 1 = n
      · rw [if_pos (show (Ta.d who).fail = 1 by rw [ho.2]; omega), if_neg (by omega)]
        unfold BankT.fell
        rw [BankT.up_self _ (by rw [BankT.up_len]; exact hwl), Med.settleTo_dead, Med.settleTo_fail, hself]
        exact ⟨rfl, by show (Ta.d who).fail - 1 = 0; rw [ho.2]; omega⟩
      · rw [if_neg (show ¬ (Ta.d who).fail = 1 by rw [ho.2]; omega), if_pos (by omega), hself]
        exact ⟨ho.1, by show (Ta.d who).fail - 1 = _; rw [ho.2]; omega⟩
    · rw [if_neg hc] at ho
      rw [if_neg (show ¬ 0 < (Ta.d who).fail by rw [ho.2]; decide), if_neg (by omega)]
      exact ho
  · have hq : Alike2 Ta Tb d k := h.eq d k hd hk (fun e => by have := hcn e; omega)
    by_cases e : d = who
    · have hc1 := hcn e
      subst e
      have ho' := ho
      rw [if_pos (by omega)] at ho'
      have hm : (Ta.tickTo Ta.l.length).d d = (Ta.d d).less := by
        rw [ht]
        unfold BankT.tick1
        rw [if_pos (show 0 < (({ Ta with writes := Ta.writes + 1 } : BankT).d d).fail by show 0 < (Ta.d d).fail; rw [ho'.2]; omega), if_neg (show ¬ (({ Ta with writes := Ta.writes + 1 } : BankT).d d).fail = 1 by show ¬ (Ta.d d).fail = 1; rw [ho'.2]; omega)]
        exact BankT.up_self _ hwl
      unfold Alike2 BankT.F BankT.N BankT.S
      rw [hm]
      exact hq
    · unfold Alike2 BankT.F BankT.N BankT.S
      rw [hne d e]
      exact hq
theorem FaI.write (h : FaI who n c Ta Tb) (hw : who < 3) (hn : 0 < n) {d a : Nat} (hd : d < 3) (ha : a < 8) {s : List Int} (hs : s.length = 64 ∧ ∀ x ∈ s, IsByte x) :
    ∃ e Ta' Tb', Ta.write (d : Int) (a : Int) s = (Ta', e) ∧ Tb.write (d : Int) (a : Int) s = (Tb', 0) ∧ FaI who n (c + 1) Ta' Tb' ∧ e = (if d = who ∧ n ≤ c + 1 then 7 else 0) ∧ Ta'.clock ≤ Ta.clock + 1 ∧ Tb'.clock ≤ Tb.clock + 1 := by
  obtain ⟨T2, ht, h2, hclk⟩ := h.tick hw hn
  obtain ⟨Tb', he, hb, hk, hw', hat⟩ := h.sb.write hd ha hs
  have hr := h2.ready hd
  have hwb : Tb'.writes = ((c + 1 : Nat) : Int) := by rw [hw', h.wb]; push_cast; rfl
  by_cases e : d = who ∧ n ≤ c + 1
  · rw [if_pos e] at hr
    refine ⟨7, T2, Tb', ?_, he, ⟨h2.sa, hb, h2.up, h2.arm, h2.wa, hwb, h2.oth, h2.own, fun c' k hc hk' hcn => ?_⟩, by rw [if_pos e], by rw [hclk]; omega, hk⟩
    · unfold BankT.write
      rw [ht]
      simp only [Bool.true_eq_false, if_false]
      rw [BankT.inE_no (by rw [hr]; decide), hr, if_neg (by decide)]
    · have hne : ¬ (c' = d ∧ k = a) := fun e' => by have := hcn (e'.1.trans e.1); omega
      obtain ⟨f1, f2, f3⟩ := h2.eq c' k hc hk' hcn
      obtain ⟨a1, a2, a3⟩ := hat c' k
      unfold Alike2
      rw [a1, a2, a3, if_neg hne, if_neg hne]
      exact ⟨f1, f2, f3⟩
  · rw [if_neg e] at hr
    have hda : d < T2.l.length := by rw [h2.sa.len]; exact hd
    have haa : a < (T2.d d).sin.length := by rw [h2.sa.sz d hd]; exact ha
    obtain ⟨r1, r2, r3, r4, r5⟩ := T2.put_rest d a s
    obtain ⟨m1, m2, m3⟩ := Med.put_rest (T2.d d) a s (T2.stamp d a)
    have hdf : ∀ c', ((T2.put d a s).d c').dead = (T2.d c').dead ∧ ((T2.put d a s).d c').fail = (T2.d c').fail := fun c' => by
      rw [BankT.put_d hda]
      split
      · rename_i e'; rw [m1, m2, e']; exact ⟨rfl, rfl⟩
      · exact ⟨rfl, rfl⟩
    refine ⟨0, T2.put d a s, Tb', ?_, he, ⟨⟨h2.sa.inv.put hda haa hs, r1.trans h2.sa.len, fun c' hc' => ?_⟩, hb, r2.trans h2.up, r4.trans h2.arm, r3.trans h2.wa, hwb, fun c' hc' hn => by rw [(hdf c').1, (hdf c').2]; exact h2.oth c' hc' hn, by rw [(hdf who).1, (hdf who).2]; exact h2.own, fun c' k hc hk' hcn => ?_⟩, by rw [if_neg e], ?_, hk⟩
    · unfold BankT.write
      rw [ht]
      have hin : T2.inE (d : Int) (a : Int) = 0 := BankT.inE_in hr haa
      simp only [Bool.true_eq_false, if_false, hin, if_true, Int.toNat_natCast]
    · rw [BankT.put_d hda]
      split
      · rw [m3]; exact h2.sa.sz d hd
      · exact h2.sa.sz c' hc'
    · obtain ⟨f1, f2, f3⟩ := h2.eq c' k hc hk' hcn
      obtain ⟨a1, a2, a3⟩ := hat c' k
      obtain ⟨b1, b2, b3⟩ := BankT.put_at h2.sa.inv.ok hda haa s c' k
      unfold Alike2
      rw [a1, a2, a3, b1, b2, b3]
      by_cases ec : c' = d ∧ k = a
      · rw [if_pos ec, if_pos ec, if_pos ec, if_pos ec]
        exact ⟨f1, rfl, ⟨fun _ => stamp_pos h.sb.inv d a, fun _ => stamp_pos h2.sa.inv d a⟩⟩
      · rw [if_neg ec, if_neg ec, if_neg ec, if_neg ec]
        exact ⟨f1, f2, f3⟩
    · rw [BankT.put_clock, hclk]
      split <;> omega
theorem FaI.read (h : FaI who n c Ta Tb) {d k : Nat} (hd : d < 3) (hk : k < 8) : Ta.read (d : Int) (k : Int) = if d = who ∧ n ≤ c then (zeroB, 7) else (Tb.N d k, 0) := by
  have hr := h.ready hd
  by_cases e : d = who ∧ n ≤ c
  · rw [if_pos e] at hr ⊢
    unfold BankT.read
    rw [BankT.inE_no (by rw [hr]; decide), hr, if_neg (by decide)]
  · rw [if_neg e] at hr ⊢
    unfold BankT.read
    rw [BankT.inE_in hr (by rw [h.sa.sz d hd]; exact hk), if_pos rfl, Int.toNat_natCast, Int.toNat_natCast, ← (h.eq d k hd hk (fun e' => by
      by_cases hc : n ≤ c
      · exact absurd ⟨e', hc⟩ e
      · omega)).2.1]; rfl
/-- all that is loose is lost -/
theorem Shape.fall {T : BankT} (h : Shape T 3 8) (hu : T.down = false) {d k : Nat} (hd : d < 3) (hk : k < 8) : (T.crash 0).N d k = if 0 < T.S d k then T.F d k else T.N d k := by
  by_cases hm : (d, k) ∈ T.order
  · obtain ⟨j, hj, hjo⟩ := List.getElem_of_mem hm
    rw [(BankT.crash_loose h.inv hu 0 hj hjo).2.1, bitOf_zero, if_neg (by decide), if_pos ((BankT.order_iff h hd hk).1 hm)]
  · rw [(BankT.crash_still h.inv hu 0 hm).2.1, if_neg (fun h' => hm ((BankT.order_iff h hd hk).2 h'))]
theorem FaI.fin (h : FaI who n c Ta Tb) {d k : Nat} (hd : d < 3) (hk : k < 8) (hne : d ≠ who) : ∃ xs, xs.length = 64 ∧ (Ta.crash 0).start.read (d : Int) (k : Int) = (xs, 0) ∧ (Tb.crash 0).start.read (d : Int) (k : Int) = (xs, 0) := by
  obtain ⟨s1, s2, s3, s4, s5⟩ := h.sb.crash 0
  obtain ⟨r1, r2, r3, r4, r5⟩ := BankT.crash_rest h.sa.inv h.up 0
  have hl : (Ta.crash 0).l.length = 3 := (Ta.crash_len 0).trans h.sa.len
  have hr : (Ta.crash 0).start.readyE (d : Int) = 0 := by
    unfold BankT.readyE
    rw [if_neg (show ¬ ((d : Int) < 0 ∨ ((Ta.crash 0).start.l.length : Int) ≤ (d : Int)) by show ¬ ((d : Int) < 0 ∨ ((Ta.crash 0).l.length : Int) ≤ (d : Int)); rw [hl]; omega), Int.toNat_natCast]
    have hdd : ((Ta.crash 0).start.d d).dead = false := (r5 d).1.trans (h.oth d hd hne).1
    rw [hdd, if_neg (by decide)]
    exact if_neg (by show ¬ false = true; decide)
  have hda : d < (Tb.crash 0).l.length := by rw [s4.len]; exact hd
  refine ⟨(Tb.crash 0).N d k, ((s4.inv.ok.d hda).new.at (by rw [s4.sz d hd]; exact hk)).1, ?_, by rw [s1.read hd hk]; rfl⟩
  unfold BankT.read
  rw [BankT.inE_in hr (show k < ((Ta.crash 0).d d).sin.length by rw [(r5 d).2.2, h.sa.sz d hd]; exact hk), if_pos rfl, Int.toNat_natCast, Int.toNat_natCast]
  show ((Ta.crash 0).N d k, (0 : Int)) = _
  obtain ⟨f1, f2, f3⟩ := h.eq d k hd hk (fun e => absurd e hne)
  rw [h.sa.fall h.up hd hk, h.sb.toShape.fall h.sb.up hd hk, f1, f2]
  by_cases e : 0 < Tb.S d k
  · rw [if_pos e, if_pos (f3.2 e)]
  · rw [if_neg e, if_neg (fun h' => e (f3.1 h'))]
theorem FaI.fin_use (h : FaI who n c Ta Tb) (hc : c ≤ 1000) (h1 : Ta.clock ≤ 1000) (h2 : Tb.clock ≤ 1000) : (Ta.crash 0).start.Use ∧ (Tb.crash 0).start.Use := by
  obtain ⟨r1, r2, r3, r4, r5⟩ := BankT.crash_rest h.sa.inv h.up 0
  obtain ⟨s1, s2, s3, s4, s5⟩ := BankT.crash_rest h.sb.inv h.sb.up 0
  have hla : (Ta.crash 0).l.length = 3 := (Ta.crash_len 0).trans h.sa.len
  have hlb : (Tb.crash 0).l.length = 3 := (Tb.crash_len 0).trans h.sb.len
  refine ⟨⟨(h.sa.inv.crash 0).start, by show (Ta.crash 0).l.length ≠ 0; rw [hla]; decide, ?_, ?_⟩, ⟨(h.sb.inv.crash 0).start, by show (Tb.crash 0).l.length ≠ 0; rw [hlb]; decide, ?_, ?_⟩⟩
  · show (Ta.crash 0).clock < _; rw [r4]; omega
  · show (Ta.crash 0).writes < _; rw [r3, h.wa]; omega
  · show (Tb.crash 0).clock < _; rw [s4]; omega
  · show (Tb.crash 0).writes < _; rw [s3, h.wb]; omega
theorem FaI.len64 (h : FaI who n c Ta Tb) {d k : Nat} (hd : d < 3) (hk : k < 8) : (Tb.N d k).length = 64 :=
  ((h.sb.inv.ok.d (by rw [h.sb.len]; exact hd)).new.at (by rw [h.sb.sz d hd]; exact hk)).1
end
theorem FaI.start {who n : Nat} (hw : who < 3) (hn : 0 < n) (hn2 : n ≤ 32) : FaI who n 0 ((addN 3).up who { (addN 3).d who with fail := max (n : Int) 0 }) (addN 3) := by
  have hs : Still (addN 3) 3 8 := addN_still (by decide)
  have hwl : who < (addN 3).l.length := by rw [hs.len]; exact hw
  have hm : max (n : Int) 0 = (n : Int) := by omega
  rw [hm]
  have ho := hs.inv.ok.d hwl
  have hd : ∀ d, (((addN 3).up who { (addN 3).d who with fail := (n : Int) }).d d) = if d = who then { (addN 3).d who with fail := (n : Int) } else (addN 3).d d := fun d => BankT.d_up _ hwl d
  have hc : (addN 3).Calmer ((addN 3).up who { (addN 3).d who with fail := (n : Int) }) := BankT.Calmer.up hwl rfl (fun a => .inl rfl)
  refine ⟨⟨hc.inv hs.inv (hs.inv.ok.up who ⟨ho.flu, ho.new, ho.len, ho.sin, by show 0 ≤ (n : Int) ∧ (n : Int) < 9223372036854775808; omega⟩) hs.inv.wr hs.inv.ar hs.inv.msk, hc.len.trans hs.len, fun d hd' => (hc.lens d).trans (hs.sz d hd')⟩, hs, hs.up, hs.arm, (addN_rest 3).2.2.2, (addN_rest 3).2.2.2, fun d hd' e => ?_, ?_, fun d k hd' hk _ => ?_⟩
  · rw [hd, if_neg e]; exact ⟨hs.dead d hd', hs.fail d hd'⟩
  · rw [if_pos hn, hd, if_pos rfl]
    exact ⟨hs.dead who hw, by show (n : Int) = _; omega⟩
  · have e1 : ∀ d, ((addN 3).up who { (addN 3).d who with fail := (n : Int) }).F d k = (addN 3).F d k ∧ ((addN 3).up who { (addN 3).d who with fail := (n : Int) }).N d k = (addN 3).N d k ∧ ((addN 3).up who { (addN 3).d who with fail := (n : Int) }).S d k = (addN 3).S d k := fun d => by
      unfold BankT.F BankT.N BankT.S
      rw [hd]
      by_cases e : d = who
      · rw [if_pos e, e]; exact ⟨rfl, rfl, rfl⟩
      · rw [if_neg e]; exact ⟨rfl, rfl, rfl⟩
    unfold Alike2
    rw [(e1 d).1, (e1 d).2.1, (e1 d).2.2]
    exact ⟨rfl, rfl, Iff.rfl⟩
end Go.Proofs.Ytcbghpcohbgcjaa
