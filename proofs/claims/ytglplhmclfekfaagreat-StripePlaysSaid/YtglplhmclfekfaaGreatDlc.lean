/- DiskFlushes: the plain law. -/
import Derived.Test.YtglplhmclfekfaaGreatDlb
namespace Go.Proofs.YtglplhmclfekfaaGreat
open Go.RowKit
set_option linter.unusedVariables false
set_option linter.unusedSimpArgs false

theorem addN_inv : ∀ k, k ≤ 31 → (addN k).Inv
  | 0, _ => BankT.Inv.zero
  | k + 1, h => (addN_inv k (by omega)).add (by rw [addN_len]; omega) (by decide)
theorem addN_d : ∀ k d, d < k → (addN k).d d = Med.fresh 8
  | 0, _, h => absurd h (Nat.not_lt_zero _)
  | k + 1, d, h => by
    rw [addN]
    by_cases e : d < k
    · rw [BankT.add_old _ _ (by rw [addN_len]; exact e)]; exact addN_d k d e
    · obtain rfl : d = k := by omega
      have := BankT.add_new (addN d) 8
      rwa [addN_len] at this
theorem addN_rest : ∀ k, (addN k).down = false ∧ (addN k).armed = 0 ∧ (addN k).clock = 0 ∧ (addN k).writes = 0
  | 0 => ⟨rfl, rfl, rfl, rfl⟩
  | k + 1 => addN_rest k
theorem addN_at {k d : Nat} (h : d < k) {a : Nat} (ha : a < 8) : (addN k).F d a = zeroB ∧ (addN k).N d a = zeroB ∧ (addN k).S d a = 0 := by
  unfold BankT.F BankT.N BankT.S
  rw [addN_d k d h, Med.fresh]
  simp only [List.getD_eq_getElem?_getD, List.getElem?_replicate, ha, if_true, Option.getD_some]
  exact ⟨trivial, trivial, trivial⟩
theorem addN_still {k : Nat} (h : k ≤ 31) : Still (addN k) k 8 :=
  ⟨⟨addN_inv k h, addN_len k, fun d hd => by rw [addN_d k d hd]; rfl⟩, (addN_rest k).1, (addN_rest k).2.1, fun d hd => by rw [addN_d k d hd]; rfl, fun d hd => by rw [addN_d k d hd]; rfl⟩
/-- the law's own sectors beside the bank's -/
structure FlI (T : BankT) (ls : List (List Int)) : Prop where
  still : Still T 3 8
  len : ls.length = 24
  l64 : ∀ s ∈ ls, s.length = 64
  new : ∀ d k, d < 3 → k < 8 → T.N d k = ls.getD (8 * d + k) []
  flu : ∀ d k, d < 3 → k < 8 → T.F d k = zeroB
  idle : ∀ d k, d < 3 → k < 8 → T.S d k = 0 → T.N d k = zeroB
theorem FlI.start : FlI (addN 3) (List.replicate 24 zeroB) :=
  ⟨addN_still (by decide), by simp, fun s hs => by rw [List.eq_of_mem_replicate hs]; exact zeroB_length, fun d k hd hk => by rw [(addN_at hd hk).2.1, List.getD_eq_getElem?_getD, List.getElem?_replicate, if_pos (by omega)]; rfl, fun d k hd hk => (addN_at hd hk).1, fun d k hd hk _ => (addN_at hd hk).2.1⟩
theorem getD_set {l : List (List Int)} {i : Nat} (hi : i < l.length) (s : List Int) (j : Nat) : (l.set i s).getD j [] = if j = i then s else l.getD j [] := by
  rw [List.getD_eq_getElem?_getD, List.getElem?_set]
  by_cases e : i = j
  · subst e; simp [hi]
  · simp [e, Ne.symm e, List.getD_eq_getElem?_getD]
theorem FlI.step {T : BankT} {ls : List (List Int)} (h : FlI T ls) {d a : Nat} (hd : d < 3) (ha : a < 8) {s : List Int} (hs : s.length = 64 ∧ ∀ x ∈ s, IsByte x) :
    ∃ T', T.write (d : Int) (a : Int) s = (T', 0) ∧ FlI T' (ls.set (8 * d + a) s) ∧ T'.clock ≤ T.clock + 1 ∧ T'.writes = T.writes + 1 := by
  obtain ⟨T', he, hc, h1, h2, h3⟩ := h.still.write hd ha hs
  have hl : 8 * d + a < ls.length := by rw [h.len]; omega
  refine ⟨T', he, ⟨hc, by rw [List.length_set]; exact h.len, fun x hx => ?_, fun c k hc' hk => ?_, fun c k hc' hk => ?_, fun c k hc' hk h0 => ?_⟩, h1, h2⟩
  · rcases List.mem_or_eq_of_mem_set hx with h' | h'
    · exact h.l64 x h'
    · rw [h']; exact hs.1
  · rw [(h3 c k).2.1, getD_set hl, h.new c k hc' hk]
    by_cases e : c = d ∧ k = a
    · rw [if_pos e, if_pos (by rw [e.1, e.2])]
    · rw [if_neg e, if_neg (fun e' => e (by omega))]
  · rw [(h3 c k).1]; exact h.flu c k hc' hk
  · rw [(h3 c k).2.2] at h0
    rw [(h3 c k).2.1]
    by_cases e : c = d ∧ k = a
    · rw [if_pos e] at h0
      exfalso
      unfold BankT.stamp at h0
      have hclk := h.still.inv.clk
      split at h0
      · omega
      · rename_i hn; exact hn h0
    · rw [if_neg e] at h0 ⊢; exact h.idle c k hc' hk h0
/-- what is told behind the flush and the crash -/
theorem FlI.fin {T : BankT} {ls : List (List Int)} (h : FlI T ls) {who : Nat} (hw : who < 3) :
    ∃ T1, T.flushC (who : Int) = (T1, 0) ∧ T1.Inv ∧ T1.l.length = 3 ∧ T1.clock = T.clock ∧ T1.writes = T.writes ∧ Still (T1.crash 0).start 3 8 ∧ (T1.crash 0).clock = T.clock ∧ (T1.crash 0).writes = T.writes ∧ (T1.crash 0).Inv ∧
      ∀ d k : Nat, d < 3 → k < 8 → (T1.crash 0).start.read (d : Int) (k : Int) = (if d = who then ls.getD (8 * d + k) [] else zeroB, 0) := by
  obtain ⟨T1, he, hc, c1, w1, h1⟩ := h.still.flush hw
  obtain ⟨k1, k2, k3, k4, k5⟩ := hc.crash 0
  refine ⟨T1, he, hc.inv, hc.len, c1, w1, k1, k2.trans c1, k3.trans w1, k4.inv, fun d k hd hk => ?_⟩
  rw [k1.read hd hk]
  congr 1
  have hS0 := BankT.S_nonneg h.still.inv d k
  have hS1 := BankT.S_nonneg hc.inv d k
  obtain ⟨f1, f2, f3⟩ := h1 d k hk
  show (T1.crash 0).N d k = _
  by_cases hp : 0 < T1.S d k
  · obtain ⟨j, hj, hjo⟩ := List.getElem_of_mem ((BankT.order_iff hc.toShape hd hk).2 hp)
    obtain ⟨g1, g2, g3⟩ := BankT.crash_loose hc.inv hc.up 0 hj hjo
    rw [g2, bitOf_zero, if_neg (by decide)]
    by_cases e : d = who
    · exfalso
      rw [f3] at hp
      split at hp
      · omega
      · rename_i hn; exact hn ⟨e, hp⟩
    · rw [if_neg e, f1, if_neg (fun h => e h.1)]; exact h.flu d k hd hk
  · obtain ⟨g1, g2, g3⟩ := BankT.crash_still hc.inv hc.up 0 (c := d) (k := k) (fun hm => hp ((BankT.order_iff hc.toShape hd hk).1 hm))
    rw [g2, f2]
    by_cases e : d = who
    · rw [if_pos e]; exact h.new d k hd hk
    · rw [if_neg e]
      refine h.idle d k hd hk ?_
      rw [f3, if_neg (fun h => e h.1)] at hp
      omega
end Go.Proofs.YtglplhmclfekfaaGreat
