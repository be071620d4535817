/- DiskCrash: the plain law. -/
import Derived.Test.YtfnjgcmghfnjhaaDlc
namespace Go.Proofs.Ytfnjgcmghfnjhaa
open Go.RowKit
set_option linter.unusedVariables false
set_option linter.unusedSimpArgs false

def code (p : Nat × Nat) : Nat := 8 * p.1 + p.2
theorem code_inj {p q : Nat × Nat} (hp : p.2 < 8) (hq : q.2 < 8) (h : code p = code q) : p = q := by
  unfold code at h
  exact Prod.ext (by omega) (by omega)
theorem BankT.order_char {T : BankT} (h : T.Inv) {l : List (Nat × Nat)} (hn : l.Nodup) (hm : ∀ p, p ∈ l ↔ p ∈ T.order) (hs : l.Pairwise (fun a b => T.since a ≤ T.since b)) : l = T.order := by
  refine BankT.order_eq h ?_ hs
  exact ((List.perm_ext_iff_of_nodup hn T.nodup_order).2 hm).trans (sortBy_perm _ _)
theorem BankT.looseN_order (T : BankT) : T.looseN = T.order.length := (sortBy_perm _ _).length_eq.symm
theorem BankT.order_sorted (T : BankT) : T.order.Pairwise (fun a b => T.since a ≤ T.since b) := sortBy_sorted _ _
theorem Shape.order_in {T : BankT} {n z : Nat} (h : Shape T n z) {p : Nat × Nat} (hp : p ∈ T.order) : p.1 < n ∧ p.2 < z ∧ 0 < T.S p.1 p.2 := by
  obtain ⟨⟨h1, h2⟩, h3⟩ := (T.mem_order p).1 hp
  have h1' : p.1 < n := by rw [← h.len]; exact h1
  exact ⟨h1', by rw [← h.sz p.1 h1']; exact h2, h3⟩
theorem Shape.order_mem {T : BankT} {n z : Nat} (h : Shape T n z) (p : Nat × Nat) : p ∈ T.order ↔ p.1 < n ∧ p.2 < z ∧ 0 < T.S p.1 p.2 :=
  ⟨h.order_in, fun ⟨h1, h2, h3⟩ => (BankT.order_iff h h1 h2).2 h3⟩
theorem order_write {T T' : BankT} {n z : Nat} (h : Still T n z) (h' : Still T' n z) {d a : Nat} (hd : d < n) (ha : a < z) (hS : ∀ c k, T'.S c k = if c = d ∧ k = a then T.stamp d a else T.S c k) :
    T'.order = if T.S d a = 0 then T.order ++ [(d, a)] else T.order := by
  have hst : 0 < T.stamp d a := by
    have h0 := BankT.S_nonneg h.inv d a
    have hc := h.inv.clk
    unfold BankT.stamp
    unfold BankT.S at h0
    split
    · omega
    · omega
  have hp' : ∀ p : Nat × Nat, T'.since p = if p = (d, a) then T.stamp d a else T.since p := fun p => by
    show T'.S p.1 p.2 = _
    rw [hS]
    by_cases e : p = (d, a)
    · rw [if_pos e, if_pos (by rw [e]; exact ⟨rfl, rfl⟩)]
    · rw [if_neg e, if_neg (fun h => e (Prod.ext h.1 h.2))]; rfl
  by_cases h0 : T.S d a = 0
  · rw [if_pos h0]
    symm
    have hni : (d, a) ∉ T.order := fun hm => by have := (h.toShape.order_in hm).2.2; simp only at this; omega
    have hstv : T.stamp d a = T.clock + 1 := by unfold BankT.stamp; exact if_pos h0
    refine BankT.order_char h'.inv ?_ (fun p => ?_) ?_
    · rw [List.nodup_append]
      refine ⟨T.nodup_order, by simp, fun x hx y hy e => hni ?_⟩
      rw [List.mem_singleton.1 hy] at e
      rw [← e]; exact hx
    · rw [List.mem_append, List.mem_singleton, h.toShape.order_mem, h'.toShape.order_mem, hS]
      constructor
      · rintro (⟨h1, h2, h3⟩ | rfl)
        · refine ⟨h1, h2, ?_⟩
          split
          · exact hst
          · exact h3
        · exact ⟨hd, ha, by rw [if_pos ⟨rfl, rfl⟩]; exact hst⟩
      · rintro ⟨h1, h2, h3⟩
        by_cases e : p.1 = d ∧ p.2 = a
        · exact .inr (Prod.ext e.1 e.2)
        · rw [if_neg e] at h3; exact .inl ⟨h1, h2, h3⟩
    · rw [List.pairwise_append]
      refine ⟨?_, by simp, fun x hx y hy => ?_⟩
      · refine (T.order_sorted).imp_of_mem fun {x y} hx hy hxy => ?_
        rw [hp', hp', if_neg (show x ≠ (d, a) from fun e => hni (e ▸ hx)), if_neg (show y ≠ (d, a) from fun e => hni (e ▸ hy))]; exact hxy
      · rw [List.mem_singleton.1 hy, hp', hp', if_neg (show x ≠ (d, a) from fun e => hni (e ▸ hx)), if_pos rfl, hstv]
        have := h.inv.top x; omega
  · rw [if_neg h0]
    symm
    have hstv : T.stamp d a = T.S d a := by unfold BankT.stamp; exact if_neg h0
    have hsame : ∀ p : Nat × Nat, T'.since p = T.since p := fun p => by
      rw [hp']
      split
      · rename_i e; rw [e, hstv]; rfl
      · rfl
    refine BankT.order_char h'.inv T.nodup_order (fun p => ?_) ?_
    · rw [h.toShape.order_mem, h'.toShape.order_mem]
      have : T'.S p.1 p.2 = T.S p.1 p.2 := hsame p
      rw [this]
    · exact T.order_sorted.imp fun {x y} hxy => by rw [hsame, hsame]; exact hxy
theorem order_flush {T T' : BankT} {n z : Nat} (h : Still T n z) (h' : Still T' n z) {d : Nat} (hS : ∀ c k, k < z → T'.S c k = if c = d ∧ 0 < T.S c k then 0 else T.S c k) :
    T'.order = T.order.filter (fun p => p.1 != d) := by
  symm
  refine BankT.order_char h'.inv (T.nodup_order.filter _) (fun p => ?_) ?_
  · rw [List.mem_filter, h.toShape.order_mem, h'.toShape.order_mem]
    constructor
    · rintro ⟨⟨h1, h2, h3⟩, h4⟩
      have h4' : p.1 ≠ d := by simpa using h4
      exact ⟨h1, h2, by rw [hS _ _ h2, if_neg (fun e => h4' e.1)]; exact h3⟩
    · rintro ⟨h1, h2, h3⟩
      rw [hS _ _ h2] at h3
      by_cases e : p.1 = d ∧ 0 < T.S p.1 p.2
      · rw [if_pos e] at h3; omega
      · rw [if_neg e] at h3
        exact ⟨⟨h1, h2, h3⟩, by simpa using fun e' => e ⟨e', h3⟩⟩
  · refine List.Pairwise.imp_of_mem (fun {x y} hx hy hxy => ?_) (T.order_sorted.filter _)
    have k1 := List.mem_filter.1 hx
    have k2 := List.mem_filter.1 hy
    have z1 := (h.toShape.order_in k1.1).2.1
    have z2 := (h.toShape.order_in k2.1).2.1
    have n1 : x.1 ≠ d := by simpa using k1.2
    have n2 : y.1 ≠ d := by simpa using k2.2
    have e1 : T'.since x = T.since x := by show T'.S x.1 x.2 = _; rw [hS _ _ z1, if_neg (fun e => n1 e.1)]; rfl
    have e2 : T'.since y = T.since y := by show T'.S y.1 y.2 = _; rw [hS _ _ z2, if_neg (fun e => n2 e.1)]; rfl
    rw [e1, e2]; exact hxy
/-- twenty-four sectors -/
def L24 (l : List (List Int)) : Prop := l.length = 24 ∧ ∀ s ∈ l, s.length = 64
theorem L24.set {l : List (List Int)} (h : L24 l) (i : Nat) {s : List Int} (hs : s.length = 64) : L24 (l.set i s) := by
  refine ⟨by rw [List.length_set]; exact h.1, fun x hx => ?_⟩
  rcases List.mem_or_eq_of_mem_set hx with h' | h'
  · exact h.2 _ h'
  · rw [h']; exact hs
theorem L24.at {l : List (List Int)} (h : L24 l) {i : Nat} (hi : i < 24) : (l.getD i []).length = 64 := by
  have hl : i < l.length := by rw [h.1]; exact hi
  rw [List.getD_eq_getElem?_getD, List.getElem?_eq_getElem hl]
  exact h.2 _ (List.getElem_mem hl)
/-- what the law keeps beside the bank -/
structure CrI (T : BankT) (fl nw : List (List Int)) : Prop where
  still : Still T 3 8
  lf : L24 fl
  ln : L24 nw
  hF : ∀ d k, d < 3 → k < 8 → T.F d k = fl.getD (8 * d + k) []
  hN : ∀ d k, d < 3 → k < 8 → T.N d k = nw.getD (8 * d + k) []
  idle : ∀ d k, d < 3 → k < 8 → T.S d k = 0 → T.N d k = T.F d k
theorem CrI.start : CrI (addN 3) (List.replicate 24 zeroB) (List.replicate 24 zeroB) := by
  have hl : L24 (List.replicate 24 zeroB) := ⟨by simp, fun s hs => by rw [List.eq_of_mem_replicate hs]; exact zeroB_length⟩
  refine ⟨addN_still (by decide), hl, hl, fun d k hd hk => ?_, fun d k hd hk => ?_, fun d k hd hk _ => ?_⟩
  · rw [(addN_at hd hk).1, List.getD_eq_getElem?_getD, List.getElem?_replicate, if_pos (by omega)]; rfl
  · rw [(addN_at hd hk).2.1, List.getD_eq_getElem?_getD, List.getElem?_replicate, if_pos (by omega)]; rfl
  · rw [(addN_at hd hk).1, (addN_at hd hk).2.1]
theorem addN_order : (addN 3).order = [] := by
  cases h : (addN 3).order with
  | nil => rfl
  | cons p l =>
    have hs : Still (addN 3) 3 8 := addN_still (by decide)
    obtain ⟨h1, h2, h3⟩ := hs.toShape.order_in (p := p) (by rw [h]; simp)
    rw [(addN_at h1 h2).2.2] at h3; omega
theorem CrI.write {T : BankT} {fl nw : List (List Int)} (h : CrI T fl nw) {d a : Nat} (hd : d < 3) (ha : a < 8) {s : List Int} (hs : s.length = 64 ∧ ∀ x ∈ s, IsByte x) :
    ∃ T', T.write (d : Int) (a : Int) s = (T', 0) ∧ CrI T' fl (nw.set (8 * d + a) s) ∧ T'.clock ≤ T.clock + 1 ∧ T'.writes = T.writes + 1 ∧ T'.order = if (d, a) ∈ T.order then T.order else T.order ++ [(d, a)] := by
  obtain ⟨T', he, hc, h1, h2, h3⟩ := h.still.write hd ha hs
  have hl : 8 * d + a < nw.length := by rw [h.ln.1]; omega
  have hst : T.stamp d a ≠ 0 := by
    have hclk := h.still.inv.clk
    unfold BankT.stamp
    split
    · omega
    · rename_i hn; exact hn
  refine ⟨T', he, ⟨hc, h.lf, h.ln.set _ hs.1, fun c k hc' hk => ?_, fun c k hc' hk => ?_, fun c k hc' hk h0 => ?_⟩, h1, h2, ?_⟩
  · rw [(h3 c k).1]; exact h.hF c k hc' hk
  · rw [(h3 c k).2.1, getD_set hl, h.hN c k hc' hk]
    by_cases e : c = d ∧ k = a
    · rw [if_pos e, if_pos (by rw [e.1, e.2])]
    · rw [if_neg e, if_neg (fun e' => e (by omega))]
  · rw [(h3 c k).2.2] at h0
    rw [(h3 c k).2.1, (h3 c k).1]
    by_cases e : c = d ∧ k = a
    · rw [if_pos e] at h0; exact absurd h0 hst
    · rw [if_neg e] at h0 ⊢; exact h.idle c k hc' hk h0
  · rw [order_write h.still hc hd ha (fun c k => (h3 c k).2.2)]
    have hS0 := BankT.S_nonneg h.still.inv d a
    by_cases hm : (d, a) ∈ T.order
    · have := (h.still.toShape.order_in hm).2.2
      simp only at this
      rw [if_pos hm, if_neg (by omega)]
    · have : ¬ 0 < T.S d a := fun h' => hm ((BankT.order_iff h.still.toShape hd ha).2 h')
      rw [if_neg hm, if_pos (by omega)]
/-- the law's own flush: for each that is loose on the disk, what is newest is flushed -/
def flF (d : Nat) (nw : List (List Int)) : List (Nat × Nat) → List (List Int) → List (List Int)
  | [], fl => fl
  | p :: L, fl => flF d nw L (if p.1 = d then fl.set (code p) (nw.getD (code p) []) else fl)
theorem flF_24 {d : Nat} {nw : List (List Int)} (hn : L24 nw) : ∀ (L : List (Nat × Nat)) (fl : List (List Int)), (∀ p ∈ L, p.1 < 3 ∧ p.2 < 8) → L24 fl → L24 (flF d nw L fl)
  | [], fl, _, h => h
  | p :: L, fl, hp, h => by
    unfold flF
    refine flF_24 hn L _ (fun q hq => hp q (by simp [hq])) ?_
    split
    · exact h.set _ (hn.at (by have := hp p (by simp); unfold code; omega))
    · exact h
theorem flF_at {d : Nat} {nw : List (List Int)} (hn : L24 nw) (c k : Nat) (hc : c < 3) (hk : k < 8) : ∀ (L : List (Nat × Nat)) (fl : List (List Int)), (∀ p ∈ L, p.1 < 3 ∧ p.2 < 8) → L24 fl →
    (flF d nw L fl).getD (8 * c + k) [] = if c = d ∧ (c, k) ∈ L then nw.getD (8 * c + k) [] else fl.getD (8 * c + k) []
  | [], fl, _, _ => by simp [flF]
  | p :: L, fl, hp, h => by
    have hpp := hp p (by simp)
    have hL : L24 (if p.1 = d then fl.set (code p) (nw.getD (code p) []) else fl) := by
      split
      · exact h.set _ (hn.at (by unfold code; omega))
      · exact h
    unfold flF
    rw [flF_at hn c k hc hk L _ (fun q hq => hp q (by simp [hq])) hL]
    by_cases e : c = d ∧ (c, k) ∈ L
    · rw [if_pos e, if_pos ⟨e.1, by simp [e.2]⟩]
    · rw [if_neg e]
      by_cases e2 : p = (c, k)
      · by_cases e3 : c = d
        · have hcl : code p < fl.length := by rw [h.1]; unfold code; omega
          have hce : 8 * c + k = code p := by rw [e2]; rfl
          rw [if_pos (by rw [e2]; exact e3), if_pos ⟨e3, by simp [e2]⟩, getD_set hcl, if_pos hce, hce]
        · rw [if_neg (by rw [e2]; exact e3), if_neg (fun h => e3 h.1)]
      · have hn' : ¬ (c = d ∧ (c, k) ∈ p :: L) := fun ⟨h1, h2⟩ => by
          rcases List.mem_cons.1 h2 with h3 | h3
          · exact e2 h3.symm
          · exact e ⟨h1, h3⟩
        rw [if_neg hn']
        split
        · have hcl : code p < fl.length := by rw [h.1]; unfold code; omega
          rw [getD_set hcl, if_neg (fun e' => e2 (code_inj hpp.2 hk (by rw [← e']; rfl)))]
        · rfl
theorem CrI.flush {T : BankT} {fl nw : List (List Int)} (h : CrI T fl nw) {d : Nat} (hd : d < 3) :
    ∃ T', T.flushC (d : Int) = (T', 0) ∧ CrI T' (flF d nw T.order fl) nw ∧ T'.clock = T.clock ∧ T'.writes = T.writes ∧ T'.order = T.order.filter (fun p => p.1 != d) := by
  obtain ⟨T', he, hc, h1, h2, h3⟩ := h.still.flush hd
  have hin : ∀ p ∈ T.order, p.1 < 3 ∧ p.2 < 8 := fun p hp => ⟨(h.still.toShape.order_in hp).1, (h.still.toShape.order_in hp).2.1⟩
  refine ⟨T', he, ⟨hc, flF_24 h.ln _ _ hin h.lf, h.ln, fun c k hc' hk => ?_, fun c k hc' hk => ?_, fun c k hc' hk h0 => ?_⟩, h1, h2, order_flush h.still hc fun c k hk => (h3 c k hk).2.2⟩
  · rw [(h3 c k hk).1, flF_at h.ln c k hc' hk _ _ hin h.lf, ← h.hN c k hc' hk, ← h.hF c k hc' hk]
    by_cases e : c = d ∧ 0 < T.S c k
    · rw [if_pos e, if_pos ⟨e.1, (BankT.order_iff h.still.toShape hc' hk).2 e.2⟩]
    · rw [if_neg e, if_neg (fun e' => e ⟨e'.1, (BankT.order_iff h.still.toShape hc' hk).1 e'.2⟩)]
  · rw [(h3 c k hk).2.1]; exact h.hN c k hc' hk
  · rw [(h3 c k hk).2.1, (h3 c k hk).1]
    by_cases e : c = d ∧ 0 < T.S c k
    · rw [if_pos e]
    · rw [if_neg e]
      rw [(h3 c k hk).2.2, if_neg e] at h0
      exact h.idle c k hc' hk h0
/-- the law's own crash, as far as j -/
def crF (mask : Int) (nw : List (List Int)) (ord : List (Nat × Nat)) (fl : List (List Int)) : Nat → List (List Int)
  | 0 => fl
  | j + 1 => if bitOf mask j then (crF mask nw ord fl j).set (code (ord.getD j (0, 0))) (nw.getD (code (ord.getD j (0, 0))) []) else crF mask nw ord fl j
theorem crF_24 {mask : Int} {nw fl : List (List Int)} {ord : List (Nat × Nat)} (hn : L24 nw) (hf : L24 fl) (hp : ∀ p ∈ ord, p.1 < 3 ∧ p.2 < 8) : ∀ j, L24 (crF mask nw ord fl j)
  | 0 => hf
  | j + 1 => by
    unfold crF
    split
    · have : code (ord.getD j (0, 0)) < 24 := by
        rw [List.getD_eq_getElem?_getD]
        by_cases hj : j < ord.length
        · rw [List.getElem?_eq_getElem hj]
          have := hp _ (List.getElem_mem hj)
          simp only [Option.getD_some, code]; omega
        · rw [List.getElem?_eq_none (by omega)]; decide
      exact (crF_24 hn hf hp j).set _ (hn.at this)
    · exact crF_24 hn hf hp j
theorem crF_at {mask : Int} {nw fl : List (List Int)} {ord : List (Nat × Nat)} (hn : L24 nw) (hf : L24 fl) (hp : ∀ p ∈ ord, p.1 < 3 ∧ p.2 < 8) (hnd : ord.Nodup) (c k : Nat) (hc : c < 3) (hk : k < 8) : ∀ j, j ≤ ord.length →
    ((∀ i, i < j → ord.getD i (0, 0) ≠ (c, k)) → (crF mask nw ord fl j).getD (8 * c + k) [] = fl.getD (8 * c + k) []) ∧
    (∀ i, i < j → ord.getD i (0, 0) = (c, k) → (crF mask nw ord fl j).getD (8 * c + k) [] = if bitOf mask i then nw.getD (8 * c + k) [] else fl.getD (8 * c + k) [])
  | 0, _ => ⟨fun _ => rfl, fun i hi => absurd hi (Nat.not_lt_zero _)⟩
  | j + 1, hj => by
    obtain ⟨h1, h2⟩ := crF_at hn hf hp hnd c k hc hk j (by omega)
    have hjl : j < ord.length := by omega
    have hg : ord.getD j (0, 0) = ord[j] := by rw [List.getD_eq_getElem?_getD, List.getElem?_eq_getElem hjl]; rfl
    have hpj := hp _ (List.getElem_mem hjl)
    have hcl : code ord[j] < (crF mask nw ord fl j).length := by rw [(crF_24 hn hf hp j).1]; unfold code; omega
    have hstep : (crF mask nw ord fl (j + 1)).getD (8 * c + k) [] = if bitOf mask j ∧ ord[j] = (c, k) then nw.getD (8 * c + k) [] else (crF mask nw ord fl j).getD (8 * c + k) [] := by
      rw [crF, hg]
      by_cases hb : bitOf mask j = true
      · rw [if_pos hb, getD_set hcl]
        by_cases e : ord[j] = (c, k)
        · have hce : 8 * c + k = code ord[j] := by rw [e]; rfl
          rw [if_pos hce, if_pos ⟨hb, e⟩, hce]
        · rw [if_neg (fun e' => e (code_inj hpj.2 hk (by rw [← e']; rfl))), if_neg (fun h => e h.2)]
      · rw [if_neg hb, if_neg (fun h => hb h.1)]
    refine ⟨fun h => ?_, fun i hi hio => ?_⟩
    · rw [hstep, if_neg (fun h' => h j (by omega) (by rw [hg]; exact h'.2))]
      exact h1 fun i hi => h i (by omega)
    · rw [hstep]
      by_cases e : i = j
      · subst e
        rw [hg] at hio
        have hno : ∀ i', i' < i → ord.getD i' (0, 0) ≠ (c, k) := fun i' hi' he => by
          have hl' : i' < ord.length := by omega
          rw [List.getD_eq_getElem?_getD, List.getElem?_eq_getElem hl'] at he
          have he' : ord[i'] = ord[i] := by rw [hio]; exact he
          exact (List.pairwise_iff_getElem.1 hnd) i' i hl' hjl hi' he'
        rw [h1 hno]
        by_cases hb : bitOf mask i = true
        · rw [if_pos ⟨hb, hio⟩, if_pos hb]
        · rw [if_neg (fun h => hb h.1), if_neg hb]
      · have hne : ord[j] ≠ (c, k) := fun he => by
          have hl' : i < ord.length := by omega
          rw [List.getD_eq_getElem?_getD, List.getElem?_eq_getElem hl'] at hio
          have he' : ord[i] = ord[j] := by rw [he]; exact hio
          exact (List.pairwise_iff_getElem.1 hnd) i j hl' hjl (by omega) he'
        rw [if_neg (fun h => hne h.2)]
        exact h2 i (by omega) hio
/-- what the law sees behind the crash -/
theorem CrI.fin {T : BankT} {fl nw : List (List Int)} (h : CrI T fl nw) (mask : Int) :
    (T.crash mask).read 0 0 = (zeroB, 6) ∧ (T.crash mask).down = true ∧ (T.crash mask).looseN = 0 ∧ (T.crash mask).write 0 0 zeroB = (T.crash mask, 6) ∧ (T.crash mask).flushC 0 = (T.crash mask, 6) ∧ (T.crash mask).Inv ∧ (T.crash mask).l.length = 3 ∧
    (T.crash mask).clock = T.clock ∧ (T.crash mask).writes = T.writes ∧ Still (T.crash mask).start 3 8 ∧
      ∀ d k : Nat, d < 3 → k < 8 → (T.crash mask).start.read (d : Int) (k : Int) = ((crF mask nw T.order fl T.order.length).getD (8 * d + k) [], 0) := by
  obtain ⟨k1, k2, k3, k4, k5⟩ := h.still.crash mask
  obtain ⟨r1, r2, r3, r4, r5⟩ := BankT.crash_rest h.still.inv h.still.up mask
  have hin : ∀ p ∈ T.order, p.1 < 3 ∧ p.2 < 8 := fun p hp => ⟨(h.still.toShape.order_in hp).1, (h.still.toShape.order_in hp).2.1⟩
  have hre : (T.crash mask).readyE 0 = 6 := by
    unfold BankT.readyE
    rw [k4.len, if_neg (by decide), show (0 : Int).toNat = 0 from rfl, (r5 0).1, h.still.dead 0 (by decide), if_neg (by decide), k5, if_pos rfl]
  have hinE : ∀ a, (T.crash mask).inE 0 a = 6 := fun a => by rw [BankT.inE_no (by rw [hre]; decide), hre]
  refine ⟨?_, k5, ?_, ?_, ?_, k4.inv, k4.len, k2, k3, k1, fun d k hd hk => ?_⟩
  · unfold BankT.read; rw [hinE, if_neg (by decide)]
  · rw [BankT.looseN_order]
    cases ho : (T.crash mask).order with
    | nil => rfl
    | cons p l =>
      obtain ⟨h1, h2, h3⟩ := k4.order_in (p := p) (by rw [ho]; simp)
      exfalso
      by_cases hm : p ∈ T.order
      · obtain ⟨j, hj, hjo⟩ := List.getElem_of_mem hm
        rw [(BankT.crash_loose h.still.inv h.still.up mask (c := p.1) (k := p.2) hj hjo).2.2] at h3; omega
      · rw [(BankT.crash_still h.still.inv h.still.up mask (c := p.1) (k := p.2) hm).2.2] at h3
        exact hm ((BankT.order_iff h.still.toShape h1 h2).2 h3)
  · unfold BankT.write BankT.tick
    rw [if_pos k5]
    simp only [Bool.true_eq_false, if_false, hinE]
    rw [if_neg (by decide)]
  · unfold BankT.flushC; rw [hre, if_neg (by decide)]
  · rw [k1.read hd hk]
    congr 1
    show (T.crash mask).N d k = _
    obtain ⟨c1, c2⟩ := crF_at (mask := mask) h.ln h.lf hin T.nodup_order d k hd hk T.order.length (Nat.le_refl _)
    by_cases hm : (d, k) ∈ T.order
    · obtain ⟨j, hj, hjo⟩ := List.getElem_of_mem hm
      rw [(BankT.crash_loose h.still.inv h.still.up mask hj hjo).2.1, h.hN d k hd hk, h.hF d k hd hk, c2 j hj (by rw [List.getD_eq_getElem?_getD, List.getElem?_eq_getElem hj]; exact hjo)]
    · rw [(BankT.crash_still h.still.inv h.still.up mask hm).2.1, c1 (fun i hi he => hm (by
        rw [List.getD_eq_getElem?_getD, List.getElem?_eq_getElem hi] at he
        exact he ▸ List.getElem_mem hi)), ← h.hF d k hd hk]
      refine h.idle d k hd hk ?_
      have := BankT.S_nonneg h.still.inv d k
      have h2 : ¬ 0 < T.S d k := fun h' => hm ((BankT.order_iff h.still.toShape hd hk).2 h')
      omega
end Go.Proofs.Ytfnjgcmghfnjhaa
