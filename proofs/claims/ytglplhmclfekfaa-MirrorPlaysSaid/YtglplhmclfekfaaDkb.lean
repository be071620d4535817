/- A disk.Bank in plain Lean: what is loose is settled. -/
import Derived.Test.YtglplhmclfekfaaDka
namespace Go.Proofs.Ytglplhmclfekfaa
open Go.RowKit
set_option linter.unusedVariables false
set_option linter.unusedSimpArgs false

/-- a sector's newest content becomes the flushed one, or is lost -/
def Med.settle (m : Med) (i : Nat) (keep : Bool) : Med :=
  if keep then { m with flu := m.flu.set i (m.new.getD i []), sin := m.sin.set i 0 } else { m with new := m.new.set i (m.flu.getD i []), sin := m.sin.set i 0 }
/-- all that are loose among the first j -/
def Med.settleTo (keep : Bool) (m : Med) : Nat → Med
  | 0 => m
  | j + 1 => if 0 < m.sin.getD j 0 then (m.settleTo keep j).settle j keep else m.settleTo keep j

theorem IsSecs.set {n : Nat} {l : List (List Int)} (h : IsSecs n l) (i : Nat) {s : List Int} (hs : s.length = 64 ∧ ∀ x ∈ s, IsByte x) : IsSecs n (l.set i s) := by
  refine ⟨by rw [List.length_set]; exact h.1, fun x hx => ?_⟩
  rcases List.mem_or_eq_of_mem_set hx with h' | h'
  · exact h.2 _ h'
  · rw [h']; exact hs
theorem IsSecs.at {n : Nat} {l : List (List Int)} (h : IsSecs n l) {i : Nat} (hi : i < n) : (l.getD i []).length = 64 ∧ ∀ x ∈ l.getD i [], IsByte x := by
  have hl : i < l.length := by rw [h.1]; exact hi
  rw [List.getD_eq_getElem?_getD, List.getElem?_eq_getElem hl]
  exact h.2 _ (List.getElem_mem hl)
theorem Med.settle_sin (m : Med) (i : Nat) (keep : Bool) : (m.settle i keep).sin = m.sin.set i 0 := by unfold Med.settle; split <;> rfl
theorem Med.settle_dead (m : Med) (i : Nat) (keep : Bool) : (m.settle i keep).dead = m.dead := by unfold Med.settle; split <;> rfl
theorem Med.settle_fail (m : Med) (i : Nat) (keep : Bool) : (m.settle i keep).fail = m.fail := by unfold Med.settle; split <;> rfl
theorem Med.Ok.settle {m : Med} (h : m.Ok) {i : Nat} (hi : i < m.sin.length) (keep : Bool) : (m.settle i keep).Ok := by
  have hs : ∀ x ∈ m.sin.set i 0, 0 ≤ x := fun x hx => by
    rcases List.mem_or_eq_of_mem_set hx with h' | h'
    · exact h.sin _ h'
    · rw [h']; exact Int.le_refl _
  unfold Med.settle
  split
  · exact ⟨by simpa using h.flu.set i (h.new.at hi), by simpa using h.new, by simpa using h.len, hs, h.fail⟩
  · exact ⟨by simpa using h.flu, by simpa using h.new.set i (h.flu.at hi), by simpa using h.len, hs, h.fail⟩
theorem Med.settleTo_len (keep : Bool) (m : Med) (j : Nat) : (m.settleTo keep j).sin.length = m.sin.length := by
  induction j with
  | zero => rfl
  | succ j ih => unfold Med.settleTo; split <;> simp [Med.settle_sin, ih]
theorem Med.settleTo_dead (keep : Bool) (m : Med) (j : Nat) : (m.settleTo keep j).dead = m.dead := by
  induction j with
  | zero => rfl
  | succ j ih => unfold Med.settleTo; split <;> simp [Med.settle_dead, ih]
theorem Med.settleTo_fail (keep : Bool) (m : Med) (j : Nat) : (m.settleTo keep j).fail = m.fail := by
  induction j with
  | zero => rfl
  | succ j ih => unfold Med.settleTo; split <;> simp [Med.settle_fail, ih]
theorem Med.Ok.settleTo {m : Med} (h : m.Ok) (keep : Bool) : ∀ {j : Nat}, j ≤ m.sin.length → (m.settleTo keep j).Ok
  | 0, _ => h
  | j + 1, hj => by
    unfold Med.settleTo
    split
    · exact (h.settleTo keep (by omega)).settle (by rw [Med.settleTo_len]; omega) keep
    · exact h.settleTo keep (by omega)
/-- what settling does at each place -/
theorem Med.settle_at {m : Med} (h : m.Ok) {i : Nat} (hi : i < m.sin.length) (keep : Bool) (a : Nat) :
    (m.settle i keep).flu.getD a [] = (if a = i ∧ keep = true then m.new.getD a [] else m.flu.getD a []) ∧
    (m.settle i keep).new.getD a [] = (if a = i ∧ keep = false then m.flu.getD a [] else m.new.getD a []) ∧
    (m.settle i keep).sin.getD a 0 = (if a = i then 0 else m.sin.getD a 0) := by
  have h1 : i < m.flu.length := by rw [h.flu.1]; exact hi
  have h2 : i < m.new.length := by rw [h.new.1]; exact hi
  unfold Med.settle
  by_cases e : a = i
  · subst e
    cases keep <;> simp [List.getD_eq_getElem?_getD, List.getElem?_set, hi, h1, h2]
  · cases keep <;> simp [List.getD_eq_getElem?_getD, List.getElem?_set, e, Ne.symm e]
theorem Med.settleTo_at {m : Med} (h : m.Ok) (keep : Bool) (a : Nat) : ∀ {j : Nat}, j ≤ m.sin.length →
    (m.settleTo keep j).flu.getD a [] = (if a < j ∧ 0 < m.sin.getD a 0 ∧ keep = true then m.new.getD a [] else m.flu.getD a []) ∧
    (m.settleTo keep j).new.getD a [] = (if a < j ∧ 0 < m.sin.getD a 0 ∧ keep = false then m.flu.getD a [] else m.new.getD a []) ∧
    (m.settleTo keep j).sin.getD a 0 = (if a < j ∧ 0 < m.sin.getD a 0 then 0 else m.sin.getD a 0)
  | 0, _ => by simp [Med.settleTo]
  | j + 1, hj => by
    obtain ⟨i1, i2, i3⟩ := Med.settleTo_at h keep a (j := j) (by omega)
    by_cases hp : 0 < m.sin.getD j 0
    · have e : m.settleTo keep (j + 1) = (m.settleTo keep j).settle j keep := by rw [Med.settleTo, if_pos hp]
      obtain ⟨s1, s2, s3⟩ := Med.settle_at (h.settleTo keep (j := j) (by omega)) (i := j) (by rw [Med.settleTo_len]; omega) keep a
      rw [e, s1, s2, s3, i1, i2, i3]
      by_cases ea : a = j
      · subst ea
        have : ¬ a < a := by omega
        have h1 : a < a + 1 := by omega
        simp only [this, false_and, if_false, h1, true_and, hp]

      · have : a < j + 1 ↔ a < j := by omega
        simp only [ea, false_and, if_false, this]
        exact ⟨trivial, trivial, trivial⟩
    · have e : m.settleTo keep (j + 1) = m.settleTo keep j := by rw [Med.settleTo, if_neg hp]
      rw [e, i1, i2, i3]
      by_cases ea : a = j
      · subst ea
        simp only [hp, false_and, and_false, if_false]
        exact ⟨trivial, trivial, trivial⟩
      · have : a < j + 1 ↔ a < j := by omega
        simp only [this]
        exact ⟨trivial, trivial, trivial⟩

/-- the bit that says whether number i is kept -/
def bitOf (mask : Int) (i : Nat) : Bool := mask.toNat.testBit (i % 64)
/-- the places in L are settled in order, as the mask says -/
def BankT.settleL (mask : Int) : List (Nat × Nat) → Nat → BankT → BankT
  | [], _, T => T
  | (k, a) :: L, i, T => BankT.settleL mask L (i + 1) (T.up k ((T.d k).settle a (bitOf mask i)))
/-- a place that is one -/
def BankT.Has (T : BankT) (p : Nat × Nat) : Prop := p.1 < T.l.length ∧ p.2 < (T.d p.1).sin.length
theorem BankT.Ok.settle1 {T : BankT} (h : T.Ok) {k a : Nat} (hp : T.Has (k, a)) (b : Bool) : (T.up k ((T.d k).settle a b)).Ok := h.up k ((h.d hp.1).settle hp.2 b)
theorem BankT.has_settle1 {T : BankT} {k a : Nat} (hp : T.Has (k, a)) (b : Bool) (q : Nat × Nat) : (T.up k ((T.d k).settle a b)).Has q ↔ T.Has q := by
  unfold BankT.Has
  rw [BankT.up_len, BankT.d_up _ hp.1]
  by_cases e : q.1 = k
  · rw [if_pos e, Med.settle_sin, List.length_set, e]
  · rw [if_neg e]
theorem BankT.settleL_len (mask : Int) : ∀ (L : List (Nat × Nat)) (i : Nat) (T : BankT), (BankT.settleL mask L i T).l.length = T.l.length
  | [], _, _ => rfl
  | (k, a) :: L, i, T => by rw [BankT.settleL, BankT.settleL_len, BankT.up_len]
theorem BankT.settleL_rest (mask : Int) : ∀ (L : List (Nat × Nat)) (i : Nat) (T : BankT), (BankT.settleL mask L i T).down = T.down ∧ (BankT.settleL mask L i T).clock = T.clock ∧ (BankT.settleL mask L i T).writes = T.writes ∧ (BankT.settleL mask L i T).armed = T.armed ∧ (BankT.settleL mask L i T).mask = T.mask
  | [], _, _ => ⟨rfl, rfl, rfl, rfl, rfl⟩
  | (k, a) :: L, i, T => by rw [BankT.settleL]; exact BankT.settleL_rest mask L (i + 1) _
theorem BankT.Ok.settleL (mask : Int) : ∀ {L : List (Nat × Nat)} {i : Nat} {T : BankT}, T.Ok → (∀ p ∈ L, T.Has p) → (BankT.settleL mask L i T).Ok
  | [], _, _, h, _ => h
  | (k, a) :: L, i, T, h, hp => by
    rw [BankT.settleL]
    exact BankT.Ok.settleL mask (h.settle1 (hp _ (by simp)) _) (fun p hq => (BankT.has_settle1 (hp _ (by simp)) _ p).2 (hp p (by simp [hq])))
theorem BankT.settleL_dead (mask : Int) : ∀ (L : List (Nat × Nat)) (i : Nat) (T : BankT) (c : Nat), (∀ p ∈ L, T.Has p) → ((BankT.settleL mask L i T).d c).dead = (T.d c).dead ∧ ((BankT.settleL mask L i T).d c).fail = (T.d c).fail ∧ ((BankT.settleL mask L i T).d c).sin.length = (T.d c).sin.length
  | [], _, _, _, _ => ⟨rfl, rfl, rfl⟩
  | (k, a) :: L, i, T, c, hp => by
    rw [BankT.settleL]
    have hh := hp (k, a) (by simp)
    obtain ⟨h1, h2, h3⟩ := BankT.settleL_dead mask L (i + 1) _ c (fun p hq => (BankT.has_settle1 hh (bitOf mask i) p).2 (hp p (by simp [hq])))
    rw [h1, h2, h3, BankT.d_up _ hh.1]
    by_cases e : c = k
    · rw [if_pos e, Med.settle_dead, Med.settle_fail, Med.settle_sin, List.length_set, e]; exact ⟨rfl, rfl, rfl⟩
    · rw [if_neg e]; exact ⟨rfl, rfl, rfl⟩
/-- what settling a list does at each place: one that is not in it stays, one that is goes as its bit says -/
theorem BankT.settleL_at (mask : Int) (c a : Nat) : ∀ {L : List (Nat × Nat)} {i : Nat} {T : BankT}, T.Ok → (∀ p ∈ L, T.Has p) → L.Nodup → 
    ((c, a) ∉ L → ((BankT.settleL mask L i T).d c).flu.getD a [] = (T.d c).flu.getD a [] ∧ ((BankT.settleL mask L i T).d c).new.getD a [] = (T.d c).new.getD a [] ∧ ((BankT.settleL mask L i T).d c).sin.getD a 0 = (T.d c).sin.getD a 0) ∧
    (∀ j (hj : j < L.length), L[j] = (c, a) → ((BankT.settleL mask L i T).d c).flu.getD a [] = (if bitOf mask (i + j) then (T.d c).new.getD a [] else (T.d c).flu.getD a []) ∧ ((BankT.settleL mask L i T).d c).new.getD a [] = (if bitOf mask (i + j) then (T.d c).new.getD a [] else (T.d c).flu.getD a []) ∧ ((BankT.settleL mask L i T).d c).sin.getD a 0 = 0)
  | [], _, _, _, _, _ => ⟨fun _ => ⟨rfl, rfl, rfl⟩, fun j hj => absurd hj (by simp)⟩
  | (k, b) :: L, i, T, h, hp, hn => by
    have hh := hp (k, b) (by simp)
    have hn' := List.nodup_cons.1 hn
    have ih := BankT.settleL_at mask c a (L := L) (i := i + 1) (T := T.up k ((T.d k).settle b (bitOf mask i))) (h.settle1 hh _) (fun p hq => (BankT.has_settle1 hh _ p).2 (hp p (by simp [hq]))) hn'.2
    obtain ⟨s1, s2, s3⟩ := Med.settle_at (h.d hh.1) hh.2 (bitOf mask i) a
    rw [BankT.d_up _ hh.1] at ih
    rw [BankT.settleL]
    refine ⟨fun hne => ?_, fun j hj hL => ?_⟩
    · have hne' : ¬ ((c, a) = (k, b)) := fun e => hne (by simp [e])
      obtain ⟨i1, i2, i3⟩ := ih.1 (fun hm => hne (by simp [hm]))
      rw [i1, i2, i3]
      by_cases e : c = k
      · have hab : ¬ a = b := fun e2 => hne' (by rw [e, e2])
        rw [if_pos e, s1, s2, s3]
        simp only [hab, false_and, if_false, e]
        exact ⟨trivial, trivial, trivial⟩
      · rw [if_neg e]; exact ⟨rfl, rfl, rfl⟩
    · rcases j with _ | j
      · have hkb : k = c ∧ b = a := by simpa using hL
        obtain ⟨rfl, rfl⟩ := hkb
        obtain ⟨i1, i2, i3⟩ := ih.1 hn'.1
        rw [i1, i2, i3, if_pos rfl, s1, s2, s3]
        cases bitOf mask i <;> simp
      · have hj' : j < L.length := by simpa using hj
        have hL' : L[j] = (c, a) := by simpa using hL
        obtain ⟨i1, i2, i3⟩ := ih.2 j hj' hL'
        have hne' : ¬ (a = b ∧ c = k) := fun ⟨e1, e2⟩ => hn'.1 (by rw [← e1, ← e2, ← hL']; exact List.getElem_mem hj')
        rw [i1, i2, i3, show i + 1 + j = i + (j + 1) by omega]
        by_cases e : c = k
        · have hab : ¬ a = b := fun e2 => hne' ⟨e2, e⟩
          rw [if_pos e, s1, s2]
          simp only [hab, false_and, if_false, e]
          exact ⟨trivial, trivial, trivial⟩
        · rw [if_neg e]; exact ⟨rfl, rfl, rfl⟩
/-- the places of a disk, of a bank, that are loose -/
def Med.looseTo (k : Nat) (m : Med) : Nat → List (Nat × Nat)
  | 0 => []
  | j + 1 => if 0 < m.sin.getD j 0 then m.looseTo k j ++ [(k, j)] else m.looseTo k j
def BankT.looseTo (T : BankT) : Nat → List (Nat × Nat)
  | 0 => []
  | k + 1 => T.looseTo k ++ (T.d k).looseTo k (T.d k).sin.length
theorem Med.mem_looseTo (k : Nat) (m : Med) (j : Nat) (p : Nat × Nat) : p ∈ m.looseTo k j ↔ p.1 = k ∧ p.2 < j ∧ 0 < m.sin.getD p.2 0 := by
  induction j with
  | zero => simp [Med.looseTo]
  | succ j ih =>
    obtain ⟨x, y⟩ := p
    unfold Med.looseTo
    by_cases h : 0 < m.sin.getD j 0
    · rw [if_pos h, List.mem_append, ih, List.mem_singleton]
      simp only [Prod.mk.injEq]
      constructor
      · rintro (⟨h1, h2, h3⟩ | ⟨rfl, rfl⟩)
        · exact ⟨h1, by omega, h3⟩
        · exact ⟨rfl, by omega, h⟩
      · rintro ⟨h1, h2, h3⟩
        by_cases e : y = j
        · exact .inr ⟨h1, e⟩
        · exact .inl ⟨h1, by omega, h3⟩
    · rw [if_neg h, ih]
      constructor
      · rintro ⟨h1, h2, h3⟩; exact ⟨h1, by omega, h3⟩
      · rintro ⟨h1, h2, h3⟩
        refine ⟨h1, ?_, h3⟩
        by_cases e : y = j
        · subst e; exact absurd h3 h
        · simp only at h2; omega
theorem BankT.mem_looseTo (T : BankT) (n : Nat) (p : Nat × Nat) : p ∈ T.looseTo n ↔ p.1 < n ∧ p.2 < (T.d p.1).sin.length ∧ 0 < (T.d p.1).sin.getD p.2 0 := by
  induction n with
  | zero => simp [BankT.looseTo]
  | succ n ih =>
    unfold BankT.looseTo
    rw [List.mem_append, ih, Med.mem_looseTo]
    constructor
    · rintro (⟨h1, h2, h3⟩ | ⟨h1, h2, h3⟩)
      · exact ⟨by omega, h2, h3⟩
      · rw [h1]; exact ⟨by omega, h2, h3⟩
    · rintro ⟨h1, h2, h3⟩
      by_cases e : p.1 = n
      · rw [e] at h2 h3; exact .inr ⟨e, h2, h3⟩
      · exact .inl ⟨by omega, h2, h3⟩
theorem Med.nodup_looseTo (k : Nat) (m : Med) (j : Nat) : (m.looseTo k j).Nodup := by
  induction j with
  | zero => exact List.nodup_nil
  | succ j ih =>
    unfold Med.looseTo
    split
    · rw [List.nodup_append]
      refine ⟨ih, by simp, fun x hx y hy e => ?_⟩
      subst e
      have h1 := (Med.mem_looseTo k m j x).1 hx
      have h2 : x = (k, j) := by simpa using hy
      rw [h2] at h1; simp only at h1; omega
    · exact ih
theorem BankT.nodup_looseTo (T : BankT) (n : Nat) : (T.looseTo n).Nodup := by
  induction n with
  | zero => exact List.nodup_nil
  | succ n ih =>
    unfold BankT.looseTo
    rw [List.nodup_append]
    refine ⟨ih, Med.nodup_looseTo _ _ _, fun x hx y hy e => ?_⟩
    subst e
    have h1 := (BankT.mem_looseTo T n x).1 hx
    have h2 := (Med.mem_looseTo _ _ _ x).1 hy
    omega
end Go.Proofs.Ytglplhmclfekfaa
