/- PaC: several texts in one: Dka Dkb Dkc. -/
import Derived.Test.YtpeclkhppgabfaaDoorPaB
import Derived.Test.YtpeclkhppgabfaaDoorPaA
/- A disk.Bank in memory: what its blocks hold. -/
namespace Go.Proofs.YtpeclkhppgabfaaDoor
open Go.RowKit
set_option linter.unusedVariables false
set_option linter.unusedSimpArgs false

/-- a disk: its sectors as flushed and newest, since when each is loose, whether it is dead, at which write it fails -/
structure Med where
  flu : List (List Int)
  new : List (List Int)
  sin : List Int
  dead : Bool
  fail : Int
/-- a bank -/
structure BankT where
  l : List Med
  down : Bool
  clock : Int
  writes : Int
  armed : Int
  mask : Int
def Med.zero : Med := ⟨[], [], [], false, 0⟩
def Med.fresh (n : Nat) : Med := ⟨List.replicate n zeroB, List.replicate n zeroB, List.replicate n 0, false, 0⟩
def BankT.zero : BankT := ⟨[], false, 0, 0, 0, 0⟩
def BankT.d (T : BankT) (k : Nat) : Med := T.l.getD k Med.zero
def BankT.up (T : BankT) (k : Nat) (m : Med) : BankT := { T with l := T.l.set k m }
/-- a row of sectors that is one -/
def IsSecs (n : Nat) (l : List (List Int)) : Prop := l.length = n ∧ ∀ s ∈ l, s.length = 64 ∧ ∀ x ∈ s, IsByte x
structure Med.Ok (m : Med) : Prop where
  flu : IsSecs m.sin.length m.flu
  new : IsSecs m.sin.length m.new
  len : m.sin.length ≤ 4096
  sin : ∀ x ∈ m.sin, 0 ≤ x
  fail : 0 ≤ m.fail ∧ m.fail < 9223372036854775808
def BankT.Ok (T : BankT) : Prop := T.l.length ≤ 32 ∧ ∀ m ∈ T.l, m.Ok

/-- where a bank's blocks lie: 0 the bank, 1 its list, then four for each disk: the disk, flushed, newest, since -/
structure Lay where
  A : Nat → Nat
  c : Nat
  row : List Value
def Lay.ptr (Y : Lay) (i : Nat) : Value := .pointer (some ⟨Y.A i, 0, none⟩)
def Lay.sl (Y : Lay) (i n : Nat) : Value := .slice (some ⟨Y.A i, 0, none⟩) n n
def Lay.list (Y : Lay) (n : Nat) : Value := if n = 0 then .slice none 0 0 else .slice (some ⟨Y.A 1, 0, none⟩) n Y.c
def secs (l : List (List Int)) : List Value := u8s l.flatten
def bankVals (Y : Lay) (T : BankT) : List Value := [Y.list T.l.length, .bool T.down, .int .i64 T.clock, .int .i64 T.writes, .int .i64 T.armed, .int .u64 T.mask]
def medVals (Y : Lay) (k : Nat) (m : Med) : List Value := [Y.sl (3 + 4 * k) m.sin.length, Y.sl (4 + 4 * k) m.sin.length, Y.sl (5 + 4 * k) m.sin.length, .bool m.dead, .int .i64 m.fail]
/-- the blocks' contents -/
structure BankD (w : World) (Y : Lay) (T : BankT) : Prop where
  bank : w.heap[Y.A 0]? = some (.cells (bankVals Y T).toArray 89 (0, 0))
  row : T.l.length ≠ 0 → w.heap[Y.A 1]? = some (.cells Y.row.toArray 79 (0, 0)) ∧ Y.row.length = Y.c ∧ T.l.length ≤ Y.c ∧ Y.c ≤ maxLen ∧ ∀ k, k < T.l.length → Y.row[k]? = some (Y.ptr (2 + 4 * k))
  med : ∀ k, k < T.l.length → w.heap[Y.A (2 + 4 * k)]? = some (.cells (medVals Y k (T.d k)).toArray 86 (0, 0))
  flu : ∀ k, k < T.l.length → w.heap[Y.A (3 + 4 * k)]? = some (.cells (secs (T.d k).flu).toArray 39 (0, 0))
  new : ∀ k, k < T.l.length → w.heap[Y.A (4 + 4 * k)]? = some (.cells (secs (T.d k).new).toArray 39 (0, 0))
  sin : ∀ k, k < T.l.length → w.heap[Y.A (5 + 4 * k)]? = some (.cells (ints (T.d k).sin).toArray 3 (0, 0))
  inj : ∀ i j, i < 2 + 4 * T.l.length → j < 2 + 4 * T.l.length → (T.l.length = 0 → i ≠ 1 ∧ j ≠ 1) → Y.A i = Y.A j → i = j
theorem BankT.d_up {T : BankT} {k : Nat} (m : Med) (h : k < T.l.length) (j : Nat) : (T.up k m).d j = if j = k then m else T.d j := by
  unfold BankT.d BankT.up
  simp only [List.getD_eq_getElem?_getD, List.getElem?_set]
  by_cases e : k = j
  · subst e; simp [h]
  · simp [e, Ne.symm e]
theorem BankT.up_len (T : BankT) (k : Nat) (m : Med) : (T.up k m).l.length = T.l.length := by simp [BankT.up]
theorem BankT.up_d (T : BankT) (k : Nat) (h : k < T.l.length) : T.up k (T.d k) = T := by
  unfold BankT.up BankT.d
  rw [List.getD_eq_getElem?_getD, List.getElem?_eq_getElem h]; simp
theorem BankT.up_up (T : BankT) (k : Nat) (m m' : Med) : (T.up k m).up k m' = T.up k m' := by simp [BankT.up]
theorem BankT.Ok.d {T : BankT} (h : T.Ok) {k : Nat} (hk : k < T.l.length) : (T.d k).Ok := by
  unfold BankT.d
  rw [List.getD_eq_getElem?_getD, List.getElem?_eq_getElem hk]
  exact h.2 _ (List.getElem_mem hk)
theorem BankT.Ok.up {T : BankT} (h : T.Ok) (k : Nat) {m : Med} (hm : m.Ok) : (T.up k m).Ok := by
  refine ⟨by rw [BankT.up_len]; exact h.1, fun x hx => ?_⟩
  rcases List.mem_or_eq_of_mem_set hx with h' | h'
  · exact h.2 _ h'
  · rw [h']; exact hm
/-- block b is one of the bank's -/
def Lay.In (Y : Lay) (n b : Nat) : Prop := ∃ i, i < 2 + 4 * n ∧ (n = 0 → i ≠ 1) ∧ b = Y.A i
theorem Lay.in0 (Y : Lay) (n : Nat) : Y.In n (Y.A 0) := ⟨0, by omega, fun _ => by decide, rfl⟩
theorem Lay.in1 (Y : Lay) {n : Nat} (h : n ≠ 0) : Y.In n (Y.A 1) := ⟨1, by omega, fun e => absurd e h, rfl⟩
theorem Lay.in_ (Y : Lay) {n k : Nat} (h : k < n) (r : Nat) (h2 : 2 ≤ r) (h5 : r ≤ 5) : Y.In n (Y.A (r + 4 * k)) := ⟨r + 4 * k, by omega, fun e => by omega, rfl⟩
section
variable {w w' : World} {Y : Lay} {T : BankT}
theorem BankD.ne (h : BankD w Y T) {i j : Nat} (hi : i < 2 + 4 * T.l.length) (hj : j < 2 + 4 * T.l.length) (h0 : T.l.length ≠ 0) (hn : i ≠ j) : Y.A i ≠ Y.A j := fun e => hn (h.inj i j hi hj (fun e => absurd e h0) e)
theorem BankD.same (h : BankD w Y T) (hb : ∀ b, Y.In T.l.length b → w'.heap[b]? = w.heap[b]?) : BankD w' Y T where
  bank := (hb _ (Y.in0 _)).trans h.bank
  row h0 := ⟨(hb _ (Y.in1 h0)).trans (h.row h0).1, (h.row h0).2⟩
  med k hk := (hb _ (Y.in_ hk 2 (by decide) (by decide))).trans (h.med k hk)
  flu k hk := (hb _ (Y.in_ hk 3 (by decide) (by decide))).trans (h.flu k hk)
  new k hk := (hb _ (Y.in_ hk 4 (by decide) (by decide))).trans (h.new k hk)
  sin k hk := (hb _ (Y.in_ hk 5 (by decide) (by decide))).trans (h.sin k hk)
  inj := h.inj
theorem BankD.lt (h : BankD w Y T) {b : Nat} (hb : Y.In T.l.length b) : b < w.heap.size := by
  obtain ⟨i, hi, h0, rfl⟩ := hb
  have key : ∀ {o : Obj} {b : Nat}, w.heap[b]? = some o → b < w.heap.size := fun h => (Array.getElem?_eq_some_iff.1 h).1
  rcases i with _ | _ | i
  · exact key h.bank
  · exact key (h.row (fun e => h0 e rfl)).1
  · have hk : i / 4 < T.l.length := by omega
    have : i % 4 = 0 ∨ i % 4 = 1 ∨ i % 4 = 2 ∨ i % 4 = 3 := by omega
    rcases this with e | e | e | e
    · have := key (h.med _ hk); rwa [show 2 + 4 * (i / 4) = i + 1 + 1 by omega] at this
    · have := key (h.flu _ hk); rwa [show 3 + 4 * (i / 4) = i + 1 + 1 by omega] at this
    · have := key (h.new _ hk); rwa [show 4 + 4 * (i / 4) = i + 1 + 1 by omega] at this
    · have := key (h.sin _ hk); rwa [show 5 + 4 * (i / 4) = i + 1 + 1 by omega] at this
theorem BankD.kept (h : BankD w Y T) (hk : Kept w w') : BankD w' Y T := h.same fun b hb => hk.block_eq (h.lt hb)
/-- the bank's own cells are set -/
theorem BankD.put_bank (h : BankD w Y T) {T' : BankT} (hl : T'.l = T.l) (hb : w'.heap[Y.A 0]? = some (.cells (bankVals Y T').toArray 89 (0, 0))) (ho : ∀ b, b ≠ Y.A 0 → w'.heap[b]? = w.heap[b]?) : BankD w' Y T' := by
  have hd : ∀ k, T'.d k = T.d k := fun k => by simp [BankT.d, hl]
  have hne : ∀ i, 0 < i → i < 2 + 4 * T.l.length → (T.l.length = 0 → i ≠ 1) → Y.A i ≠ Y.A 0 := fun i h0 h1 h2 e => by
    have := h.inj i 0 h1 (by omega) (fun e => ⟨h2 e, by decide⟩) e
    omega
  refine ⟨hb, fun h0 => ?_, fun k hk => ?_, fun k hk => ?_, fun k hk => ?_, fun k hk => ?_, ?_⟩
  · rw [hl] at h0 ⊢
    exact ⟨(ho _ (hne 1 (by omega) (by omega) (fun e => absurd e h0))).trans (h.row h0).1, (h.row h0).2⟩
  · rw [hl] at hk; rw [hd, ho _ (hne _ (by omega) (by omega) (fun e => by omega))]; exact h.med k hk
  · rw [hl] at hk; rw [hd, ho _ (hne _ (by omega) (by omega) (fun e => by omega))]; exact h.flu k hk
  · rw [hl] at hk; rw [hd, ho _ (hne _ (by omega) (by omega) (fun e => by omega))]; exact h.new k hk
  · rw [hl] at hk; rw [hd, ho _ (hne _ (by omega) (by omega) (fun e => by omega))]; exact h.sin k hk
  · rw [hl]; exact h.inj
/-- one of a disk's blocks is set: j is its number -/
theorem BankD.put_med (h : BankD w Y T) {k : Nat} (hk : k < T.l.length) (m : Med) {j : Nat} (hj : 2 ≤ j) (hj5 : j ≤ 5) (ho : ∀ b, b ≠ Y.A (j + 4 * k) → w'.heap[b]? = w.heap[b]?)
    (h2 : w'.heap[Y.A (2 + 4 * k)]? = some (.cells (medVals Y k m).toArray 86 (0, 0)))
    (h3 : w'.heap[Y.A (3 + 4 * k)]? = some (.cells (secs m.flu).toArray 39 (0, 0)))
    (h4 : w'.heap[Y.A (4 + 4 * k)]? = some (.cells (secs m.new).toArray 39 (0, 0)))
    (h5 : w'.heap[Y.A (5 + 4 * k)]? = some (.cells (ints m.sin).toArray 3 (0, 0))) : BankD w' Y (T.up k m) := by
  have hn0 : T.l.length ≠ 0 := by omega
  have hne : ∀ i, i ≠ j + 4 * k → i < 2 + 4 * T.l.length → Y.A i ≠ Y.A (j + 4 * k) := fun i h0 h1 => h.ne h1 (by omega) hn0 h0
  have hbv : bankVals Y (T.up k m) = bankVals Y T := by simp [bankVals, BankT.up_len]; simp [BankT.up]
  refine ⟨?_, fun h0 => ?_, fun i hi => ?_, fun i hi => ?_, fun i hi => ?_, fun i hi => ?_, ?_⟩
  · rw [hbv, ho _ (hne 0 (by omega) (by omega))]; exact h.bank
  · rw [BankT.up_len] at h0 ⊢; exact ⟨(ho _ (hne 1 (by omega) (by omega))).trans (h.row h0).1, (h.row h0).2⟩
  · rw [BankT.up_len] at hi; rw [BankT.d_up m hk]
    by_cases e : i = k
    · subst e; simpa using h2
    · rw [if_neg e, ho _ (hne _ (by omega) (by omega))]; exact h.med i hi
  · rw [BankT.up_len] at hi; rw [BankT.d_up m hk]
    by_cases e : i = k
    · subst e; simpa using h3
    · rw [if_neg e, ho _ (hne _ (by omega) (by omega))]; exact h.flu i hi
  · rw [BankT.up_len] at hi; rw [BankT.d_up m hk]
    by_cases e : i = k
    · subst e; simpa using h4
    · rw [if_neg e, ho _ (hne _ (by omega) (by omega))]; exact h.new i hi
  · rw [BankT.up_len] at hi; rw [BankT.d_up m hk]
    by_cases e : i = k
    · subst e; simpa using h5
    · rw [if_neg e, ho _ (hne _ (by omega) (by omega))]; exact h.sin i hi
  · rw [BankT.up_len]; exact h.inj
end
end Go.Proofs.YtpeclkhppgabfaaDoor
/- A disk.Bank in plain Lean: what is loose is settled. -/
namespace Go.Proofs.YtpeclkhppgabfaaDoor
open Go.RowKit
set_option linter.unusedVariables false
set_option linter.unusedSimpArgs false

/-- a sector's newest content becomes the flushed one, or is lost -/
def Med.settle (m : Med) (i : Nat) (keep : Bool) : Med :=
  if keep then { m with flu := m.flu.set i (m.new.getD i []), sin := m.sin.set i 0 } else { m with new := m.new.set i (m.flu.getD i []), sin := m.sin.set i 0 }
/-- all that are loose among the first j -/
def Med.settleTo (keep : Bool) (m : Med) : Nat → Med
  | 0 => m
  | j + 1 => if 0 < m.sin.getD j 0 then (m.settleTo keep j).settle j keep else m.settleTo keep j

theorem IsSecs.set {n : Nat} {l : List (List Int)} (h : IsSecs n l) (i : Nat) {s : List Int} (hs : s.length = 64 ∧ ∀ x ∈ s, IsByte x) : IsSecs n (l.set i s) := by
  refine ⟨by rw [List.length_set]; exact h.1, fun x hx => ?_⟩
  rcases List.mem_or_eq_of_mem_set hx with h' | h'
  · exact h.2 _ h'
  · rw [h']; exact hs
theorem IsSecs.at {n : Nat} {l : List (List Int)} (h : IsSecs n l) {i : Nat} (hi : i < n) : (l.getD i []).length = 64 ∧ ∀ x ∈ l.getD i [], IsByte x := by
  have hl : i < l.length := by rw [h.1]; exact hi
  rw [List.getD_eq_getElem?_getD, List.getElem?_eq_getElem hl]
  exact h.2 _ (List.getElem_mem hl)
theorem Med.settle_sin (m : Med) (i : Nat) (keep : Bool) : (m.settle i keep).sin = m.sin.set i 0 := by unfold Med.settle; split <;> rfl
theorem Med.settle_dead (m : Med) (i : Nat) (keep : Bool) : (m.settle i keep).dead = m.dead := by unfold Med.settle; split <;> rfl
theorem Med.settle_fail (m : Med) (i : Nat) (keep : Bool) : (m.settle i keep).fail = m.fail := by unfold Med.settle; split <;> rfl
theorem Med.Ok.settle {m : Med} (h : m.Ok) {i : Nat} (hi : i < m.sin.length) (keep : Bool) : (m.settle i keep).Ok := by
  have hs : ∀ x ∈ m.sin.set i 0, 0 ≤ x := fun x hx => by
    rcases List.mem_or_eq_of_mem_set hx with h' | h'
    · exact h.sin _ h'
    · rw [h']; exact Int.le_refl _
  unfold Med.settle
  split
  · exact ⟨by simpa using h.flu.set i (h.new.at hi), by simpa using h.new, by simpa using h.len, hs, h.fail⟩
  · exact ⟨by simpa using h.flu, by simpa using h.new.set i (h.flu.at hi), by simpa using h.len, hs, h.fail⟩
theorem Med.settleTo_len (keep : Bool) (m : Med) (j : Nat) : (m.settleTo keep j).sin.length = m.sin.length := by
  induction j with
  | zero => rfl
  | succ j ih => unfold Med.settleTo; split <;> simp [Med.settle_sin, ih]
theorem Med.settleTo_dead (keep : Bool) (m : Med) (j : Nat) : (m.settleTo keep j).dead = m.dead := by
  induction j with
  | zero => rfl
  | succ j ih => unfold Med.settleTo; split <;> simp [Med.settle_dead, ih]
theorem Med.settleTo_fail (keep : Bool) (m : Med) (j : Nat) : (m.settleTo keep j).fail = m.fail := by
  induction j with
  | zero => rfl
  | succ j ih => unfold Med.settleTo; split <;> simp [Med.settle_fail, ih]
theorem Med.Ok.settleTo {m : Med} (h : m.Ok) (keep : Bool) : ∀ {j : Nat}, j ≤ m.sin.length → (m.settleTo keep j).Ok
  | 0, _ => h
  | j + 1, hj => by
    unfold Med.settleTo
    split
    · exact (h.settleTo keep (by omega)).settle (by rw [Med.settleTo_len]; omega) keep
    · exact h.settleTo keep (by omega)
/-- what settling does at each place -/
theorem Med.settle_at {m : Med} (h : m.Ok) {i : Nat} (hi : i < m.sin.length) (keep : Bool) (a : Nat) :
    (m.settle i keep).flu.getD a [] = (if a = i ∧ keep = true then m.new.getD a [] else m.flu.getD a []) ∧
    (m.settle i keep).new.getD a [] = (if a = i ∧ keep = false then m.flu.getD a [] else m.new.getD a []) ∧
    (m.settle i keep).sin.getD a 0 = (if a = i then 0 else m.sin.getD a 0) := by
  have h1 : i < m.flu.length := by rw [h.flu.1]; exact hi
  have h2 : i < m.new.length := by rw [h.new.1]; exact hi
  unfold Med.settle
  by_cases e : a = i
  · subst e
    cases keep <;> simp [List.getD_eq_getElem?_getD, List.getElem?_set, hi, h1, h2]
  · cases keep <;> simp [List.getD_eq_getElem?_getD, List.getElem?_set, e, Ne.symm e]
theorem Med.settleTo_at {m : Med} (h : m.Ok) (keep : Bool) (a : Nat) : ∀ {j : Nat}, j ≤ m.sin.length →
    (m.settleTo keep j).flu.getD a [] = (if a < j ∧ 0 < m.sin.getD a 0 ∧ keep = true then m.new.getD a [] else m.flu.getD a []) ∧
    (m.settleTo keep j).new.getD a [] = (if a < j ∧ 0 < m.sin.getD a 0 ∧ keep = false then m.flu.getD a [] else m.new.getD a []) ∧
    (m.settleTo keep j).sin.getD a 0 = (if a < j ∧ 0 < m.sin.getD a 0 then 0 else m.sin.getD a 0)
  | 0, _ => by simp [Med.settleTo]
  | j + 1, hj => by
    obtain ⟨i1, i2, i3⟩ := Med.settleTo_at h keep a (j := j) (by omega)
    by_cases hp : 0 < m.sin.getD j 0
    · have e : m.settleTo keep (j + 1) = (m.settleTo keep j).settle j keep := by rw [Med.settleTo, if_pos hp]
      obtain ⟨s1, s2, s3⟩ := Med.settle_at (h.settleTo keep (j := j) (by omega)) (i := j) (by rw [Med.settleTo_len]; omega) keep a
      rw [e, s1, s2, s3, i1, i2, i3]
      by_cases ea : a = j
      · subst ea
        have : ¬ a < a := by omega
        have h1 : a < a + 1 := by omega
        simp only [this, false_and, if_false, h1, true_and, hp]

      · have : a < j + 1 ↔ a < j := by omega
        simp only [ea, false_and, if_false, this]
        exact ⟨trivial, trivial, trivial⟩
    · have e : m.settleTo keep (j + 1) = m.settleTo keep j := by rw [Med.settleTo, if_neg hp]
      rw [e, i1, i2, i3]
      by_cases ea : a = j
      · subst ea
        simp only [hp, false_and, and_false, if_false]
        exact ⟨trivial, trivial, trivial⟩
      · have : a < j + 1 ↔ a < j := by omega
        simp only [this]
        exact ⟨trivial, trivial, trivial⟩

/-- the bit that says whether number i is kept -/
def bitOf (mask : Int) (i : Nat) : Bool := mask.toNat.testBit (i % 64)
/-- the places in L are settled in order, as the mask says -/
def BankT.settleL (mask : Int) : List (Nat × Nat) → Nat → BankT → BankT
  | [], _, T => T
  | (k, a) :: L, i, T => BankT.settleL mask L (i + 1) (T.up k ((T.d k).settle a (bitOf mask i)))
/-- a place that is one -/
def BankT.Has (T : BankT) (p : Nat × Nat) : Prop := p.1 < T.l.length ∧ p.2 < (T.d p.1).sin.length
theorem BankT.Ok.settle1 {T : BankT} (h : T.Ok) {k a : Nat} (hp : T.Has (k, a)) (b : Bool) : (T.up k ((T.d k).settle a b)).Ok := h.up k ((h.d hp.1).settle hp.2 b)
theorem BankT.has_settle1 {T : BankT} {k a : Nat} (hp : T.Has (k, a)) (b : Bool) (q : Nat × Nat) : (T.up k ((T.d k).settle a b)).Has q ↔ T.Has q := by
  unfold BankT.Has
  rw [BankT.up_len, BankT.d_up _ hp.1]
  by_cases e : q.1 = k
  · rw [if_pos e, Med.settle_sin, List.length_set, e]
  · rw [if_neg e]
theorem BankT.settleL_len (mask : Int) : ∀ (L : List (Nat × Nat)) (i : Nat) (T : BankT), (BankT.settleL mask L i T).l.length = T.l.length
  | [], _, _ => rfl
  | (k, a) :: L, i, T => by rw [BankT.settleL, BankT.settleL_len, BankT.up_len]
theorem BankT.settleL_rest (mask : Int) : ∀ (L : List (Nat × Nat)) (i : Nat) (T : BankT), (BankT.settleL mask L i T).down = T.down ∧ (BankT.settleL mask L i T).clock = T.clock ∧ (BankT.settleL mask L i T).writes = T.writes ∧ (BankT.settleL mask L i T).armed = T.armed ∧ (BankT.settleL mask L i T).mask = T.mask
  | [], _, _ => ⟨rfl, rfl, rfl, rfl, rfl⟩
  | (k, a) :: L, i, T => by rw [BankT.settleL]; exact BankT.settleL_rest mask L (i + 1) _
theorem BankT.Ok.settleL (mask : Int) : ∀ {L : List (Nat × Nat)} {i : Nat} {T : BankT}, T.Ok → (∀ p ∈ L, T.Has p) → (BankT.settleL mask L i T).Ok
  | [], _, _, h, _ => h
  | (k, a) :: L, i, T, h, hp => by
    rw [BankT.settleL]
    exact BankT.Ok.settleL mask (h.settle1 (hp _ (by simp)) _) (fun p hq => (BankT.has_settle1 (hp _ (by simp)) _ p).2 (hp p (by simp [hq])))
theorem BankT.settleL_dead (mask : Int) : ∀ (L : List (Nat × Nat)) (i : Nat) (T : BankT) (c : Nat), (∀ p ∈ L, T.Has p) → ((BankT.settleL mask L i T).d c).dead = (T.d c).dead ∧ ((BankT.settleL mask L i T).d c).fail = (T.d c).fail ∧ ((BankT.settleL mask L i T).d c).sin.length = (T.d c).sin.length
  | [], _, _, _, _ => ⟨rfl, rfl, rfl⟩
  | (k, a) :: L, i, T, c, hp => by
    rw [BankT.settleL]
    have hh := hp (k, a) (by simp)
    obtain ⟨h1, h2, h3⟩ := BankT.settleL_dead mask L (i + 1) _ c (fun p hq => (BankT.has_settle1 hh (bitOf mask i) p).2 (hp p (by simp [hq])))
    rw [h1, h2, h3, BankT.d_up _ hh.1]
    by_cases e : c = k
    · rw [if_pos e, Med.settle_dead, Med.settle_fail, Med.settle_sin, List.length_set, e]; exact ⟨rfl, rfl, rfl⟩
    · rw [if_neg e]; exact ⟨rfl, rfl, rfl⟩
/-- what settling a list does at each place: one that is not in it stays, one that is goes as its bit says -/
theorem BankT.settleL_at (mask : Int) (c a : Nat) : ∀ {L : List (Nat × Nat)} {i : Nat} {T : BankT}, T.Ok → (∀ p ∈ L, T.Has p) → L.Nodup → 
    ((c, a) ∉ L → ((BankT.settleL mask L i T).d c).flu.getD a [] = (T.d c).flu.getD a [] ∧ ((BankT.settleL mask L i T).d c).new.getD a [] = (T.d c).new.getD a [] ∧ ((BankT.settleL mask L i T).d c).sin.getD a 0 = (T.d c).sin.getD a 0) ∧
    (∀ j (hj : j < L.length), L[j] = (c, a) → ((BankT.settleL mask L i T).d c).flu.getD a [] = (if bitOf mask (i + j) then (T.d c).new.getD a [] else (T.d c).flu.getD a []) ∧ ((BankT.settleL mask L i T).d c).new.getD a [] = (if bitOf mask (i + j) then (T.d c).new.getD a [] else (T.d c).flu.getD a []) ∧ ((BankT.settleL mask L i T).d c).sin.getD a 0 = 0)
  | [], _, _, _, _, _ => ⟨fun _ => ⟨rfl, rfl, rfl⟩, fun j hj => absurd hj (by simp)⟩
  | (k, b) :: L, i, T, h, hp, hn => by
    have hh := hp (k, b) (by simp)
    have hn' := List.nodup_cons.1 hn
    have ih := BankT.settleL_at mask c a (L := L) (i := i + 1) (T := T.up k ((T.d k).settle b (bitOf mask i))) (h.settle1 hh _) (fun p hq => (BankT.has_settle1 hh _ p).2 (hp p (by simp [hq]))) hn'.2
    obtain ⟨s1, s2, s3⟩ := Med.settle_at (h.d hh.1) hh.2 (bitOf mask i) a
    rw [BankT.d_up _ hh.1] at ih
    rw [BankT.settleL]
    refine ⟨fun hne => ?_, fun j hj hL => ?_⟩
    · have hne' : ¬ ((c, a) = (k, b)) := fun e => hne (by simp [e])
      obtain ⟨i1, i2, i3⟩ := ih.1 (fun hm => hne (by simp [hm]))
      rw [i1, i2, i3]
      by_cases e : c = k
      · have hab : ¬ a = b := fun e2 => hne' (by rw [e, e2])
        rw [if_pos e, s1, s2, s3]
        simp only [hab, false_and, if_false, e]
        exact ⟨trivial, trivial, trivial⟩
      · rw [if_neg e]; exact ⟨rfl, rfl, rfl⟩
    · rcases j with _ | j
      · have hkb : k = c ∧ b = a := by simpa using hL
        obtain ⟨rfl, rfl⟩ := hkb
        obtain ⟨i1, i2, i3⟩ := ih.1 hn'.1
        rw [i1, i2, i3, if_pos rfl, s1, s2, s3]
        cases bitOf mask i <;> simp
      · have hj' : j < L.length := by simpa using hj
        have hL' : L[j] = (c, a) := by simpa using hL
        obtain ⟨i1, i2, i3⟩ := ih.2 j hj' hL'
        have hne' : ¬ (a = b ∧ c = k) := fun ⟨e1, e2⟩ => hn'.1 (by rw [← e1, ← e2, ← hL']; exact List.getElem_mem hj')
        rw [i1, i2, i3, show i + 1 + j = i + (j + 1) by omega]
        by_cases e : c = k
        · have hab : ¬ a = b := fun e2 => hne' ⟨e2, e⟩
          rw [if_pos e, s1, s2]
          simp only [hab, false_and, if_false, e]
          exact ⟨trivial, trivial, trivial⟩
        · rw [if_neg e]; exact ⟨rfl, rfl, rfl⟩
/-- the places of a disk, of a bank, that are loose -/
def Med.looseTo (k : Nat) (m : Med) : Nat → List (Nat × Nat)
  | 0 => []
  | j + 1 => if 0 < m.sin.getD j 0 then m.looseTo k j ++ [(k, j)] else m.looseTo k j
def BankT.looseTo (T : BankT) : Nat → List (Nat × Nat)
  | 0 => []
  | k + 1 => T.looseTo k ++ (T.d k).looseTo k (T.d k).sin.length
theorem Med.mem_looseTo (k : Nat) (m : Med) (j : Nat) (p : Nat × Nat) : p ∈ m.looseTo k j ↔ p.1 = k ∧ p.2 < j ∧ 0 < m.sin.getD p.2 0 := by
  induction j with
  | zero => simp [Med.looseTo]
  | succ j ih =>
    obtain ⟨x, y⟩ := p
    unfold Med.looseTo
    by_cases h : 0 < m.sin.getD j 0
    · rw [if_pos h, List.mem_append, ih, List.mem_singleton]
      simp only [Prod.mk.injEq]
      constructor
      · rintro (⟨h1, h2, h3⟩ | ⟨rfl, rfl⟩)
        · exact ⟨h1, by omega, h3⟩
        · exact ⟨rfl, by omega, h⟩
      · rintro ⟨h1, h2, h3⟩
        by_cases e : y = j
        · exact .inr ⟨h1, e⟩
        · exact .inl ⟨h1, by omega, h3⟩
    · rw [if_neg h, ih]
      constructor
      · rintro ⟨h1, h2, h3⟩; exact ⟨h1, by omega, h3⟩
      · rintro ⟨h1, h2, h3⟩
        refine ⟨h1, ?_, h3⟩
        by_cases e : y = j
        · subst e; exact absurd h3 h
        · simp only at h2; omega
theorem BankT.mem_looseTo (T : BankT) (n : Nat) (p : Nat × Nat) : p ∈ T.looseTo n ↔ p.1 < n ∧ p.2 < (T.d p.1).sin.length ∧ 0 < (T.d p.1).sin.getD p.2 0 := by
  induction n with
  | zero => simp [BankT.looseTo]
  | succ n ih =>
    unfold BankT.looseTo
    rw [List.mem_append, ih, Med.mem_looseTo]
    constructor
    · rintro (⟨h1, h2, h3⟩ | ⟨h1, h2, h3⟩)
      · exact ⟨by omega, h2, h3⟩
      · rw [h1]; exact ⟨by omega, h2, h3⟩
    · rintro ⟨h1, h2, h3⟩
      by_cases e : p.1 = n
      · rw [e] at h2 h3; exact .inr ⟨e, h2, h3⟩
      · exact .inl ⟨by omega, h2, h3⟩
theorem Med.nodup_looseTo (k : Nat) (m : Med) (j : Nat) : (m.looseTo k j).Nodup := by
  induction j with
  | zero => exact List.nodup_nil
  | succ j ih =>
    unfold Med.looseTo
    split
    · rw [List.nodup_append]
      refine ⟨ih, by simp, fun x hx y hy e => ?_⟩
      subst e
      have h1 := (Med.mem_looseTo k m j x).1 hx
      have h2 : x = (k, j) := by simpa using hy
      rw [h2] at h1; simp only at h1; omega
    · exact ih
theorem BankT.nodup_looseTo (T : BankT) (n : Nat) : (T.looseTo n).Nodup := by
  induction n with
  | zero => exact List.nodup_nil
  | succ n ih =>
    unfold BankT.looseTo
    rw [List.nodup_append]
    refine ⟨ih, Med.nodup_looseTo _ _ _, fun x hx y hy e => ?_⟩
    subst e
    have h1 := (BankT.mem_looseTo T n x).1 hx
    have h2 := (Med.mem_looseTo _ _ _ x).1 hy
    omega
end Go.Proofs.YtpeclkhppgabfaaDoor
/- A disk.Bank: a law's own bank; one sector is settled. -/
namespace Go.Proofs.YtpeclkhppgabfaaDoor
open Go.RowKit
set_option linter.unusedVariables false
set_option linter.unusedSimpArgs false

theorem flat_len (l : List (List Int)) (h : ∀ s ∈ l, s.length = 64) : l.flatten.length = l.length * 64 := by
  induction l with
  | nil => rfl
  | cons x l ih =>
    rw [List.flatten_cons, List.length_append, h x (by simp), ih (fun s hs => h s (by simp [hs])), List.length_cons]; omega
theorem list_split (l : List (List Int)) (a : Nat) (ha : a < l.length) : ∃ l1 l2, l = l1 ++ l.getD a [] :: l2 ∧ l1.length = a ∧ ∀ s, l.set a s = l1 ++ s :: l2 := by
  refine ⟨l.take a, l.drop (a + 1), ?_, by simp; omega, fun s => ?_⟩
  · rw [List.getD_eq_getElem?_getD, List.getElem?_eq_getElem ha, Option.getD_some, List.getElem_cons_drop, List.take_append_drop]
  · rw [List.set_eq_take_append_cons_drop, if_pos ha]
theorem secs_split (l1 : List (List Int)) (x : List Int) (l2 : List (List Int)) : secs (l1 ++ x :: l2) = u8s l1.flatten ++ (u8s x ++ u8s l2.flatten) := by
  simp [secs, u8s]
theorem splice_mid (A X B S : List Value) (n : Nat) (hA : A.length = n) (hX : S.length = X.length) : splice (A ++ (X ++ B)) n S = A ++ (S ++ B) := by
  subst hA
  unfold splice
  rw [List.take_append_of_le_length (Nat.le_refl _), List.take_length, hX, ← List.drop_drop, List.drop_left, List.drop_left]
theorem sec_mem {l l1 l2 : List (List Int)} {x : List Int} (e : l = l1 ++ x :: l2) (h : ∀ s ∈ l, s.length = 64) : x.length = 64 ∧ l1.flatten.length = l1.length * 64 := by
  subst e
  exact ⟨h x (by simp), flat_len l1 (fun s hs => h s (by simp [hs]))⟩
theorem splice_flat (l : List (List Int)) (h : ∀ s ∈ l, s.length = 64) (a : Nat) (ha : a < l.length) (s : List Int) (hs : s.length = 64) : splice (secs l) (a * 64) (u8s s) = secs (l.set a s) := by
  obtain ⟨l1, l2, e, h1, e2⟩ := list_split l a ha
  obtain ⟨hx, hl⟩ := sec_mem e h
  rw [e2, secs_split]
  generalize l.getD a [] = x at *
  subst e
  rw [secs_split, splice_mid _ _ _ _ _ (by rw [u8s_length, hl, h1]) (by rw [u8s_length, u8s_length, hs, hx])]
theorem cells_sec {w : World} {b : Nat} {l : List (List Int)} (hc : Cells w b 0 (secs l)) (h : ∀ s ∈ l, s.length = 64) {a : Nat} (ha : a < l.length) : Cells w b (a * 64) (u8s (l.getD a [])) := by
  obtain ⟨l1, l2, e, h1, _⟩ := list_split l a ha
  obtain ⟨hx, hl⟩ := sec_mem e h
  generalize l.getD a [] = x at *
  subst e
  rw [secs_split] at hc
  have hA : (u8s l1.flatten).length = a * 64 := by rw [u8s_length, hl, h1]
  generalize u8s l1.flatten = A at *
  generalize u8s l2.flatten = B at *
  intro j hj
  have := hc (a * 64 + j) (by simp only [List.length_append]; omega)
  rw [Nat.zero_add] at this
  rw [this]
  congr 1
  rw [List.getElem_append_right (by omega), List.getElem_append_left (by omega)]
  simp only [hA, Nat.add_sub_cancel_left]
theorem secs_length (l : List (List Int)) (h : ∀ s ∈ l, s.length = 64) : (secs l).length = l.length * 64 := by rw [secs, u8s_length, flat_len l h]

/-- a law's own bank; R: the law's other blocks -/
structure BO (w0 : World) (R : Nat → Prop) (W : World) (Y : Lay) (T : BankT) : Prop where
  d : BankD W Y T
  keeps : Kept w0 W
  own : ∀ b, Y.In T.l.length b → w0.heap.size ≤ b
  off : ∀ k, R k → k < W.heap.size ∧ ¬ Y.In T.l.length k
/-- The blocks that R names are as they were. -/
def SameR (R : Nat → Prop) (W W' : World) : Prop := ∀ k, R k → W'.heap[k]? = W.heap[k]?
theorem SameR.refl (R : Nat → Prop) (W : World) : SameR R W W := fun _ _ => rfl
theorem SameR.trans {R : Nat → Prop} {a b c : World} (h : SameR R a b) (k : SameR R b c) : SameR R a c := fun i hi => (k i hi).trans (h i hi)
theorem SameR.cells {R : Nat → Prop} {a b : World} (h : SameR R a b) {B off : Nat} {xs : List Value} (hB : R B) (hc : Cells a B off xs) : Cells b B off xs := fun j hj => by
  rw [← hc j hj]; exact World.cell?_of_block (h B hB)
section
variable {w0 W W' : World} {R : Nat → Prop} {Y : Lay} {T T' : BankT}
theorem BO.step (h : BO w0 R W Y T) (hd : BankD W' Y T') (hl : T'.l.length = T.l.length) (hb : But (Y.In T.l.length) W W') : BO w0 R W' Y T' ∧ SameR R W W' :=
  ⟨⟨hd, But.to_kept h.keeps hb h.own, by rw [hl]; exact h.own, fun k hk => ⟨Nat.lt_of_lt_of_le (h.off k hk).1 hb.size, by rw [hl]; exact (h.off k hk).2⟩⟩, fun k hk => hb.block k (h.off k hk).1 (h.off k hk).2⟩
theorem BO.kept (h : BO w0 R W Y T) (hk : Kept W W') : BO w0 R W' Y T ∧ SameR R W W' := h.step (h.d.kept hk) rfl (But.kept hk)
theorem BO.less {R' : Nat → Prop} (h : BO w0 R W Y T) (hr : ∀ k, R' k → R k) : BO w0 R' W Y T := ⟨h.d, h.keeps, h.own, fun k hk => h.off k (hr k hk)⟩
theorem BO.more (h : BO w0 R W Y T) (hk : Kept W W') (B : Nat) (h1 : W.heap.size ≤ B) (h2 : B < W'.heap.size) : BO w0 (fun k => R k ∨ k = B) W' Y T := by
  refine ⟨h.d.kept hk, h.keeps.trans hk, h.own, fun k hk' => ?_⟩
  rcases hk' with h' | rfl
  · exact ⟨Nat.lt_of_lt_of_le (h.off k h').1 hk.size, (h.off k h').2⟩
  · exact ⟨h2, fun hs => by have := h.d.lt hs; omega⟩
theorem BO.wrote (h : BO w0 R W Y T) {B : Nat} {cs : List Value} {t : TypeId} (hw : Wrote W W' B cs t) (hB : R B) (hb : w0.heap.size ≤ B) : BO w0 R W' Y T :=
  ⟨h.d.same fun b hb' => hw.oth b (fun e => (h.off B hB).2 (e ▸ hb')), hw.kept h.keeps hb, h.own, fun k hk => by rw [hw.size]; exact h.off k hk⟩
end
theorem BankT.up_self {T : BankT} {k : Nat} (m : Med) (h : k < T.l.length) : (T.up k m).d k = m := by rw [BankT.d_up m h, if_pos rfl]
section
variable {w w1 : World} {Y : Lay} {T : BankT} {k : Nat}
theorem BankD.wrote_flu (h : BankD w Y T) (hk : k < T.l.length) {l : List (List Int)} (hw : Wrote w w1 (Y.A (3 + 4 * k)) (secs l) 39) : BankD w1 Y (T.up k { T.d k with flu := l }) ∧ But (Y.In T.l.length) w w1 :=
  have ne : ∀ i, i ≠ 3 → 2 ≤ i → i ≤ 5 → Y.A (i + 4 * k) ≠ Y.A (3 + 4 * k) := fun i h1 h2 h3 => h.ne (by omega) (by omega) (by omega) (by omega)
  ⟨h.put_med hk _ (j := 3) (by decide) (by decide) (fun b hb => hw.oth b hb) ((hw.oth _ (ne 2 (by decide) (by decide) (by decide))).trans (h.med k hk)) hw.blk ((hw.oth _ (ne 4 (by decide) (by decide) (by decide))).trans (h.new k hk)) ((hw.oth _ (ne 5 (by decide) (by decide) (by decide))).trans (h.sin k hk)), But.wrote hw (Y.in_ hk 3 (by decide) (by decide))⟩
theorem BankD.wrote_new (h : BankD w Y T) (hk : k < T.l.length) {l : List (List Int)} (hw : Wrote w w1 (Y.A (4 + 4 * k)) (secs l) 39) : BankD w1 Y (T.up k { T.d k with new := l }) ∧ But (Y.In T.l.length) w w1 :=
  have ne : ∀ i, i ≠ 4 → 2 ≤ i → i ≤ 5 → Y.A (i + 4 * k) ≠ Y.A (4 + 4 * k) := fun i h1 h2 h3 => h.ne (by omega) (by omega) (by omega) (by omega)
  ⟨h.put_med hk _ (j := 4) (by decide) (by decide) (fun b hb => hw.oth b hb) ((hw.oth _ (ne 2 (by decide) (by decide) (by decide))).trans (h.med k hk)) ((hw.oth _ (ne 3 (by decide) (by decide) (by decide))).trans (h.flu k hk)) hw.blk ((hw.oth _ (ne 5 (by decide) (by decide) (by decide))).trans (h.sin k hk)), But.wrote hw (Y.in_ hk 4 (by decide) (by decide))⟩
theorem BankD.wrote_sin (h : BankD w Y T) (hk : k < T.l.length) {l : List Int} (hl : l.length = (T.d k).sin.length) (hw : Wrote w w1 (Y.A (5 + 4 * k)) (ints l) 3) : BankD w1 Y (T.up k { T.d k with sin := l }) ∧ But (Y.In T.l.length) w w1 :=
  have ne : ∀ i, i ≠ 5 → 2 ≤ i → i ≤ 5 → Y.A (i + 4 * k) ≠ Y.A (5 + 4 * k) := fun i h1 h2 h3 => h.ne (by omega) (by omega) (by omega) (by omega)
  ⟨h.put_med hk _ (j := 5) (by decide) (by decide) (fun b hb => hw.oth b hb) (by
    have e : medVals Y k { T.d k with sin := l } = medVals Y k (T.d k) := by simp [medVals, hl]
    rw [e]; exact (hw.oth _ (ne 2 (by decide) (by decide) (by decide))).trans (h.med k hk)) ((hw.oth _ (ne 3 (by decide) (by decide) (by decide))).trans (h.flu k hk)) ((hw.oth _ (ne 4 (by decide) (by decide) (by decide))).trans (h.new k hk)) hw.blk, But.wrote hw (Y.in_ hk 5 (by decide) (by decide))⟩
theorem BankD.wrote_med (h : BankD w Y T) (hk : k < T.l.length) {d : Bool} {f : Int} (hw : Wrote w w1 (Y.A (2 + 4 * k)) (medVals Y k { T.d k with dead := d, fail := f }) 86) : BankD w1 Y (T.up k { T.d k with dead := d, fail := f }) ∧ But (Y.In T.l.length) w w1 :=
  have ne : ∀ i, i ≠ 2 → 2 ≤ i → i ≤ 5 → Y.A (i + 4 * k) ≠ Y.A (2 + 4 * k) := fun i h1 h2 h3 => h.ne (by omega) (by omega) (by omega) (by omega)
  ⟨h.put_med hk _ (j := 2) (by decide) (by decide) (fun b hb => hw.oth b hb) hw.blk ((hw.oth _ (ne 3 (by decide) (by decide) (by decide))).trans (h.flu k hk)) ((hw.oth _ (ne 4 (by decide) (by decide) (by decide))).trans (h.new k hk)) ((hw.oth _ (ne 5 (by decide) (by decide) (by decide))).trans (h.sin k hk)), But.wrote hw (Y.in_ hk 2 (by decide) (by decide))⟩
theorem BankD.wrote_bank (h : BankD w Y T) {T' : BankT} (hl : T'.l = T.l) (hw : Wrote w w1 (Y.A 0) (bankVals Y T') 89) : BankD w1 Y T' ∧ But (Y.In T.l.length) w w1 :=
  ⟨h.put_bank hl hw.blk hw.oth, But.wrote hw (Y.in0 _)⟩
end
theorem still_load_agg {P : Program} {ops : Array Oper} {rest : List Oper} {o : Oper} {a : Act} {w : World} {K : Act → Prop} {ty n : Nat} (hw : Region.wanted o (yielded ops a.tmps) = true) (x : Operand) (ho : o.op = .load ty x) (hT : AggT P ty n)
    (b off : Nat) (hx : a.eval x = .pointer (some ⟨b, off, none⟩)) (xs : List Value) (hc : Cells w b off xs) (hl : xs.length = n)
    (h : wpStill P ops w K rest (a.put o.dst (.agg xs.toArray))) : wpStill P ops w K (o :: rest) a := by
  obtain ⟨⟨d, hd1, hd2⟩, hs⟩ := hT
  refine wpStill_val hw ?_ h
  unfold execOp
  simp only [ho, hx, Instr.loadAt, Instr.sureAddr, Sem.run_bind, Sem.run_pure, Result.andThen_ok, run_loadVar_mid w b off ty xs d (rangeAt_of_cells hc) hd1 hd2 (by rw [hs, hl])]
section
variable {w : World} {Y : Lay} {T : BankT}
/-- a disk's own cells -/
theorem BankD.cells (h : BankD w Y T) {k : Nat} (hk : k < T.l.length) : Cells w (Y.A (2 + 4 * k)) 0 (medVals Y k (T.d k)) := Cells.of_block (h.med k hk)

set_option maxHeartbeats 1000000 in
set_option maxRecDepth 100000 in
theorem med_settle (h : BankD w Y T) (ok : T.Ok) {k a : Nat} (hk : k < T.l.length) (ha : a < (T.d k).sin.length) (keep : Bool) :
    Calls Tryd.prog 47 #[.pointer (some ⟨Y.A (2 + 4 * k), 0, none⟩), .int .i64 a, .bool keep] w fun e w' => e = .returned (.tuple #[]) ∧ BankD w' Y (T.up k ((T.d k).settle a keep)) ∧ But (Y.In T.l.length) w w' := by
  have hc := h.cells hk
  have c0 : w.cell? ⟨Y.A (2 + 4 * k), 0, none⟩ = some (.slice (some ⟨Y.A (3 + 4 * k), 0, none⟩) (T.d k).sin.length (T.d k).sin.length) := hc 0 (by simp [medVals])
  have c1 : w.cell? ⟨Y.A (2 + 4 * k), 1, none⟩ = some (.slice (some ⟨Y.A (4 + 4 * k), 0, none⟩) (T.d k).sin.length (T.d k).sin.length) := hc 1 (by simp [medVals])
  have c2 : w.cell? ⟨Y.A (2 + 4 * k), 2, none⟩ = some (.slice (some ⟨Y.A (5 + 4 * k), 0, none⟩) (T.d k).sin.length (T.d k).sin.length) := hc 2 (by simp [medVals])
  have okd := ok.d hk
  have n23 : Y.A (2 + 4 * k) ≠ Y.A (3 + 4 * k) := h.ne (by omega) (by omega) (by omega) (by omega)
  have n24 : Y.A (2 + 4 * k) ≠ Y.A (4 + 4 * k) := h.ne (by omega) (by omega) (by omega) (by omega)
  have n25 : Y.A (2 + 4 * k) ≠ Y.A (5 + 4 * k) := h.ne (by omega) (by omega) (by omega) (by omega)
  have n35 : Y.A (3 + 4 * k) ≠ Y.A (5 + 4 * k) := h.ne (by omega) (by omega) (by omega) (by omega)
  have n45 : Y.A (4 + 4 * k) ≠ Y.A (5 + 4 * k) := h.ne (by omega) (by omega) (by omega) (by omega)
  have n34 : Y.A (3 + 4 * k) ≠ Y.A (4 + 4 * k) := h.ne (by omega) (by omega) (by omega) (by omega)
  have i3 := Y.in_ hk 3 (by decide) (by decide)
  have i4 := Y.in_ hk 4 (by decide) (by decide)
  have i5 := Y.in_ hk 5 (by decide) (by decide)
  have hlen := okd.len
  have fl := okd.flu.1
  have nl := okd.new.1
  have sf := cells_sec (Cells.of_block (h.flu k hk)) (fun s hs => (okd.flu.2 s hs).1) (show a < (T.d k).flu.length by omega)
  have sn := cells_sec (Cells.of_block (h.new k hk)) (fun s hs => (okd.new.2 s hs).1) (show a < (T.d k).new.length by omega)
  have lf := okd.flu.at ha
  have ln := okd.new.at ha
  have pf := splice_flat (T.d k).flu (fun s hs => (okd.flu.2 s hs).1) a (by omega) ((T.d k).new.getD a []) ln.1
  have pn := splice_flat (T.d k).new (fun s hs => (okd.new.2 s hs).1) a (by omega) ((T.d k).flu.getD a []) lf.1
  have qf := secs_length (T.d k).flu (fun s hs => (okd.flu.2 s hs).1)
  have qn := secs_length (T.d k).new (fun s hs => (okd.new.2 s hs).1)
  have hi := ints_length (T.d k).sin
  have hset : ∀ x : Int, (ints (T.d k).sin).set a (.int .i64 x) = ints ((T.d k).sin.set a x) := fun x => by simp [ints]
  have e0 : (T.d k).settle a false = { T.d k with new := (T.d k).new.set a ((T.d k).flu.getD a []), sin := (T.d k).sin.set a 0 } := rfl
  have e1 : (T.d k).settle a true = { T.d k with flu := (T.d k).flu.set a ((T.d k).new.getD a []), sin := (T.d k).sin.set a 0 } := rfl
  generalize (T.d k).flu.getD a [] = xf at *
  generalize (T.d k).new.getD a [] = xn at *
  have E0 := Lib.hid e0; clear e0
  have E1 := Lib.hid e1; clear e1
  have H := Lib.hid h; clear h
  have HC := Lib.hid hc; clear hc
  have SF := Lib.hid sf; clear sf
  have SN := Lib.hid sn; clear sn
  have LF := Lib.hid lf.1; have LN := Lib.hid ln.1; clear lf ln
  have PF := Lib.hid pf; clear pf
  have PN := Lib.hid pn; clear pn
  have QF := Lib.hid qf; clear qf
  have QN := Lib.hid qn; clear qn
  have HI := Lib.hid hi; clear hi
  have HSET := Lib.hid hset; clear hset
  have FL := Lib.hid fl; clear fl
  have NL := Lib.hid nl; clear nl
  clear okd ok
  rcases keep with _ | _
  · go_enter Tryd.func47, Tryd.ntmps47
    go_wp2
    refine wp_still_tail 13 (by kernel_rfl) (by kernel_rfl) fun ws hks hhs => ?_
    have c0' := hks.cell' c0
    have c1' := hks.cell' c1
    have c2' := hks.cell' c2
    simp only [List.take_succ_cons, List.take_zero, List.drop_succ_cons, List.drop_zero]
    iterate 11 still_step
    refine still_load_agg rfl _ rfl ty_sec (Y.A (3 + 4 * k)) (a * 64) rfl _ (SF.out.kept hks) (by rw [u8s_length, LF.out]) ?_
    iterate 1 still_step
    refine wpStill_nil ?_
    refine wpList_store_agg rfl _ _ rfl ty_sec (Y.A (4 + 4 * k)) (a * 64) rfl _ rfl (by rw [u8s_length, LF.out]) (u8s_one _) _ _ (hks.block_eq (H.out.lt i4) |>.trans (H.out.new k hk)) (by rw [QN.out, NL.out]; omega) ?_
    intro w1 hw1
    rw [PN.out] at hw1
    obtain ⟨B1, U1⟩ := (H.out.kept hks).wrote_new hk hw1
    have d2 : w1.cell? ⟨Y.A (2 + 4 * k), 2, none⟩ = some (.slice (some ⟨Y.A (5 + 4 * k), 0, none⟩) (T.d k).sin.length (T.d k).sin.length) := (World.cell?_of_block (hw1.oth _ n24)).trans c2'
    have b5 := (hw1.oth _ n45.symm).trans ((H.out.kept hks).sin k hk)
    have HB1 := Lib.hid B1; have HU1 := Lib.hid U1; have HB5 := Lib.hid b5
    clear B1 U1 b5 hw1 c0' c1' c2' hhs
    go_wp2_with (refine stop_at (o := ⟨none, .store _ _ _, _, _, _, _⟩) ?_)
    refine Stop.mk ?_
    refine wpList_set_cell rfl _ _ rfl size_int (Y.A (5 + 4 * k)) a rfl (.int .i64 0) rfl rfl rfl _ _ HB5.out (by rw [HI.out]; exact ha) ?_
    intro w2 hw2
    rw [HSET.out] at hw2
    obtain ⟨B2, U2⟩ := HB1.out.wrote_sin (by rw [BankT.up_len]; exact hk) (by rw [BankT.up_self _ hk, List.length_set]) hw2
    rw [BankT.up_self _ hk, BankT.up_up] at B2
    rw [BankT.up_len] at U2
    have U := ((But.kept hks).trans HU1.out).trans U2
    have B := Lib.hid B2; have U' := Lib.hid U
    clear B2 U2 U hw2
    go_wp2
    go_end0
    exact ⟨rfl, by rw [E0.out]; exact B.out, U'.out⟩
  · go_enter Tryd.func47, Tryd.ntmps47
    go_wp2
    refine wp_still_tail 13 (by kernel_rfl) (by kernel_rfl) fun ws hks hhs => ?_
    have c0' := (hks.cell' c0)
    have c1' := (hks.cell' c1)
    have c2' := (hks.cell' c2)
    simp only [List.take_succ_cons, List.take_zero, List.drop_succ_cons, List.drop_zero]
    iterate 11 still_step
    refine still_load_agg rfl _ rfl ty_sec (Y.A (4 + 4 * k)) (a * 64) rfl _ (SN.out.kept hks) (by rw [u8s_length, LN.out]) ?_
    iterate 1 still_step
    refine wpStill_nil ?_
    refine wpList_store_agg rfl _ _ rfl ty_sec (Y.A (3 + 4 * k)) (a * 64) rfl _ rfl (by rw [u8s_length, LN.out]) (u8s_one _) _ _ (hks.block_eq (H.out.lt i3) |>.trans (H.out.flu k hk)) (by rw [QF.out, FL.out]; omega) ?_
    intro w1 hw1
    rw [PF.out] at hw1
    obtain ⟨B1, U1⟩ := (H.out.kept hks).wrote_flu hk hw1
    have d2 : w1.cell? ⟨Y.A (2 + 4 * k), 2, none⟩ = some (.slice (some ⟨Y.A (5 + 4 * k), 0, none⟩) (T.d k).sin.length (T.d k).sin.length) := (World.cell?_of_block (hw1.oth _ n23)).trans c2'
    have b5 := (hw1.oth _ n35.symm).trans ((H.out.kept hks).sin k hk)
    have HB1 := Lib.hid B1; have HU1 := Lib.hid U1; have HB5 := Lib.hid b5
    clear B1 U1 b5 hw1 c0' c1' c2' hhs
    go_wp2_with (refine stop_at (o := ⟨none, .store _ _ _, _, _, _, _⟩) ?_)
    refine Stop.mk ?_
    refine wpList_set_cell rfl _ _ rfl size_int (Y.A (5 + 4 * k)) a rfl (.int .i64 0) rfl rfl rfl _ _ HB5.out (by rw [HI.out]; exact ha) ?_
    intro w2 hw2
    rw [HSET.out] at hw2
    obtain ⟨B2, U2⟩ := HB1.out.wrote_sin (by rw [BankT.up_len]; exact hk) (by rw [BankT.up_self _ hk, List.length_set]) hw2
    rw [BankT.up_self _ hk, BankT.up_up] at B2
    rw [BankT.up_len] at U2
    have U := ((But.kept hks).trans HU1.out).trans U2
    have B := Lib.hid B2; have U' := Lib.hid U
    clear B2 U2 U hw2
    go_wp2
    go_end0
    exact ⟨rfl, by rw [E1.out]; exact B.out, U'.out⟩
end
end Go.Proofs.YtpeclkhppgabfaaDoor
