/- A disk.Bank in memory: what its blocks hold. -/
import Derived.Test.YtglplhmclfekfaaRule
import Derived.Test.YtglplhmclfekfaaSec
namespace Go.Proofs.Ytglplhmclfekfaa
open Go.RowKit
set_option linter.unusedVariables false
set_option linter.unusedSimpArgs false

/-- a disk: its sectors as flushed and newest, since when each is loose, whether it is dead, at which write it fails -/
structure Med where
  flu : List (List Int)
  new : List (List Int)
  sin : List Int
  dead : Bool
  fail : Int
/-- a bank -/
structure BankT where
  l : List Med
  down : Bool
  clock : Int
  writes : Int
  armed : Int
  mask : Int
def Med.zero : Med := ⟨[], [], [], false, 0⟩
def Med.fresh (n : Nat) : Med := ⟨List.replicate n zeroB, List.replicate n zeroB, List.replicate n 0, false, 0⟩
def BankT.zero : BankT := ⟨[], false, 0, 0, 0, 0⟩
def BankT.d (T : BankT) (k : Nat) : Med := T.l.getD k Med.zero
def BankT.up (T : BankT) (k : Nat) (m : Med) : BankT := { T with l := T.l.set k m }
/-- a row of sectors that is one -/
def IsSecs (n : Nat) (l : List (List Int)) : Prop := l.length = n ∧ ∀ s ∈ l, s.length = 64 ∧ ∀ x ∈ s, IsByte x
structure Med.Ok (m : Med) : Prop where
  flu : IsSecs m.sin.length m.flu
  new : IsSecs m.sin.length m.new
  len : m.sin.length ≤ 4096
  sin : ∀ x ∈ m.sin, 0 ≤ x
  fail : 0 ≤ m.fail ∧ m.fail < 9223372036854775808
def BankT.Ok (T : BankT) : Prop := T.l.length ≤ 32 ∧ ∀ m ∈ T.l, m.Ok

/-- where a bank's blocks lie: 0 the bank, 1 its list, then four for each disk: the disk, flushed, newest, since; x, J: what capacity and what cells lie behind a row -/
structure Lay where
  A : Nat → Nat
  c : Nat
  row : List Value
  x : Nat → Nat := fun _ => 0
  J : Nat → List Value := fun _ => []
def Lay.ptr (Y : Lay) (i : Nat) : Value := .pointer (some ⟨Y.A i, 0, none⟩)
def Lay.sl (Y : Lay) (i n : Nat) : Value := .slice (some ⟨Y.A i, 0, none⟩) n (n + Y.x i)
def Lay.list (Y : Lay) (n : Nat) : Value := if n = 0 then .slice none 0 0 else .slice (some ⟨Y.A 1, 0, none⟩) n Y.c
def secs (l : List (List Int)) : List Value := u8s l.flatten
def bankVals (Y : Lay) (T : BankT) : List Value := [Y.list T.l.length, .bool T.down, .int .i64 T.clock, .int .i64 T.writes, .int .i64 T.armed, .int .u64 T.mask]
def medVals (Y : Lay) (k : Nat) (m : Med) : List Value := [Y.sl (3 + 4 * k) m.sin.length, Y.sl (4 + 4 * k) m.sin.length, Y.sl (5 + 4 * k) m.sin.length, .bool m.dead, .int .i64 m.fail]
/-- the blocks' contents -/
structure BankD (w : World) (Y : Lay) (T : BankT) : Prop where
  bank : w.heap[Y.A 0]? = some (.cells (bankVals Y T).toArray 101 (0, 0))
  row : T.l.length ≠ 0 → w.heap[Y.A 1]? = some (.cells Y.row.toArray 92 (0, 0)) ∧ Y.row.length = Y.c ∧ T.l.length ≤ Y.c ∧ Y.c ≤ maxLen ∧ ∀ k, k < T.l.length → Y.row[k]? = some (Y.ptr (2 + 4 * k))
  med : ∀ k, k < T.l.length → w.heap[Y.A (2 + 4 * k)]? = some (.cells (medVals Y k (T.d k)).toArray 98 (0, 0))
  flu : ∀ k, k < T.l.length → w.heap[Y.A (3 + 4 * k)]? = some (.cells (secs (T.d k).flu ++ Y.J (3 + 4 * k)).toArray 34 (0, 0))
  new : ∀ k, k < T.l.length → w.heap[Y.A (4 + 4 * k)]? = some (.cells (secs (T.d k).new ++ Y.J (4 + 4 * k)).toArray 34 (0, 0))
  sin : ∀ k, k < T.l.length → w.heap[Y.A (5 + 4 * k)]? = some (.cells (ints (T.d k).sin ++ Y.J (5 + 4 * k)).toArray 3 (0, 0))
  inj : ∀ i j, i < 2 + 4 * T.l.length → j < 2 + 4 * T.l.length → (T.l.length = 0 → i ≠ 1 ∧ j ≠ 1) → Y.A i = Y.A j → i = j
theorem BankT.d_up {T : BankT} {k : Nat} (m : Med) (h : k < T.l.length) (j : Nat) : (T.up k m).d j = if j = k then m else T.d j := by
  unfold BankT.d BankT.up
  simp only [List.getD_eq_getElem?_getD, List.getElem?_set]
  by_cases e : k = j
  · subst e; simp [h]
  · simp [e, Ne.symm e]
theorem BankT.up_len (T : BankT) (k : Nat) (m : Med) : (T.up k m).l.length = T.l.length := by simp [BankT.up]
theorem BankT.up_d (T : BankT) (k : Nat) (h : k < T.l.length) : T.up k (T.d k) = T := by
  unfold BankT.up BankT.d
  rw [List.getD_eq_getElem?_getD, List.getElem?_eq_getElem h]; simp
theorem BankT.up_up (T : BankT) (k : Nat) (m m' : Med) : (T.up k m).up k m' = T.up k m' := by simp [BankT.up]
theorem BankT.Ok.d {T : BankT} (h : T.Ok) {k : Nat} (hk : k < T.l.length) : (T.d k).Ok := by
  unfold BankT.d
  rw [List.getD_eq_getElem?_getD, List.getElem?_eq_getElem hk]
  exact h.2 _ (List.getElem_mem hk)
theorem BankT.Ok.up {T : BankT} (h : T.Ok) (k : Nat) {m : Med} (hm : m.Ok) : (T.up k m).Ok := by
  refine ⟨by rw [BankT.up_len]; exact h.1, fun x hx => ?_⟩
  rcases List.mem_or_eq_of_mem_set hx with h' | h'
  · exact h.2 _ h'
  · rw [h']; exact hm
/-- block b is one of the bank's -/
def Lay.In (Y : Lay) (n b : Nat) : Prop := ∃ i, i < 2 + 4 * n ∧ (n = 0 → i ≠ 1) ∧ b = Y.A i
theorem Lay.in0 (Y : Lay) (n : Nat) : Y.In n (Y.A 0) := ⟨0, by omega, fun _ => by decide, rfl⟩
theorem Lay.in1 (Y : Lay) {n : Nat} (h : n ≠ 0) : Y.In n (Y.A 1) := ⟨1, by omega, fun e => absurd e h, rfl⟩
theorem Lay.in_ (Y : Lay) {n k : Nat} (h : k < n) (r : Nat) (h2 : 2 ≤ r) (h5 : r ≤ 5) : Y.In n (Y.A (r + 4 * k)) := ⟨r + 4 * k, by omega, fun e => by omega, rfl⟩
section
variable {w w' : World} {Y : Lay} {T : BankT}
theorem BankD.ne (h : BankD w Y T) {i j : Nat} (hi : i < 2 + 4 * T.l.length) (hj : j < 2 + 4 * T.l.length) (h0 : T.l.length ≠ 0) (hn : i ≠ j) : Y.A i ≠ Y.A j := fun e => hn (h.inj i j hi hj (fun e => absurd e h0) e)
theorem BankD.same (h : BankD w Y T) (hb : ∀ b, Y.In T.l.length b → w'.heap[b]? = w.heap[b]?) : BankD w' Y T where
  bank := (hb _ (Y.in0 _)).trans h.bank
  row h0 := ⟨(hb _ (Y.in1 h0)).trans (h.row h0).1, (h.row h0).2⟩
  med k hk := (hb _ (Y.in_ hk 2 (by decide) (by decide))).trans (h.med k hk)
  flu k hk := (hb _ (Y.in_ hk 3 (by decide) (by decide))).trans (h.flu k hk)
  new k hk := (hb _ (Y.in_ hk 4 (by decide) (by decide))).trans (h.new k hk)
  sin k hk := (hb _ (Y.in_ hk 5 (by decide) (by decide))).trans (h.sin k hk)
  inj := h.inj
theorem BankD.lt (h : BankD w Y T) {b : Nat} (hb : Y.In T.l.length b) : b < w.heap.size := by
  obtain ⟨i, hi, h0, rfl⟩ := hb
  have key : ∀ {o : Obj} {b : Nat}, w.heap[b]? = some o → b < w.heap.size := fun h => (Array.getElem?_eq_some_iff.1 h).1
  rcases i with _ | _ | i
  · exact key h.bank
  · exact key (h.row (fun e => h0 e rfl)).1
  · have hk : i / 4 < T.l.length := by omega
    have : i % 4 = 0 ∨ i % 4 = 1 ∨ i % 4 = 2 ∨ i % 4 = 3 := by omega
    rcases this with e | e | e | e
    · have := key (h.med _ hk); rwa [show 2 + 4 * (i / 4) = i + 1 + 1 by omega] at this
    · have := key (h.flu _ hk); rwa [show 3 + 4 * (i / 4) = i + 1 + 1 by omega] at this
    · have := key (h.new _ hk); rwa [show 4 + 4 * (i / 4) = i + 1 + 1 by omega] at this
    · have := key (h.sin _ hk); rwa [show 5 + 4 * (i / 4) = i + 1 + 1 by omega] at this
theorem BankD.kept (h : BankD w Y T) (hk : Kept w w') : BankD w' Y T := h.same fun b hb => hk.block_eq (h.lt hb)
/-- the bank's own cells are set -/
theorem BankD.put_bank (h : BankD w Y T) {T' : BankT} (hl : T'.l = T.l) (hb : w'.heap[Y.A 0]? = some (.cells (bankVals Y T').toArray 101 (0, 0))) (ho : ∀ b, b ≠ Y.A 0 → w'.heap[b]? = w.heap[b]?) : BankD w' Y T' := by
  have hd : ∀ k, T'.d k = T.d k := fun k => by simp [BankT.d, hl]
  have hne : ∀ i, 0 < i → i < 2 + 4 * T.l.length → (T.l.length = 0 → i ≠ 1) → Y.A i ≠ Y.A 0 := fun i h0 h1 h2 e => by
    have := h.inj i 0 h1 (by omega) (fun e => ⟨h2 e, by decide⟩) e
    omega
  refine ⟨hb, fun h0 => ?_, fun k hk => ?_, fun k hk => ?_, fun k hk => ?_, fun k hk => ?_, ?_⟩
  · rw [hl] at h0 ⊢
    exact ⟨(ho _ (hne 1 (by omega) (by omega) (fun e => absurd e h0))).trans (h.row h0).1, (h.row h0).2⟩
  · rw [hl] at hk; rw [hd, ho _ (hne _ (by omega) (by omega) (fun e => by omega))]; exact h.med k hk
  · rw [hl] at hk; rw [hd, ho _ (hne _ (by omega) (by omega) (fun e => by omega))]; exact h.flu k hk
  · rw [hl] at hk; rw [hd, ho _ (hne _ (by omega) (by omega) (fun e => by omega))]; exact h.new k hk
  · rw [hl] at hk; rw [hd, ho _ (hne _ (by omega) (by omega) (fun e => by omega))]; exact h.sin k hk
  · rw [hl]; exact h.inj
/-- one of a disk's blocks is set: j is its number -/
theorem BankD.put_med (h : BankD w Y T) {k : Nat} (hk : k < T.l.length) (m : Med) {j : Nat} (hj : 2 ≤ j) (hj5 : j ≤ 5) (ho : ∀ b, b ≠ Y.A (j + 4 * k) → w'.heap[b]? = w.heap[b]?)
    (h2 : w'.heap[Y.A (2 + 4 * k)]? = some (.cells (medVals Y k m).toArray 98 (0, 0)))
    (h3 : w'.heap[Y.A (3 + 4 * k)]? = some (.cells (secs m.flu ++ Y.J (3 + 4 * k)).toArray 34 (0, 0)))
    (h4 : w'.heap[Y.A (4 + 4 * k)]? = some (.cells (secs m.new ++ Y.J (4 + 4 * k)).toArray 34 (0, 0)))
    (h5 : w'.heap[Y.A (5 + 4 * k)]? = some (.cells (ints m.sin ++ Y.J (5 + 4 * k)).toArray 3 (0, 0))) : BankD w' Y (T.up k m) := by
  have hn0 : T.l.length ≠ 0 := by omega
  have hne : ∀ i, i ≠ j + 4 * k → i < 2 + 4 * T.l.length → Y.A i ≠ Y.A (j + 4 * k) := fun i h0 h1 => h.ne h1 (by omega) hn0 h0
  have hbv : bankVals Y (T.up k m) = bankVals Y T := by simp [bankVals, BankT.up_len]; simp [BankT.up]
  refine ⟨?_, fun h0 => ?_, fun i hi => ?_, fun i hi => ?_, fun i hi => ?_, fun i hi => ?_, ?_⟩
  · rw [hbv, ho _ (hne 0 (by omega) (by omega))]; exact h.bank
  · rw [BankT.up_len] at h0 ⊢; exact ⟨(ho _ (hne 1 (by omega) (by omega))).trans (h.row h0).1, (h.row h0).2⟩
  · rw [BankT.up_len] at hi; rw [BankT.d_up m hk]
    by_cases e : i = k
    · subst e; simpa using h2
    · rw [if_neg e, ho _ (hne _ (by omega) (by omega))]; exact h.med i hi
  · rw [BankT.up_len] at hi; rw [BankT.d_up m hk]
    by_cases e : i = k
    · subst e; simpa using h3
    · rw [if_neg e, ho _ (hne _ (by omega) (by omega))]; exact h.flu i hi
  · rw [BankT.up_len] at hi; rw [BankT.d_up m hk]
    by_cases e : i = k
    · subst e; simpa using h4
    · rw [if_neg e, ho _ (hne _ (by omega) (by omega))]; exact h.new i hi
  · rw [BankT.up_len] at hi; rw [BankT.d_up m hk]
    by_cases e : i = k
    · subst e; simpa using h5
    · rw [if_neg e, ho _ (hne _ (by omega) (by omega))]; exact h.sin i hi
  · rw [BankT.up_len]; exact h.inj
end
end Go.Proofs.Ytglplhmclfekfaa
