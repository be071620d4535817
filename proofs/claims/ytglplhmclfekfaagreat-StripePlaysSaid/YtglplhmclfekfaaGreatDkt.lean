/- A disk.Bank: it has one disk more. -/
import Derived.Test.YtglplhmclfekfaaGreatDkq
namespace Go.Proofs.YtglplhmclfekfaaGreat
open Go.RowKit
set_option linter.unusedVariables false
set_option linter.unusedSimpArgs false

theorem BankT.add_len (T : BankT) (n : Nat) : (T.add n).l.length = T.l.length + 1 := by simp [BankT.add]
theorem BankT.add_old (T : BankT) (n : Nat) {k : Nat} (hk : k < T.l.length) : (T.add n).d k = T.d k := by
  unfold BankT.add BankT.d
  rw [List.getD_eq_getElem?_getD, List.getD_eq_getElem?_getD, List.getElem?_append_left hk]
theorem BankT.add_new (T : BankT) (n : Nat) : (T.add n).d T.l.length = Med.fresh n := by
  unfold BankT.add BankT.d
  rw [List.getD_eq_getElem?_getD, List.getElem?_append_right (Nat.le_refl _)]; simp
theorem Lay.more_inj (Y : Lay) {n g m p q r S : Nat} (c : Nat) (row : List Value) (hoo : ∀ i j, i ≠ 1 → j ≠ 1 → i < 2 + 4 * n → j < 2 + 4 * n → Y.A i = Y.A j → i = j) (hold : ∀ i, i ≠ 1 → i < 2 + 4 * n → Y.A i < S) (hgo : ∀ i, i ≠ 1 → i < 2 + 4 * n → Y.A i ≠ g)
    (hm : S ≤ m) (hp : S ≤ p) (hq : S ≤ q) (hr : S ≤ r) (g1 : m ≠ g) (g2 : p ≠ g) (g3 : q ≠ g) (g4 : r ≠ g) (hmp : m ≠ p) (hmq : m ≠ q) (hmr : m ≠ r) (hpq : p ≠ q) (hpr : p ≠ r) (hqr : q ≠ r) {i j : Nat} (hi : i < 2 + 4 * (n + 1)) (hj : j < 2 + 4 * (n + 1))
    (e : (Y.more n g m p q r c row).A i = (Y.more n g m p q r c row).A j) : i = j := by
  have key : ∀ i, i < 2 + 4 * (n + 1) → ∃ t, (t = 0 ∧ i = 1 ∧ (Y.more n g m p q r c row).A i = g) ∨ (t = 1 ∧ i ≠ 1 ∧ i < 2 + 4 * n ∧ (Y.more n g m p q r c row).A i = Y.A i ∧ Y.A i < S ∧ Y.A i ≠ g) ∨ (t = 2 ∧ i = 2 + 4 * n ∧ (Y.more n g m p q r c row).A i = m) ∨ (t = 3 ∧ i = 3 + 4 * n ∧ (Y.more n g m p q r c row).A i = p) ∨ (t = 4 ∧ i = 4 + 4 * n ∧ (Y.more n g m p q r c row).A i = q) ∨ (t = 5 ∧ i = 5 + 4 * n ∧ (Y.more n g m p q r c row).A i = r) := by
    intro i hi
    rcases Y.more_at n g m p q r c row hi with ⟨x1, x2⟩ | ⟨x0, x1, x2⟩ | ⟨x1, x2⟩ | ⟨x1, x2⟩ | ⟨x1, x2⟩ | ⟨x1, x2⟩
    · exact ⟨0, .inl ⟨rfl, x1, x2⟩⟩
    · exact ⟨1, .inr (.inl ⟨rfl, x0, x1, x2, hold i x0 x1, hgo i x0 x1⟩)⟩
    · exact ⟨2, .inr (.inr (.inl ⟨rfl, x1, x2⟩))⟩
    · exact ⟨3, .inr (.inr (.inr (.inl ⟨rfl, x1, x2⟩)))⟩
    · exact ⟨4, .inr (.inr (.inr (.inr (.inl ⟨rfl, x1, x2⟩))))⟩
    · exact ⟨5, .inr (.inr (.inr (.inr (.inr ⟨rfl, x1, x2⟩))))⟩
  obtain ⟨t, ht⟩ := key i hi
  obtain ⟨u, hu⟩ := key j hj
  clear key hold hgo
  generalize (Y.more n g m p q r c row).A i = a at *
  generalize (Y.more n g m p q r c row).A j = b at *
  subst e
  rcases ht with ⟨_, x1, rfl⟩ | ⟨_, x0, x1, x2, x3, x4⟩ | ⟨_, x1, rfl⟩ | ⟨_, x1, rfl⟩ | ⟨_, x1, rfl⟩ | ⟨_, x1, rfl⟩
  · rcases hu with ⟨_, y1, y2⟩ | ⟨_, y0, y1, y2, y3, y4⟩ | ⟨_, y1, y2⟩ | ⟨_, y1, y2⟩ | ⟨_, y1, y2⟩ | ⟨_, y1, y2⟩
    · rw [x1, y1]
    · exact absurd y2.symm y4
    · exact absurd y2.symm g1
    · exact absurd y2.symm g2
    · exact absurd y2.symm g3
    · exact absurd y2.symm g4
  · rcases hu with ⟨_, y1, y2⟩ | ⟨_, y0, y1, y2, y3, y4⟩ | ⟨_, y1, y2⟩ | ⟨_, y1, y2⟩ | ⟨_, y1, y2⟩ | ⟨_, y1, y2⟩
    · exact absurd (x2.symm.trans y2) x4
    · exact hoo i j x0 y0 x1 y1 (x2.symm.trans y2)
    · omega
    · omega
    · omega
    · omega
  all_goals rcases hu with ⟨_, y1, y2⟩ | ⟨_, y0, y1, y2, y3, y4⟩ | ⟨_, y1, y2⟩ | ⟨_, y1, y2⟩ | ⟨_, y1, y2⟩ | ⟨_, y1, y2⟩ <;> first | (rw [x1, y1]; done) | contradiction | (exfalso; clear hoo; omega)
section
variable {w w5 w6 w7 : World} {Y : Lay} {T : BankT} {n m p q r g c : Nat} {row : List Value}
theorem BankD.more (h : BankD w Y T) (HK : Kept w w5)
    (hm : w.heap.size ≤ m) (hp : w.heap.size ≤ p) (hq : w.heap.size ≤ q) (hr : w.heap.size ≤ r) (hpq : p ≠ q) (hpr : p ≠ r) (hqr : q ≠ r) (hmp : m ≠ p) (hmq : m ≠ q) (hmr : m ≠ r)
    (BM : w5.heap[m]? = some (.cells #[.slice (some ⟨p, 0, none⟩) n n, .slice (some ⟨q, 0, none⟩) n n, .slice (some ⟨r, 0, none⟩) n n, .bool false, .int .i64 0] 84 (0, 0)))
    (BP : w5.heap[p]? = some (.cells (secs (List.replicate n zeroB)).toArray 43 (0, 0)))
    (BQ : w5.heap[q]? = some (.cells (secs (List.replicate n zeroB)).toArray 43 (0, 0)))
    (BR : w5.heap[r]? = some (.cells (ints (List.replicate n 0)).toArray 3 (0, 0)))
    (R1 : w6.heap[g]? = some (.cells row.toArray 78 (0, 0))) (r2 : row.length = c) (r3 : T.l.length + 1 ≤ c) (r4 : c ≤ maxLen)
    (R5 : ∀ k, k < T.l.length → row[k]? = some (Y.ptr (2 + 4 * k))) (R6 : row[T.l.length]? = some (.pointer (some ⟨m, 0, none⟩)))
    (R7 : T.l.length ≠ 0 ∧ g = Y.A 1 ∨ w5.heap.size ≤ g) (R8 : But (fun k => T.l.length ≠ 0 ∧ k = Y.A 1) w5 w6)
    (HW : Wrote w6 w7 (Y.A 0) ((bankVals Y T).set 0 (.slice (some ⟨g, 0, none⟩) (T.l.length + 1) c)) 77) :
    ∃ Y' : Lay, BankD w7 Y' (T.add n) ∧ Y'.A 0 = Y.A 0 ∧ (∀ b, Y'.In (T.l.length + 1) b → Y.In T.l.length b ∨ w.heap.size ≤ b) ∧ But (Y.In T.l.length) w w7 := by
  have l0 : Y.A 0 < w.heap.size := h.lt (Y.in0 _)
  have h01 : T.l.length ≠ 0 → Y.A 0 ≠ Y.A 1 := fun h0 => h.ne (by omega) (by omega) h0 (by decide)
  have l1 : T.l.length ≠ 0 → Y.A 1 < w.heap.size := fun h0 => h.lt (Y.in1 h0)
  have sm : m < w5.heap.size := (Array.getElem?_eq_some_iff.1 BM).1
  have sp : p < w5.heap.size := (Array.getElem?_eq_some_iff.1 BP).1
  have sq : q < w5.heap.size := (Array.getElem?_eq_some_iff.1 BQ).1
  have sr : r < w5.heap.size := (Array.getElem?_eq_some_iff.1 BR).1
  have fwd : ∀ {b : Nat} {o : Obj}, w5.heap[b]? = some o → b ≠ Y.A 0 → ¬ (T.l.length ≠ 0 ∧ b = Y.A 1) → w7.heap[b]? = some o := fun hb h0 h1 => (HW.oth _ h0).trans (R8.blk h1 hb)
  have hg0 : g ≠ Y.A 0 := by
    rcases R7 with ⟨h0, rfl⟩ | h'
    · exact (h01 h0).symm
    · have := HK.size; omega
  have old : ∀ i, i ≠ 0 → i ≠ 1 → i < 2 + 4 * T.l.length → ∀ {o : Obj}, w.heap[Y.A i]? = some o → w7.heap[Y.A i]? = some o := fun i h0 h1 hi o ho => by
    have hn0 : T.l.length ≠ 0 := by omega
    exact fwd (HK.block ho) (h.ne hi (by omega) hn0 h0) (fun ⟨_, e⟩ => h.ne hi (by omega) hn0 h1 e)
  have new : ∀ {b : Nat} {o : Obj}, w.heap.size ≤ b → w5.heap[b]? = some o → w7.heap[b]? = some o := fun hb ho => fwd ho (by omega) (fun ⟨h0, e⟩ => by have := l1 h0; omega)
  have a0 : (Y.more T.l.length g m p q r c row).A 0 = Y.A 0 := Y.more_old (by decide) (by omega)
  have a1 : (Y.more T.l.length g m p q r c row).A 1 = g := rfl
  have a2 : (Y.more T.l.length g m p q r c row).A (2 + 4 * T.l.length) = m := by unfold Lay.more; simp only; rw [if_neg (by omega), if_neg (by omega), if_pos trivial]
  have a3 : (Y.more T.l.length g m p q r c row).A (3 + 4 * T.l.length) = p := by unfold Lay.more; simp only; rw [if_neg (by omega), if_neg (by omega), if_neg (by omega), if_pos trivial]
  have a4 : (Y.more T.l.length g m p q r c row).A (4 + 4 * T.l.length) = q := by unfold Lay.more; simp only; rw [if_neg (by omega), if_neg (by omega), if_neg (by omega), if_neg (by omega), if_pos trivial]
  have a5 : (Y.more T.l.length g m p q r c row).A (5 + 4 * T.l.length) = r := by unfold Lay.more; simp only; rw [if_neg (by omega), if_neg (by omega), if_neg (by omega), if_neg (by omega), if_neg (by omega)]
  have ao : ∀ j k, 2 ≤ j → j ≤ 5 → k < T.l.length → (Y.more T.l.length g m p q r c row).A (j + 4 * k) = Y.A (j + 4 * k) := fun j k h1 h2 hk => Y.more_old (by omega) (by omega)
  have xn : ∀ j, 2 ≤ j → (Y.more T.l.length g m p q r c row).x (j + 4 * T.l.length) = 0 := fun j h => by unfold Lay.more; simp only; rw [if_neg (by omega)]
  have Jn : ∀ j, 2 ≤ j → (Y.more T.l.length g m p q r c row).J (j + 4 * T.l.length) = [] := fun j h => by unfold Lay.more; simp only; rw [if_neg (by omega)]
  have xo : ∀ j k, j ≤ 5 → k < T.l.length → (Y.more T.l.length g m p q r c row).x (j + 4 * k) = Y.x (j + 4 * k) := fun j k h hk => by unfold Lay.more; simp only; rw [if_pos (by omega)]
  have Jo : ∀ j k, j ≤ 5 → k < T.l.length → (Y.more T.l.length g m p q r c row).J (j + 4 * k) = Y.J (j + 4 * k) := fun j k h hk => by unfold Lay.more; simp only; rw [if_pos (by omega)]
  have hbut : But (Y.In T.l.length) w w7 := by
    have := ((But.kept (S := Y.In T.l.length) HK).trans (R8.mono fun i ⟨h0, e⟩ => e ▸ Y.in1 h0)).trans (But.wrote (S := Y.In T.l.length) HW (Y.in0 _))
    exact this
  refine ⟨Y.more T.l.length g m p q r c row, ⟨?_, fun _ => ?_, fun k hk => ?_, fun k hk => ?_, fun k hk => ?_, fun k hk => ?_, ?_⟩, a0, ?_, hbut⟩
  · rw [a0, HW.blk]
    simp [bankVals, Lay.list, BankT.add, a1]
    rfl
  · rw [BankT.add_len, a1]
    refine ⟨(HW.oth _ hg0).trans R1, r2, r3, r4, fun k hk => ?_⟩
    show row[k]? = _
    by_cases e : k = T.l.length
    · subst e; rw [R6, Lay.ptr, a2]
    · rw [R5 k (by omega), Lay.ptr, Lay.ptr, ao 2 k (by decide) (by decide) (by omega)]
  · rw [BankT.add_len] at hk
    by_cases e : k = T.l.length
    · subst e; rw [a2, new hm BM, BankT.add_new, medVals, Lay.sl, Lay.sl, Lay.sl, a3, a4, a5, xn 3 (by decide), xn 4 (by decide), xn 5 (by decide)]
      simp [Med.fresh]
    · rw [ao 2 k (by decide) (by decide) (by omega), BankT.add_old T n (by omega), medVals, Lay.sl, Lay.sl, Lay.sl, ao 3 k (by decide) (by decide) (by omega), ao 4 k (by decide) (by decide) (by omega), ao 5 k (by decide) (by decide) (by omega), xo 3 k (by decide) (by omega), xo 4 k (by decide) (by omega), xo 5 k (by decide) (by omega)]
      exact old _ (by omega) (by omega) (by omega) (h.med k (by omega))
  · rw [BankT.add_len] at hk
    by_cases e : k = T.l.length
    · subst e; rw [a3, new hp BP, BankT.add_new, Jn 3 (by decide), List.append_nil]; rfl
    · rw [ao 3 k (by decide) (by decide) (by omega), BankT.add_old T n (by omega), Jo 3 k (by decide) (by omega)]
      exact old _ (by omega) (by omega) (by omega) (h.flu k (by omega))
  · rw [BankT.add_len] at hk
    by_cases e : k = T.l.length
    · subst e; rw [a4, new hq BQ, BankT.add_new, Jn 4 (by decide), List.append_nil]; rfl
    · rw [ao 4 k (by decide) (by decide) (by omega), BankT.add_old T n (by omega), Jo 4 k (by decide) (by omega)]
      exact old _ (by omega) (by omega) (by omega) (h.new k (by omega))
  · rw [BankT.add_len] at hk
    by_cases e : k = T.l.length
    · subst e; rw [a5, new hr BR, BankT.add_new, Jn 5 (by decide), List.append_nil]; rfl
    · rw [ao 5 k (by decide) (by decide) (by omega), BankT.add_old T n (by omega), Jo 5 k (by decide) (by omega)]
      exact old _ (by omega) (by omega) (by omega) (h.sin k (by omega))
  · intro i j hi hj _ e
    rw [BankT.add_len] at hi hj
    have hold : ∀ i, i ≠ 1 → i < 2 + 4 * T.l.length → Y.A i < w.heap.size := fun i h1 hi => h.lt ⟨i, hi, fun _ => h1, rfl⟩
    have hoo : ∀ i j, i ≠ 1 → j ≠ 1 → i < 2 + 4 * T.l.length → j < 2 + 4 * T.l.length → Y.A i = Y.A j → i = j := fun i j h1 h2 hi hj e => h.inj i j hi hj (fun _ => ⟨h1, h2⟩) e
    have hgo : ∀ i, i ≠ 1 → i < 2 + 4 * T.l.length → Y.A i ≠ g := fun i h1 hi e => by
      rcases R7 with ⟨h0, h'⟩ | h'
      · exact h1 (h.inj i 1 hi (by omega) (fun e => absurd e h0) (e.trans h'))
      · have := hold i h1 hi; have := HK.size; omega
    have hgn : ∀ b, w.heap.size ≤ b → b < w5.heap.size → b ≠ g := fun b hb hb5 e => by
      rcases R7 with ⟨h0, h'⟩ | h'
      · have := l1 h0; omega
      · omega
    have g1 := hgn m hm sm
    have g2 := hgn p hp sp
    have g3 := hgn q hq sq
    have g4 := hgn r hr sr
    exact Y.more_inj c row hoo hold hgo hm hp hq hr g1 g2 g3 g4 hmp hmq hmr hpq hpr hqr hi hj e
  · rintro b ⟨i, hi, _, rfl⟩
    rcases Y.more_at T.l.length g m p q r c row hi with ⟨x1, x2⟩ | ⟨x0, x1, x2⟩ | ⟨x1, x2⟩ | ⟨x1, x2⟩ | ⟨x1, x2⟩ | ⟨x1, x2⟩ <;> rw [x2]
    · rcases R7 with ⟨h0, h'⟩ | h'
      · exact .inl (h' ▸ Y.in1 h0)
      · have := HK.size; exact .inr (by omega)
    · exact .inl ⟨i, x1, fun _ => x0, rfl⟩
    · exact .inr hm
    · exact .inr hp
    · exact .inr hq
    · exact .inr hr
end
end Go.Proofs.YtglplhmclfekfaaGreat
