/- A disk.Bank: Clone; slices.Clone over its rows. -/
import Derived.Test.YtglplhmclfekfaaDku
import Derived.Test.YtglplhmclfekfaaApp
namespace Go.Proofs.Ytglplhmclfekfaa
open Go.RowKit
set_option linter.unusedVariables false
set_option linter.unusedSimpArgs false

/-- one disk more, whose rows may have spare cells: X the capacity, J the cells behind a row -/
def Lay.moreC (Y : Lay) (n g m p q r c : Nat) (row : List Value) (X : Nat → Nat) (JJ : Nat → List Value) : Lay := { Y.more n g m p q r c row with x := fun i => if i < 2 + 4 * n then Y.x i else X (i - 4 * n), J := fun i => if i < 2 + 4 * n then Y.J i else JJ (i - 4 * n) }
theorem Lay.moreC_A (Y : Lay) (n g m p q r c : Nat) (row : List Value) (X : Nat → Nat) (JJ : Nat → List Value) : (Y.moreC n g m p q r c row X JJ).A = (Y.more n g m p q r c row).A := rfl
def BankT.app (T : BankT) (x : Med) : BankT := { T with l := T.l ++ [x] }
theorem BankT.app_len (T : BankT) (x : Med) : (T.app x).l.length = T.l.length + 1 := by simp [BankT.app]
theorem BankT.app_old (T : BankT) (x : Med) {k : Nat} (hk : k < T.l.length) : (T.app x).d k = T.d k := by
  unfold BankT.app BankT.d
  rw [List.getD_eq_getElem?_getD, List.getD_eq_getElem?_getD, List.getElem?_append_left hk]
theorem BankT.app_new (T : BankT) (x : Med) : (T.app x).d T.l.length = x := by
  unfold BankT.app BankT.d
  rw [List.getD_eq_getElem?_getD, List.getElem?_append_right (Nat.le_refl _)]; simp
section
variable {w w5 w6 w7 : World} {Y : Lay} {T : BankT} {m p q r g c : Nat} {row : List Value} {x : Med} {X : Nat → Nat} {JJ : Nat → List Value}
theorem BankD.moreC (h : BankD w Y T) (HK : Kept w w5)
    (hm : w.heap.size ≤ m) (hp : w.heap.size ≤ p) (hq : w.heap.size ≤ q) (hr : w.heap.size ≤ r) (hpq : p ≠ q) (hpr : p ≠ r) (hqr : q ≠ r) (hmp : m ≠ p) (hmq : m ≠ q) (hmr : m ≠ r)
    (BM : w5.heap[m]? = some (.cells #[.slice (some ⟨p, 0, none⟩) x.sin.length (x.sin.length + X 3), .slice (some ⟨q, 0, none⟩) x.sin.length (x.sin.length + X 4), .slice (some ⟨r, 0, none⟩) x.sin.length (x.sin.length + X 5), .bool x.dead, .int .i64 x.fail] 98 (0, 0)))
    (BP : w5.heap[p]? = some (.cells (secs x.flu ++ JJ 3).toArray 34 (0, 0)))
    (BQ : w5.heap[q]? = some (.cells (secs x.new ++ JJ 4).toArray 34 (0, 0)))
    (BR : w5.heap[r]? = some (.cells (ints x.sin ++ JJ 5).toArray 3 (0, 0)))
    (R1 : w6.heap[g]? = some (.cells row.toArray 92 (0, 0))) (r2 : row.length = c) (r3 : T.l.length + 1 ≤ c) (r4 : c ≤ maxLen)
    (R5 : ∀ k, k < T.l.length → row[k]? = some (Y.ptr (2 + 4 * k))) (R6 : row[T.l.length]? = some (.pointer (some ⟨m, 0, none⟩)))
    (R7 : T.l.length ≠ 0 ∧ g = Y.A 1 ∨ w5.heap.size ≤ g) (R8 : But (fun k => T.l.length ≠ 0 ∧ k = Y.A 1) w5 w6)
    (HW : Wrote w6 w7 (Y.A 0) ((bankVals Y T).set 0 (.slice (some ⟨g, 0, none⟩) (T.l.length + 1) c)) 101) :
    ∃ Y' : Lay, BankD w7 Y' (T.app x) ∧ Y'.A 0 = Y.A 0 ∧ (∀ b, Y'.In (T.l.length + 1) b → Y.In T.l.length b ∨ w.heap.size ≤ b) ∧ But (Y.In T.l.length) w w7 := by
  have l0 : Y.A 0 < w.heap.size := h.lt (Y.in0 _)
  have h01 : T.l.length ≠ 0 → Y.A 0 ≠ Y.A 1 := fun h0 => h.ne (by omega) (by omega) h0 (by decide)
  have l1 : T.l.length ≠ 0 → Y.A 1 < w.heap.size := fun h0 => h.lt (Y.in1 h0)
  have sm : m < w5.heap.size := (Array.getElem?_eq_some_iff.1 BM).1
  have sp : p < w5.heap.size := (Array.getElem?_eq_some_iff.1 BP).1
  have sq : q < w5.heap.size := (Array.getElem?_eq_some_iff.1 BQ).1
  have sr : r < w5.heap.size := (Array.getElem?_eq_some_iff.1 BR).1
  have fwd : ∀ {b : Nat} {o : Obj}, w5.heap[b]? = some o → b ≠ Y.A 0 → ¬ (T.l.length ≠ 0 ∧ b = Y.A 1) → w7.heap[b]? = some o := fun hb h0 h1 => (HW.oth _ h0).trans (R8.blk h1 hb)
  have hg0 : g ≠ Y.A 0 := by
    rcases R7 with ⟨h0, rfl⟩ | h'
    · exact (h01 h0).symm
    · have := HK.size; omega
  have old : ∀ i, i ≠ 0 → i ≠ 1 → i < 2 + 4 * T.l.length → ∀ {o : Obj}, w.heap[Y.A i]? = some o → w7.heap[Y.A i]? = some o := fun i h0 h1 hi o ho => by
    have hn0 : T.l.length ≠ 0 := by omega
    exact fwd (HK.block ho) (h.ne hi (by omega) hn0 h0) (fun ⟨_, e⟩ => h.ne hi (by omega) hn0 h1 e)
  have new : ∀ {b : Nat} {o : Obj}, w.heap.size ≤ b → w5.heap[b]? = some o → w7.heap[b]? = some o := fun hb ho => fwd ho (by omega) (fun ⟨h0, e⟩ => by have := l1 h0; omega)
  have a0 : (Y.moreC T.l.length g m p q r c row X JJ).A 0 = Y.A 0 := by rw [Lay.moreC_A]; exact Y.more_old (by decide) (by omega)
  have a1 : (Y.moreC T.l.length g m p q r c row X JJ).A 1 = g := rfl
  have a2 : (Y.moreC T.l.length g m p q r c row X JJ).A (2 + 4 * T.l.length) = m := by rw [Lay.moreC_A]; unfold Lay.more; simp only; rw [if_neg (by omega), if_neg (by omega), if_pos trivial]
  have a3 : (Y.moreC T.l.length g m p q r c row X JJ).A (3 + 4 * T.l.length) = p := by rw [Lay.moreC_A]; unfold Lay.more; simp only; rw [if_neg (by omega), if_neg (by omega), if_neg (by omega), if_pos trivial]
  have a4 : (Y.moreC T.l.length g m p q r c row X JJ).A (4 + 4 * T.l.length) = q := by rw [Lay.moreC_A]; unfold Lay.more; simp only; rw [if_neg (by omega), if_neg (by omega), if_neg (by omega), if_neg (by omega), if_pos trivial]
  have a5 : (Y.moreC T.l.length g m p q r c row X JJ).A (5 + 4 * T.l.length) = r := by rw [Lay.moreC_A]; unfold Lay.more; simp only; rw [if_neg (by omega), if_neg (by omega), if_neg (by omega), if_neg (by omega), if_neg (by omega)]
  have ao : ∀ j k, 2 ≤ j → j ≤ 5 → k < T.l.length → (Y.moreC T.l.length g m p q r c row X JJ).A (j + 4 * k) = Y.A (j + 4 * k) := fun j k h1 h2 hk => by rw [Lay.moreC_A]; exact Y.more_old (by omega) (by omega)
  have xn : ∀ j, 2 ≤ j → (Y.moreC T.l.length g m p q r c row X JJ).x (j + 4 * T.l.length) = X j := fun j h => by unfold Lay.moreC; simp only; rw [if_neg (by omega), Nat.add_sub_cancel]
  have Jn : ∀ j, 2 ≤ j → (Y.moreC T.l.length g m p q r c row X JJ).J (j + 4 * T.l.length) = JJ j := fun j h => by unfold Lay.moreC; simp only; rw [if_neg (by omega), Nat.add_sub_cancel]
  have xo : ∀ j k, j ≤ 5 → k < T.l.length → (Y.moreC T.l.length g m p q r c row X JJ).x (j + 4 * k) = Y.x (j + 4 * k) := fun j k h hk => by unfold Lay.moreC; simp only; rw [if_pos (by omega)]
  have Jo : ∀ j k, j ≤ 5 → k < T.l.length → (Y.moreC T.l.length g m p q r c row X JJ).J (j + 4 * k) = Y.J (j + 4 * k) := fun j k h hk => by unfold Lay.moreC; simp only; rw [if_pos (by omega)]
  have hbut : But (Y.In T.l.length) w w7 := by
    have := ((But.kept (S := Y.In T.l.length) HK).trans (R8.mono fun i ⟨h0, e⟩ => e ▸ Y.in1 h0)).trans (But.wrote (S := Y.In T.l.length) HW (Y.in0 _))
    exact this
  refine ⟨Y.moreC T.l.length g m p q r c row X JJ, ⟨?_, fun _ => ?_, fun k hk => ?_, fun k hk => ?_, fun k hk => ?_, fun k hk => ?_, ?_⟩, a0, ?_, hbut⟩
  · rw [a0, HW.blk]
    simp [bankVals, Lay.list, BankT.app, a1]
    rfl
  · rw [BankT.app_len, a1]
    refine ⟨(HW.oth _ hg0).trans R1, r2, r3, r4, fun k hk => ?_⟩
    show row[k]? = _
    by_cases e : k = T.l.length
    · subst e; rw [R6, Lay.ptr, a2]
    · rw [R5 k (by omega), Lay.ptr, Lay.ptr, ao 2 k (by decide) (by decide) (by omega)]
  · rw [BankT.app_len] at hk
    by_cases e : k = T.l.length
    · subst e; rw [a2, new hm BM, BankT.app_new, medVals, Lay.sl, Lay.sl, Lay.sl, a3, a4, a5, xn 3 (by decide), xn 4 (by decide), xn 5 (by decide)]
    · rw [ao 2 k (by decide) (by decide) (by omega), BankT.app_old T x (by omega), medVals, Lay.sl, Lay.sl, Lay.sl, ao 3 k (by decide) (by decide) (by omega), ao 4 k (by decide) (by decide) (by omega), ao 5 k (by decide) (by decide) (by omega), xo 3 k (by decide) (by omega), xo 4 k (by decide) (by omega), xo 5 k (by decide) (by omega)]
      exact old _ (by omega) (by omega) (by omega) (h.med k (by omega))
  · rw [BankT.app_len] at hk
    by_cases e : k = T.l.length
    · subst e; rw [a3, new hp BP, BankT.app_new, Jn 3 (by decide)]
    · rw [ao 3 k (by decide) (by decide) (by omega), BankT.app_old T x (by omega), Jo 3 k (by decide) (by omega)]
      exact old _ (by omega) (by omega) (by omega) (h.flu k (by omega))
  · rw [BankT.app_len] at hk
    by_cases e : k = T.l.length
    · subst e; rw [a4, new hq BQ, BankT.app_new, Jn 4 (by decide)]
    · rw [ao 4 k (by decide) (by decide) (by omega), BankT.app_old T x (by omega), Jo 4 k (by decide) (by omega)]
      exact old _ (by omega) (by omega) (by omega) (h.new k (by omega))
  · rw [BankT.app_len] at hk
    by_cases e : k = T.l.length
    · subst e; rw [a5, new hr BR, BankT.app_new, Jn 5 (by decide)]
    · rw [ao 5 k (by decide) (by decide) (by omega), BankT.app_old T x (by omega), Jo 5 k (by decide) (by omega)]
      exact old _ (by omega) (by omega) (by omega) (h.sin k (by omega))
  · intro i j hi hj _ e
    rw [BankT.app_len] at hi hj
    have hold : ∀ i, i ≠ 1 → i < 2 + 4 * T.l.length → Y.A i < w.heap.size := fun i h1 hi => h.lt ⟨i, hi, fun _ => h1, rfl⟩
    have hoo : ∀ i j, i ≠ 1 → j ≠ 1 → i < 2 + 4 * T.l.length → j < 2 + 4 * T.l.length → Y.A i = Y.A j → i = j := fun i j h1 h2 hi hj e => h.inj i j hi hj (fun _ => ⟨h1, h2⟩) e
    have hgo : ∀ i, i ≠ 1 → i < 2 + 4 * T.l.length → Y.A i ≠ g := fun i h1 hi e => by
      rcases R7 with ⟨h0, h'⟩ | h'
      · exact h1 (h.inj i 1 hi (by omega) (fun e => absurd e h0) (e.trans h'))
      · have := hold i h1 hi; have := HK.size; omega
    have hgn : ∀ b, w.heap.size ≤ b → b < w5.heap.size → b ≠ g := fun b hb hb5 e => by
      rcases R7 with ⟨h0, h'⟩ | h'
      · have := l1 h0; omega
      · omega
    have g1 := hgn m hm sm
    have g2 := hgn p hp sp
    have g3 := hgn q hq sq
    have g4 := hgn r hr sr
    rw [Lay.moreC_A] at e; exact Y.more_inj c row hoo hold hgo hm hp hq hr g1 g2 g3 g4 hmp hmq hmr hpq hpr hqr hi hj e
  · rintro b ⟨i, hi, _, rfl⟩
    rcases Y.more_at T.l.length g m p q r c row hi with ⟨x1, x2⟩ | ⟨x0, x1, x2⟩ | ⟨x1, x2⟩ | ⟨x1, x2⟩ | ⟨x1, x2⟩ | ⟨x1, x2⟩ <;> rw [Lay.moreC_A, x2]
    · rcases R7 with ⟨h0, h'⟩ | h'
      · exact .inl (h' ▸ Y.in1 h0)
      · have := HK.size; exact .inr (by omega)
    · exact .inl ⟨i, x1, fun _ => x0, rfl⟩
    · exact .inr hm
    · exact .inr hp
    · exact .inr hq
    · exact .inr hr
end
section
set_option maxHeartbeats 1000000
set_option maxRecDepth 100000
theorem eq_nilS (w : World) (a : Option Addr) (n c : Nat) : (binOp .eql 77 (.slice a n c) (.slice none 0 0)).run Try.prog w = .ok (.bool a.isNone) w := by
  simp only [binOp]
  simp [Op.equal, Op.maxDepth, Lib.run_equalIn_slice_nil w 9999 77 34 a n c 0 0 Try.underlying77]
theorem eq_nilI (w : World) (a : Option Addr) (n c : Nat) : (binOp .eql 56 (.slice a n c) (.slice none 0 0)).run Try.prog w = .ok (.bool a.isNone) w := by
  simp only [binOp]
  simp [Op.equal, Op.maxDepth, Lib.run_equalIn_slice_nil w 9999 56 3 a n c 0 0 Try.underlying56]
theorem ty_secsZ : ElemT Try.prog 77 34 64 64 := by
  refine ⟨Try.underlying77, ?_, by decide⟩
  have h1 : (Try.prog.info? 34).map (fun i => (i.zero, i.size, i.bytes)) = some (some (.agg (Array.replicate 64 (.int .u8 0))), 64, 64) := by kernel_rfl
  cases hi : Try.prog.info? 34 with
  | none => simp [hi] at h1
  | some i =>
    simp only [hi, Option.map_some, Option.some.injEq, Prod.mk.injEq] at h1
    exact ⟨i, _, rfl, h1.1, h1.2.1, h1.2.2, by decide⟩
theorem ty_intsZ : ElemT Try.prog 56 3 1 8 := by
  refine ⟨Try.underlying56, ?_, by decide⟩
  have h1 : (Try.prog.info? 3).map (fun i => (i.zero, i.size, i.bytes)) = some (some (.int .i64 0), 1, 8) := by kernel_rfl
  cases hi : Try.prog.info? 3 with
  | none => simp [hi] at h1
  | some i =>
    simp only [hi, Option.map_some, Option.some.injEq, Prod.mk.injEq] at h1
    exact ⟨i, _, rfl, h1.1, h1.2.1, h1.2.2, rfl⟩
theorem clone_secs (l : List (List Int)) (h64 : ∀ s ∈ l, s.length = 64) (b c : Nat) (w : World) (h0 : 0 < l.length) (hl : l.length ≤ 4096) (hc : l.length ≤ c) (hr : Cells w b 0 (secs l)) :
    Calls Try.prog 64 #[.slice (some ⟨b, 0, none⟩) l.length c] w fun e w' => ∃ g x rest, e = .returned (.slice (some ⟨g, 0, none⟩) l.length (l.length + x)) ∧ w'.heap[g]? = some (.cells (secs l ++ rest).toArray 34 (0, 0)) ∧ w.heap.size ≤ g ∧ Kept w w' := by
  have HR := Lib.hid hr; clear hr
  have HL := Lib.hid (secs_length l h64)
  have e1 := eq_nilS
  have ka : ∀ o, Kept w (w.alloc o) := fun o => (Kept.refl _).alloc o
  clear h64
  go_enter Try.func64, Try.ntmps64
  go_wp2_with (at_builtin; refine stop_at ?_)
  refine Stop.mk ?_
  refine wpList_append_app _ rfl _ _ rfl ty_secsZ w.heap.size (.slice (some ⟨w.heap.size, 0, none⟩) 0 0) 0 [] rfl (.inr ⟨rfl, _, rfl, by simp, by simp⟩) _ l.length (secs l) rfl (Src.of_cells (Cells.kept HR.out (ka _)) HL.out hc) (u8s_one _) (by simp only [maxLen]; omega) (by omega) (by simp) ?_
  intro v' w' _ _ hb hown
  have ho := hown (.inl h0)
  rw [Nat.zero_add, List.nil_append] at ho
  clear hown
  have hk : Kept w w' := (ka _).below (Nat.le_refl _) hb
  rcases ho.2 with ⟨_, h⟩ | ⟨g, cap, cur, rfl, hg, hh, hn, hm, hs, ht⟩
  · omega
  have HT := Lib.hid ht; clear ht
  have HH := Lib.hid hh; clear hh
  clear ho hb hs
  obtain ⟨xx, hxx⟩ : ∃ xx, cap = l.length + xx := ⟨cap - l.length, by omega⟩
  subst hxx
  go_wp2
  go_ret
  have e : cur = (secs l ++ cur.toList.drop (l.length * 64)).toArray := by
    have h := HT.out
    rw [← h, List.take_append_drop, Array.toArray_toList]
  exact ⟨g, xx, cur.toList.drop (l.length * 64), rfl, by rw [← e]; exact HH.out, hg, hk⟩
theorem clone_ints (l : List Int) (b c : Nat) (w : World) (h0 : 0 < l.length) (hl : l.length ≤ 4096) (hc : l.length ≤ c) (hr : Cells w b 0 (ints l)) :
    Calls Try.prog 65 #[.slice (some ⟨b, 0, none⟩) l.length c] w fun e w' => ∃ g x rest, e = .returned (.slice (some ⟨g, 0, none⟩) l.length (l.length + x)) ∧ w'.heap[g]? = some (.cells (ints l ++ rest).toArray 3 (0, 0)) ∧ w.heap.size ≤ g ∧ Kept w w' := by
  have HR := Lib.hid hr; clear hr
  have e1 := eq_nilI
  have ka : ∀ o, Kept w (w.alloc o) := fun o => (Kept.refl _).alloc o
  go_enter Try.func65, Try.ntmps65
  go_wp2_with (at_builtin; refine stop_at ?_)
  refine Stop.mk ?_
  refine wpList_append_app _ rfl _ _ rfl ty_intsZ w.heap.size (.slice (some ⟨w.heap.size, 0, none⟩) 0 0) 0 [] rfl (.inr ⟨rfl, _, rfl, by simp, by simp⟩) _ l.length (ints l) rfl (Src.of_cells (Cells.kept HR.out (ka _)) (by rw [ints_length, Nat.mul_one]) hc) (by intro u hu; simp only [ints, List.mem_map] at hu; obtain ⟨y, _, rfl⟩ := hu; rfl) (by simp only [maxLen]; omega) (by omega) (by simp) ?_
  intro v' w' _ _ hb hown
  have ho := hown (.inl h0)
  rw [Nat.zero_add, List.nil_append] at ho
  clear hown
  have hk : Kept w w' := (ka _).below (Nat.le_refl _) hb
  rcases ho.2 with ⟨_, h⟩ | ⟨g, cap, cur, rfl, hg, hh, hn, hm, hs, ht⟩
  · omega
  have HT := Lib.hid ht; clear ht
  have HH := Lib.hid hh; clear hh
  clear ho hb hs
  obtain ⟨xx, hxx⟩ : ∃ xx, cap = l.length + xx := ⟨cap - l.length, by omega⟩
  subst hxx
  go_wp2
  go_ret
  have e : cur = (ints l ++ cur.toList.drop l.length).toArray := by
    have h := HT.out
    rw [Nat.mul_one] at h
    rw [← h, List.take_append_drop, Array.toArray_toList]
  exact ⟨g, xx, cur.toList.drop l.length, rfl, by rw [← e]; exact HH.out, hg, hk⟩
end
end Go.Proofs.Ytglplhmclfekfaa
