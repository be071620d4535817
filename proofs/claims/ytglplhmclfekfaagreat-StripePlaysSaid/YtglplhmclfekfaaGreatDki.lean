/- A disk.Bank: Loose. -/
import Derived.Test.YtglplhmclfekfaaGreatDkh
namespace Go.Proofs.YtglplhmclfekfaaGreat
open Go.RowKit
set_option linter.unusedVariables false
set_option linter.unusedSimpArgs false

theorem Med.looseTo_le (k : Nat) (m : Med) : ∀ j, (m.looseTo k j).length ≤ j
  | 0 => Nat.le_refl _
  | j + 1 => by
    have := Med.looseTo_le k m j
    unfold Med.looseTo
    split
    · simp; omega
    · omega
theorem BankT.looseTo_le {T : BankT} (ok : T.Ok) : ∀ {k}, k ≤ T.l.length → (T.looseTo k).length ≤ 4096 * k
  | 0, _ => Nat.le_refl _
  | k + 1, hk => by
    have h1 := BankT.looseTo_le ok (k := k) (by omega)
    have h2 := Med.looseTo_le k (T.d k) (T.d k).sin.length
    have h3 := (ok.d (k := k) (by omega)).len
    unfold BankT.looseTo
    rw [List.length_append]; omega
theorem Med.looseTo_succ (k : Nat) (m : Med) (j : Nat) : (m.looseTo k (j + 1)).length = if 0 < m.sin.getD j 0 then (m.looseTo k j).length + 1 else (m.looseTo k j).length := by
  rw [Med.looseTo]; split <;> simp
theorem zero_int (w : World) : (zeroValue 3).run Tryz.prog w = .ok (.int .i64 0) w := by kernel_rfl
section
variable {w : World} {Y : Lay} {T : BankT} {k c : Nat}
set_option maxHeartbeats 1000000
set_option maxRecDepth 100000
theorem closure_Loose {w : World} {c : Nat} {x : Int} {t : TypeId} (hc : w.heap[c]? = some (.cells #[.int .i64 x] t (0, 0))) (hx : 0 ≤ x) (hx2 : x < 1000000) (j : Nat) :
    Calls Tryz.prog 48 #[.int .i64 (j : Int), .pointer (some ⟨c, 0, none⟩)] w fun e w2 => e = .returned (.tuple #[]) ∧ w2.heap[c]? = some (.cells #[.int .i64 (x + 1)] t (0, 0)) ∧ But (fun b => b = c) w w2 := by
  have cc := one_cell hc
  have HC := Lib.hid hc; clear hc
  go_enter Tryz.func48, Tryz.ntmps48
  go_wp2_with (refine stop_at (o := ⟨none, .store _ _ _, _, _, _, _⟩) ?_)
  refine Stop.mk ?_
  refine wpList_set_cell rfl _ _ rfl size_int c 0 rfl (.int .i64 (x + 1)) rfl rfl rfl [.int .i64 x] _ HC.out (by simp) ?_
  intro w2 hw2
  have H1 := Lib.hid hw2.blk; have H2 := Lib.hid (But.wrote (S := fun b => b = c) hw2 rfl); clear hw2
  go_wp2
  go_end0
  exact ⟨rfl, by simpa using H1.out, H2.out⟩
theorem counts_Loose (h : BankD w Y T) (ok : T.Ok) (hk : k < T.l.length) {x : Int} {t : TypeId} (hc : w.heap[c]? = some (.cells #[.int .i64 x] t (0, 0))) (hn : ¬ Y.In T.l.length c) (hx : 0 ≤ x) (hx2 : x < 500000) :
    Calls Tryz.prog 47 #[.pointer (some ⟨Y.A (2 + 4 * k), 0, none⟩), .func (.func 48) #[] #[.pointer (some ⟨c, 0, none⟩)]] w fun e w' =>
      e = .returned (.tuple #[]) ∧ w'.heap[c]? = some (.cells #[.int .i64 (x + ((T.d k).looseTo k (T.d k).sin.length).length)] t (0, 0)) ∧ But (fun b => b = c) w w' := by
  have okd := ok.d hk
  refine loose_Loose (sin := (T.d k).sin) (D := Y.A (5 + 4 * k)) (h.m2 hk) okd.len (fun j w1 => w1.heap[c]? = some (.cells #[.int .i64 (x + ((T.d k).looseTo k j).length)] t (0, 0)) ∧ But (fun b => b = c) w w1) ?_ ?_ ?_ ?_
  · exact ⟨by simpa [Med.looseTo] using hc, But.refl _ _⟩
  · rintro j w1 hj ⟨_, h2⟩
    refine h2.cell ?_ (h.cell_sin hk hj)
    exact fun e => hn (e ▸ Y.in_ hk 5 (by decide) (by decide))
  · rintro j w1 hj hp ⟨h1, h2⟩
    have hle := Med.looseTo_le k (T.d k) j
    have hl := okd.len
    refine (closure_Loose h1 (by omega) (by omega) j).mono ?_
    rintro e w2 ⟨rfl, h3, h4⟩
    refine ⟨rfl, ?_, h2.trans h4⟩
    rw [h3, Med.looseTo_succ, if_pos hp]
    simp only [Int.natCast_add, Int.natCast_one, Int.add_assoc]
  · rintro j w1 hj hp ⟨h1, h2⟩
    exact ⟨by rw [h1, Med.looseTo_succ, if_neg hp], h2⟩
theorem bank_Loose (h : BankD w Y T) (ok : T.Ok) (hN : T.l.length ≠ 0) : Calls Tryz.prog 12 #[.pointer (some ⟨Y.A 0, 0, none⟩)] w fun e w' => e = .returned (.int .i64 (T.looseN : Int)) ∧ Kept w w' := by
  have H := Lib.hid h
  have hn := h.not_in
  have hN32 := ok.1
  clear h
  go_enter Tryz.func12, Tryz.ntmps12
  go_wp2_with (refine stop_at (o := ⟨some 3, _, _, _, _, _⟩) ?_)
  refine Stop.mk ?_
  refine wpList_new_one rfl rfl _ _ rfl rfl size_int _ zero_int rfl (.int .i64 0) rfl rfl rfl rfl ?_
  intro w1 hz hs hk1
  have H1 := Lib.hid (H.out.kept hk1)
  have c0 := H1.out.b0 hN
  have HK1 := Lib.hid hk1; clear hk1
  go_wp2
  go_loopw [11] (fun i wr => ∃ k : Nat, k ≤ T.l.length ∧ i = .int .i64 k ∧ Hid (wr.heap[w.heap.size]? = some (.cells #[.int .i64 ((T.looseTo k).length : Int)] 3 (0, 0))) ∧ Hid (But (fun b => b = w.heap.size) w1 wr)) (fun i _ => T.l.length - (intOf i).toNat)
  case atStart => exact ⟨0, Nat.zero_le _, rfl, hz, Lib.hid (But.refl _ _)⟩
  case round =>
    obtain ⟨k, hk, rfl, HC, HU⟩ := hrel
    by_cases hlt : k < T.l.length
    · have cr := HU.out.cell (fun (e : Y.A 1 = w.heap.size) => hn (e ▸ Y.in1 hN)) (H1.out.r hlt)
      have HB := Lib.hid (H1.out.same (w' := wr) (fun b hb => HU.out.block b (H1.out.lt hb) (fun e => hn (e ▸ hb))))
      have hle := BankT.looseTo_le ok (Nat.le_of_lt hlt)
      have HL := Lib.hid (counts_Loose HB.out ok hlt HC.out hn (by omega) (by omega))
      go_wp2_with fail
      refine Calls.mono HL.out ?_
      rintro e w2 ⟨rfl, h1, h2⟩
      have h1' : w2.heap[w.heap.size]? = some (.cells #[.int .i64 ((T.looseTo (k + 1)).length : Int)] 3 (0, 0)) := by
        rw [h1, BankT.looseTo, List.length_append, Int.natCast_add]
      have HC2 := Lib.hid h1'; have HU2 := Lib.hid (HU.out.trans h2); clear h1 h1' h2
      go_wp2
      go_roundw
      case rel => exact ⟨k + 1, hlt, by go_num, HC2, HU2⟩
      case measure => simp [intOf]; omega
    · have hkk : k = T.l.length := by omega
      subst hkk
      have cc := one_cell HC.out
      go_wp2
      go_ret
      refine ⟨rfl, ?_⟩
      exact But.to_kept HK1.out HU.out (fun i e => by omega)
end
end Go.Proofs.YtglplhmclfekfaaGreat
