/- PaE: several texts in one: Dkj Dkk Dkm Dkp Dkl Dkn. -/
import Derived.Test.YtpeclkhppgabfaaDoorPaD
import Derived.Deep.QuietTactic
import Derived.BigQuiet
import Derived.Deep.CutBlock
import Derived.Deep.DeepCutAuto
import Derived.Test.YtpeclkhppgabfaaDoorSort
/- A disk.Bank: Crash collects what is loose. -/
namespace Go.Proofs.YtpeclkhppgabfaaDoor
open Go.RowKit
set_option linter.unusedVariables false
set_option linter.unusedSimpArgs false

def places (Y : Lay) : List (Nat × Nat) → List Value
  | [] => []
  | p :: L => .pointer (some ⟨Y.A (2 + 4 * p.1), 0, none⟩) :: .int .i64 (p.2 : Int) :: places Y L
theorem places_append (Y : Lay) : ∀ L M : List (Nat × Nat), places Y (L ++ M) = places Y L ++ places Y M
  | [], _ => rfl
  | p :: L, M => by simp [places, places_append Y L M]
theorem places_length (Y : Lay) : ∀ L : List (Nat × Nat), (places Y L).length = L.length * 2
  | [] => rfl
  | p :: L => by simp [places, places_length Y L]; omega
/-- the list of what is loose, in its variable c -/
def AllAt (w : World) (c base : Nat) (Y : Lay) (L : List (Nat × Nat)) : Prop :=
  ∃ v, w.heap[c]? = some (.cells #[v] 90 (0, 0)) ∧ w.ownsRow base 93 2 v L.length (places Y L)
theorem ty_all : ElemT Tryd.prog 90 93 2 16 := by
  refine ⟨Tryd.underlying90, ?_, by decide⟩
  have h1 : (Tryd.prog.info? 93).map (fun i => (i.zero, i.size, i.bytes)) = some (some (.agg #[.pointer none, .int .i64 0]), 2, 16) := by kernel_rfl
  cases hi : Tryd.prog.info? 93 with
  | none => simp [hi] at h1
  | some i =>
    simp [hi] at h1
    exact ⟨i, _, rfl, h1.1, h1.2.1, h1.2.2, rfl⟩
theorem size_all : (Tryd.prog.info? 90).map (·.size) = some 1 := by kernel_rfl
theorem zero_all (w : World) : (zeroValue 90).run Tryd.prog w = .ok (.slice none 0 0) w := by kernel_rfl
theorem own_other {w : World} {base e size n : Nat} {v : Value} {xs : List Value} (h : w.ownsRow base e size v n xs) {b : Nat} {cs : Array Value} {t : TypeId} (hb : w.heap[b]? = some (.cells cs t (0, 0))) (ht : t ≠ e) : v.ownBlock ≠ some b := by
  rcases h.2 with ⟨rfl, _⟩ | ⟨g, cap, cur, rfl, _, hg, _⟩
  · simp [Value.ownBlock]
  · intro e
    simp only [Value.ownBlock, Option.some.injEq] at e
    subst e
    rw [hg] at hb
    injection hb with hb; injection hb with _ hb _
    exact ht hb.symm
theorem own_slice {w : World} {base e size n : Nat} {v : Value} {xs : List Value} (h : w.ownsRow base e size v n xs) : v.cells = #[v] ∧ v.oneCell' = true := by
  rcases h.2 with ⟨rfl, _⟩ | ⟨g, cap, cur, rfl, _, hg, _⟩ <;> exact ⟨rfl, rfl⟩
theorem own_same {w w' : World} {base e size n : Nat} {v : Value} {xs : List Value} (h : w.ownsRow base e size v n xs) (hs : ∀ g, v.ownBlock = some g → w'.heap[g]? = w.heap[g]?) : w'.ownsRow base e size v n xs := by
  refine ⟨h.1, ?_⟩
  rcases h.2 with h' | ⟨g, cap, cur, rfl, hb, hg, r⟩
  · exact .inl h'
  · exact .inr ⟨g, cap, cur, rfl, hb, (hs g rfl).trans hg, r⟩
section
variable {w : World} {Y : Lay} {T : BankT} {k c d base j : Nat} {L : List (Nat × Nat)}
set_option maxHeartbeats 1000000
set_option maxRecDepth 100000
theorem closure_Crash (hA : AllAt w c base Y L) (hd : w.heap[d]? = some (.cells #[.pointer (some ⟨Y.A (2 + 4 * k), 0, none⟩)] 79 (0, 0))) (hb : base ≤ c) (hlen : L.length < 200000) (hsz : base ≤ w.heap.size) :
    Calls Tryd.prog 43 #[.int .i64 (j : Int), .pointer (some ⟨c, 0, none⟩), .pointer (some ⟨d, 0, none⟩)] w fun e w2 =>
      e = .returned (.tuple #[]) ∧ AllAt w2 c base Y (L ++ [(k, j)]) ∧ w2.heap[d]? = some (.cells #[.pointer (some ⟨Y.A (2 + 4 * k), 0, none⟩)] 79 (0, 0)) ∧ Below base w w2 := by
  obtain ⟨v, hc, ho⟩ := hA
  have cc := one_cell hc
  have cd := one_cell hd
  have HC := Lib.hid hc; have HD := Lib.hid hd; have HO := Lib.hid ho
  clear hc hd ho
  go_enter Tryd.func43, Tryd.ntmps43
  go_wp2_with (refine stop_at (o := ⟨some 9, _, _, _, _, _⟩) ?_)
  refine Stop.mk ?_
  have hk7 : Kept w (w.alloc (Obj.cells #[.pointer (some ⟨Y.A (2 + 4 * k), 0, none⟩), .int .i64 (j : Int)] 93)) := (Kept.refl _).alloc _
  have hb7 := heap_alloc_new w (Obj.cells #[.pointer (some ⟨Y.A (2 + 4 * k), 0, none⟩), .int .i64 (j : Int)] 93)
  have HO7 := Lib.hid (ownsRow_kept HO.out hk7)
  refine wpList_append_app _ rfl _ _ rfl ty_all base v L.length (places Y L) rfl (.inl HO7.out) _ 1 [.pointer (some ⟨Y.A (2 + 4 * k), 0, none⟩), .int .i64 (j : Int)] rfl (Src.of_cells (by simpa using Cells.of_block hb7) rfl (Nat.le_refl _)) (by intro u hu; simp at hu; rcases hu with rfl | rfl <;> rfl) (by simp only [maxLen]; omega) (by omega) (Nat.le_trans hsz hk7.size) ?_
  intro v8 w8 _ hg8 hB8 hown8
  have ho8 := hown8 (.inl (by omega))
  have hC7 := hk7.block HC.out
  have hD7 := hk7.block HD.out
  have hlc : c < w.heap.size := (Array.getElem?_eq_some_iff.1 HC.out).1
  have hld : d < w.heap.size := (Array.getElem?_eq_some_iff.1 HD.out).1
  have hC8 := (hg8.block c (Nat.lt_of_lt_of_le hlc hk7.size) (fun e => own_other HO7.out hC7 (by decide) e.symm)).trans hC7
  have hD8 := (hg8.block d (Nat.lt_of_lt_of_le hld hk7.size) (fun e => own_other HO7.out hD7 (by decide) e.symm)).trans hD7
  have hdc : d ≠ c := fun e => by
    have := HD.out
    rw [e, HC.out] at this
    injection this with this; injection this with _ this _
    exact absurd this (by decide)
  have K8 : Below base w w8 := Below.trans (hk7.mono hsz) hB8
  have HC8 := Lib.hid hC8; have HD8 := Lib.hid hD8; have HO8 := Lib.hid ho8; have HK8 := Lib.hid K8
  clear hC8 hD8 ho8 K8 hg8 hB8 hown8 hC7 hD7 HO7 hb7 hk7 cc cd
  go_wp2_with (refine stop_at (o := ⟨none, .store _ _ _, _, _, _, _⟩) ?_)
  refine Stop.mk ?_
  refine wpList_set_cell rfl _ _ rfl size_all c 0 rfl v8 rfl (own_slice HO8.out).1 (own_slice HO8.out).2 [v] _ HC8.out (by simp) ?_
  intro w9 hw9
  have h1 : AllAt w9 c base Y (L ++ [(k, j)]) := by
    refine ⟨v8, by simpa using hw9.blk, ?_⟩
    rw [places_append, List.length_append]
    exact own_same HO8.out fun g hg => hw9.oth g fun e => own_other HO8.out HC8.out (by decide) (e ▸ hg)
  have h2 := (hw9.oth d hdc).trans HD8.out
  have h3 : Below base w w9 := Below.trans HK8.out ⟨hw9.os, hw9.tape, hw9.output, by rw [hw9.size]; exact Nat.le_refl _, fun b hb' => hw9.oth b (by omega)⟩
  have H1 := Lib.hid h1; have H2 := Lib.hid h2; have H3 := Lib.hid h3
  clear h1 h2 h3 hw9
  go_wp2
  go_end0
  exact ⟨rfl, H1.out, H2.out, H3.out⟩
theorem Med.looseTo_snoc (k : Nat) (m : Med) (j : Nat) : m.looseTo k (j + 1) = if 0 < m.sin.getD j 0 then m.looseTo k j ++ [(k, j)] else m.looseTo k j := rfl
theorem collects_Crash (h : BankD w Y T) (ok : T.Ok) (hk : k < T.l.length) (hA : AllAt w c base Y L) (hd : w.heap[d]? = some (.cells #[.pointer (some ⟨Y.A (2 + 4 * k), 0, none⟩)] 79 (0, 0))) (hb : base ≤ c) (hlen : L.length < 190000) (hsz : base ≤ w.heap.size) (hin : ∀ b, Y.In T.l.length b → b < base) :
    Calls Tryd.prog 42 #[.pointer (some ⟨Y.A (2 + 4 * k), 0, none⟩), .func (.func 43) #[] #[.pointer (some ⟨c, 0, none⟩), .pointer (some ⟨d, 0, none⟩)]] w fun e w' =>
      e = .returned (.tuple #[]) ∧ AllAt w' c base Y (L ++ (T.d k).looseTo k (T.d k).sin.length) ∧ Below base w w' := by
  have okd := ok.d hk
  refine (loose_Crash (sin := (T.d k).sin) (D := Y.A (5 + 4 * k)) (h.m2 hk) okd.len (fun j w1 => AllAt w1 c base Y (L ++ (T.d k).looseTo k j) ∧ w1.heap[d]? = some (.cells #[.pointer (some ⟨Y.A (2 + 4 * k), 0, none⟩)] 79 (0, 0)) ∧ Below base w w1) ?_ ?_ ?_ ?_).mono fun e w' ⟨h1, h2, h3, h4⟩ => ⟨h1, h2, h4⟩
  · exact ⟨by simpa [Med.looseTo] using hA, hd, Below.refl _ _⟩
  · rintro j w1 hj ⟨_, _, h2⟩
    exact (Below.cell h2 (hin _ (Y.in_ hk 5 (by decide) (by decide)))).trans (h.cell_sin hk hj)
  · rintro j w1 hj hp ⟨h1, h2, h3⟩
    have hle := Med.looseTo_le k (T.d k) j
    have hl := okd.len
    refine (closure_Crash h1 h2 hb (by rw [List.length_append]; omega) (Nat.le_trans hsz h3.size)).mono ?_
    rintro e w2 ⟨rfl, h4, h5, h6⟩
    exact ⟨rfl, by rw [Med.looseTo_snoc, if_pos hp, ← List.append_assoc]; exact h4, h5, Below.trans h3 h6⟩
  · rintro j w1 hj hp ⟨h1, h2, h3⟩
    exact ⟨by rw [Med.looseTo_snoc, if_neg hp]; exact h1, h2, h3⟩
end
end Go.Proofs.YtpeclkhppgabfaaDoor
/- A disk.Bank: Read. -/
namespace Go.Proofs.YtpeclkhppgabfaaDoor
open Go.RowKit
set_option linter.unusedVariables false
set_option linter.unusedSimpArgs false

theorem BankT.readyE_in {T : BankT} {d : Int} (h : T.readyE d = 0) : ∃ k : Nat, d = (k : Int) ∧ k < T.l.length := by
  unfold BankT.readyE at h
  split at h
  · omega
  · exact ⟨d.toNat, by omega, by omega⟩
section
variable {w : World} {Y : Lay} {T : BankT}
set_option maxHeartbeats 1000000
set_option maxRecDepth 100000
theorem bank_Read (h : BankD w Y T) (ok : T.Ok) (hN : T.l.length ≠ 0) (d a : Int) : Calls Tryd.prog 58 #[.pointer (some ⟨Y.A 0, 0, none⟩), .agg #[.int .i64 d, .int .i64 a]] w fun e w' =>
    e = .returned (.tuple #[.agg (u8s (T.read d a).1).toArray, .int .i64 (T.read d a).2]) ∧ Kept w w' := by
  have hR := fun w1 (hk : Kept w w1) => bank_ready (h.kept hk) hN d
  by_cases hr : T.readyE d = 0
  · obtain ⟨k, rfl, hk⟩ := BankT.readyE_in hr
    simp only [hr, if_true, Int.toNat_natCast] at hR
    by_cases hin : a < 0 ∨ ((T.d k).sin.length : Int) ≤ a
    · have hi := fun w1 (hkk : Kept w w1) => (med_in (h.kept hkk) hk a).mono (R' := fun e w' => e = .returned (.bool false) ∧ w' = w1) fun e w' ⟨he, hw⟩ => ⟨by rw [he]; simp; omega, hw.symm⟩
      have e : T.read (k : Int) a = (zeroB, 3) := by
        have : T.inE (k : Int) a = 3 := by unfold BankT.inE; rw [hr, if_neg (by decide), Int.toNat_natCast, if_pos hin]
        unfold BankT.read; rw [this]; rfl
      rw [e]
      have HR := Lib.hid hR; have HI := Lib.hid hi; have H := Lib.hid h
      clear hR hi h e hr hin
      go_enter Tryd.func58, Tryd.ntmps58
      go_wp2_with (refine stop_at (o := ⟨some 4, _, _, _, _, _⟩) ?_)
      refine Stop.mk ?_
      refine wpList_alloc_abs rfl 39 rfl (u8s zeroB) zero_sec ?_
      intro w1 hz hs hn hk1
      have hb := hk1.block (heap_alloc_new w _)
      have p0 : w1.cell? ⟨w.heap.size, 0, none⟩ = some (.int .i64 (k : Int)) := cell_of_row _ _ 0 _ _ _ hb
      have p1 : w1.cell? ⟨w.heap.size, 1, none⟩ = some (.int .i64 a) := cell_of_row _ _ 1 _ _ _ hb
      have K := Lib.hid (((Kept.refl w).alloc _).trans hk1)
      have hzs : (w.alloc (Obj.cells #[Value.int IntKind.i64 (k : Int), Value.int IntKind.i64 a] 36)).heap.size = w.heap.size + 1 := World.size_alloc _ _
      rw [hzs] at hz hs hn
      clear hb hk1 hzs
      go_wp2_with fail
      refine Calls.mono (HR.out _ K.out) ?_
      rintro e w' ⟨rfl, rfl⟩
      go_upto_region 4 with fail
      go_quiet (first | (go_at_call 41; refine Calls.quiet_of_same (HI.out _ (K.out.drewN _))))
      go_wp2_with (refine stop_at (o := ⟨none, .store _ _ _, _, _, _, _⟩) ?_)
      refine Stop.mk ?_
      refine wpList_store_agg rfl _ _ rfl ty_sec (w.heap.size + 1) 0 rfl (u8s zeroB) rfl (by simp [u8s_length, zeroB_length]) (u8s_one _) (u8s zeroB) 39 hz.out (by simp [u8s_length, zeroB_length]) ?_
      intro w3 hw3
      replace hw3 := hw3.all rfl
      have hkw := Lib.hid (hw3.kept (K.out.drewN nq) (by omega))
      have hw3' := Lib.hid hw3; clear hw3
      go_wp2
      refine bodyPost_ret (results_sec rfl _ _ (w.heap.size + 1) zeroB rfl hw3'.out.cells zeroB_length) rfl ⟨rfl, hkw.out⟩
    · obtain ⟨b, rfl, hb⟩ : ∃ b : Nat, a = (b : Int) ∧ b < (T.d k).sin.length := ⟨a.toNat, by omega, by omega⟩
      have hi := fun w1 (hkk : Kept w w1) => (med_in (h.kept hkk) hk (b : Int)).mono (R' := fun e w' => e = .returned (.bool true) ∧ w' = w1) fun e w' ⟨he, hw⟩ => ⟨by rw [he]; simp; omega, hw.symm⟩
      have e : T.read (k : Int) (b : Int) = ((T.d k).new.getD b [], 0) := by
        have : T.inE (k : Int) (b : Int) = 0 := by unfold BankT.inE; rw [hr, if_neg (by decide), Int.toNat_natCast, if_neg hin]
        unfold BankT.read; rw [this, if_pos rfl, Int.toNat_natCast, Int.toNat_natCast]
      rw [e]
      have okd := ok.d hk
      have ls := okd.new.at hb
      have nl := okd.new.1
      have hlen := okd.len
      have sn := cells_sec (Cells.of_block (h.new k hk)) (fun s hs => (okd.new.2 s hs).1) (show b < (T.d k).new.length by omega)
      have c1 := h.m1 hk
      generalize (T.d k).new.getD b [] = xs at *
      have HR := Lib.hid hR; have HI := Lib.hid hi; have LS := Lib.hid ls.1; have SN := Lib.hid sn
      clear hR hi h e hr hin ok okd ls nl sn
      go_enter Tryd.func58, Tryd.ntmps58
      go_wp2_with (refine stop_at (o := ⟨some 4, _, _, _, _, _⟩) ?_)
      refine Stop.mk ?_
      refine wpList_alloc_abs rfl 39 rfl (u8s zeroB) zero_sec ?_
      intro w1 hz hs hn hk1
      have hb := hk1.block (heap_alloc_new w _)
      have p0 : w1.cell? ⟨w.heap.size, 0, none⟩ = some (.int .i64 (k : Int)) := cell_of_row _ _ 0 _ _ _ hb
      have p1 : w1.cell? ⟨w.heap.size, 1, none⟩ = some (.int .i64 (b : Int)) := cell_of_row _ _ 1 _ _ _ hb
      have K := Lib.hid (((Kept.refl w).alloc _).trans hk1)
      have hzs : (w.alloc (Obj.cells #[Value.int IntKind.i64 (k : Int), Value.int IntKind.i64 (b : Int)] 36)).heap.size = w.heap.size + 1 := World.size_alloc _ _
      rw [hzs] at hz hs hn
      clear hb hk1 hzs
      go_wp2_with fail
      refine Calls.mono (HR.out _ K.out) ?_
      rintro e w' ⟨rfl, rfl⟩
      go_upto_region 4 with fail
      go_quiet (first | (go_at_call 41; refine Calls.quiet_of_same (HI.out _ (K.out.drewN _))))
      go_wp2
      refine wp_still_tail 9 (by kernel_rfl) (by kernel_rfl) fun ws hks hhs => ?_
      have c1' := (((K.out.drewN nq).trans hks).cell' c1)
      have q1 : ws.cell? ⟨w.heap.size, 1, none⟩ = some (.int .i64 (b : Int)) := (hks.cell' (a := w1.drewN nq) p1)
      simp only [List.take_succ_cons, List.take_zero, List.drop_succ_cons, List.drop_zero]
      iterate 8 still_step
      refine still_load_agg rfl _ rfl ty_sec (Y.A (4 + 4 * k)) (b * 64) rfl _ (SN.out.kept ((K.out.drewN nq).trans hks)) (by rw [u8s_length, LS.out]) ?_
      refine wpStill_nil ?_
      refine wpList_store_agg rfl _ _ rfl ty_sec (w.heap.size + 1) 0 rfl (u8s xs) rfl (by rw [u8s_length, LS.out]) (u8s_one _) (u8s zeroB) 39 ((congrArg (·[w.heap.size + 1]?) hhs).trans hz.out) (by simp [u8s_length, zeroB_length]) ?_
      intro w3 hw3
      replace hw3 := hw3.all (by rw [u8s_length, u8s_length, LS.out]; rfl)
      have hkw := Lib.hid (hw3.kept ((K.out.drewN nq).trans hks) (by omega))
      have hw3' := Lib.hid hw3; clear hw3 hhs c1' q1
      go_wp2
      refine bodyPost_ret (results_sec rfl _ _ (w.heap.size + 1) xs rfl hw3'.out.cells LS.out) rfl ⟨rfl, hkw.out⟩
  · simp only [if_neg hr] at hR
    have e : T.read d a = (zeroB, T.readyE d) := by
      have : T.inE d a = T.readyE d := by unfold BankT.inE; rw [if_pos hr]
      unfold BankT.read; rw [this, if_neg hr]
    rw [e]
    have HR := Lib.hid hR
    clear hR h e
    generalize T.readyE d = r at *
    go_enter Tryd.func58, Tryd.ntmps58
    go_wp2_with (refine stop_at (o := ⟨some 4, _, _, _, _, _⟩) ?_)
    refine Stop.mk ?_
    refine wpList_alloc_abs rfl 39 rfl (u8s zeroB) zero_sec ?_
    intro w1 hz hs hn hk1
    have hb := hk1.block (heap_alloc_new w _)
    have p0 : w1.cell? ⟨w.heap.size, 0, none⟩ = some (.int .i64 d) := cell_of_row _ _ 0 _ _ _ hb
    have p1 : w1.cell? ⟨w.heap.size, 1, none⟩ = some (.int .i64 a) := cell_of_row _ _ 1 _ _ _ hb
    have K := Lib.hid (((Kept.refl w).alloc _).trans hk1)
    have hzs : (w.alloc (Obj.cells #[Value.int IntKind.i64 d, Value.int IntKind.i64 a] 36)).heap.size = w.heap.size + 1 := World.size_alloc _ _
    rw [hzs] at hz hs hn
    clear hb hk1 hzs
    go_wp2_with fail
    refine Calls.mono (HR.out _ K.out) ?_
    rintro e w' ⟨rfl, rfl⟩
    go_wp2_with (refine stop_at (o := ⟨none, .store _ _ _, _, _, _, _⟩) ?_)
    refine Stop.mk ?_
    refine wpList_store_agg rfl _ _ rfl ty_sec (w.heap.size + 1) 0 rfl (u8s zeroB) rfl (by simp [u8s_length, zeroB_length]) (u8s_one _) (u8s zeroB) 39 hz.out (by simp [u8s_length, zeroB_length]) ?_
    intro w3 hw3
    replace hw3 := hw3.all rfl
    have hkw := Lib.hid (hw3.kept K.out (by omega))
    have hw3' := Lib.hid hw3; clear hw3
    go_wp2
    refine bodyPost_ret (results_sec rfl _ _ (w.heap.size + 1) zeroB rfl hw3'.out.cells zeroB_length) rfl ⟨rfl, hkw.out⟩
end
end Go.Proofs.YtpeclkhppgabfaaDoor
/- A disk.Bank: Crash, its sorting given. -/
namespace Go.Proofs.YtpeclkhppgabfaaDoor
open Go.RowKit
set_option linter.unusedVariables false
set_option linter.unusedSimpArgs false

theorem AllAt.kept {w w' : World} {c base : Nat} {Y : Lay} {L : List (Nat × Nat)} (h : AllAt w c base Y L) (hk : Kept w w') : AllAt w' c base Y L := by
  obtain ⟨v, h1, h2⟩ := h
  exact ⟨v, hk.block h1, ownsRow_kept h2 hk⟩
theorem BankT.settleL_snoc (mask : Int) (p : Nat × Nat) : ∀ (L : List (Nat × Nat)) (i : Nat) (T : BankT), BankT.settleL mask (L ++ [p]) i T = (BankT.settleL mask L i T).up p.1 (((BankT.settleL mask L i T).d p.1).settle p.2 (bitOf mask (i + L.length)))
  | [], _, _ => rfl
  | (k, a) :: L, i, T => by
    rw [List.cons_append, BankT.settleL, BankT.settleL_snoc mask p L, BankT.settleL, List.length_cons, show i + 1 + L.length = i + (L.length + 1) by omega]
theorem places_get (Y : Lay) : ∀ (L : List (Nat × Nat)) (i : Nat) (h : i < L.length), (places Y L)[i * 2]? = some (.pointer (some ⟨Y.A (2 + 4 * L[i].1), 0, none⟩)) ∧ (places Y L)[i * 2 + 1]? = some (.int .i64 (L[i].2 : Int))
  | [], _, h => absurd h (by simp)
  | p :: L, 0, _ => ⟨rfl, rfl⟩
  | p :: L, i + 1, h => by
    have := places_get Y L i (by simpa using h)
    simpa [places, Nat.add_mul] using this
theorem ty_loo : AggT Tryd.prog 93 2 := ⟨⟨_, Tryd.underlying93, rfl⟩, by kernel_rfl⟩
theorem zero_loo (w : World) : (zeroValue 93).run Tryd.prog w = .ok (.agg [.pointer none, .int .i64 0].toArray) w := by kernel_rfl
/-- A new variable of one cell: its zero; the world a letter. -/
theorem wpList_alloc_one {P : Program} {ops : Array Oper} {rest : List Oper} {o : Oper} {a : Act} {w : World} {Q : Exit → Act → World → Prop} (hgd : o.guard = none) (T : TypeId) (ho : o.op = .alloc T) (z : Value) (hz : ∀ w, (zeroValue T).run P w = .ok z w) (hzc : z.cells = #[z])
    (h : ∀ w1, Hid (w1.heap[w.heap.size]? = some (.cells #[z] T (0, 0))) → w.heap.size < w1.heap.size → Kept w w1 → wpList P ops Q rest (a.put o.dst (.pointer (some ⟨w.heap.size, 0, none⟩))) w1) : wpList P ops Q (o :: rest) a w := by
  refine wpList_plain hgd fun K hK => ?_
  unfold Oper.wp execOp
  simp only [ho, Instr.alloc, newVar, newRow, Sem.run_bind, hz, Result.andThen_ok, Sem.run_pure, run_newObj_alloc, hzc]
  exact hK _ _ (h _ (Lib.hid (heap_alloc_new w _)) (by simp) ((Kept.refl _).alloc _))
/-- the sort, as Crash calls it -/
def SortsAll (Y : Lay) (T : BankT) (base : Nat) : Prop := ∀ (wc : World) (v : Value), BankD wc Y T → (∀ b, Y.In T.l.length b → b < base) → wc.ownsRow base 93 2 v (T.looseTo T.l.length).length (places Y (T.looseTo T.l.length)) →
  Calls Tryd.prog 44 #[v, .func (.func 45) #[] #[]] wc fun e w' =>
    e = .returned (.tuple #[]) ∧ w'.ownsRow base 93 2 v (T.looseTo T.l.length).length (places Y T.order) ∧ wc.grownBy w' v.ownBlock
theorem own_base {w : World} {base e size n : Nat} {v : Value} {xs : List Value} (h : w.ownsRow base e size v n xs) {k : Nat} (hk : v.ownBlock = some k) : base ≤ k := by
  rcases h.2 with ⟨rfl, _⟩ | ⟨g, cap, cur, rfl, hb, _⟩
  · simp [Value.ownBlock] at hk
  · simp only [Value.ownBlock, Option.some.injEq] at hk
    omega
theorem own_form {w : World} {base e n : Nat} {v : Value} {Y : Lay} {L : List (Nat × Nat)} (h : w.ownsRow base e 2 v n (places Y L)) : ∃ ao cap, v = .slice ao n cap ∧ ∀ i (hi : i < L.length), ∃ g, ao = some ⟨g, 0, none⟩ ∧ base ≤ g ∧ g < w.heap.size ∧ Cells w g (i * 2) [.pointer (some ⟨Y.A (2 + 4 * L[i].1), 0, none⟩), .int .i64 (L[i].2 : Int)] := by
  have hl := h.1
  rw [places_length] at hl
  rcases owns_form h with ⟨rfl, rfl, _⟩ | ⟨g, cap, rfl, hb, hg, hn, hc⟩
  · exact ⟨none, 0, rfl, fun i hi => by omega⟩
  · refine ⟨_, cap, rfl, fun i hi => ⟨g, rfl, hb, hg, ?_⟩⟩
    obtain ⟨h1, h2⟩ := places_get Y L i hi
    intro j hj
    have hj' : i * 2 + j < (places Y L).length := by rw [places_length]; simp at hj; omega
    have := hc (i * 2 + j) hj'
    rw [Nat.zero_add] at this
    rw [this, ← List.getElem?_eq_getElem hj', ← List.getElem?_eq_getElem hj]
    match j, hj with
    | 0, _ => exact h1
    | 1, _ => exact h2
theorem run_shr64 {P : Program} (w : World) (m : Nat) (k : Nat) : (Op.shift .shr .u64 (m : Int) .i64 ((k : Int).tmod 64)).run P w = .ok (.int .u64 ((m / 2 ^ (k % 64) : Nat) : Int)) w := by
  have h1 : (k : Int).tmod 64 = ((k % 64 : Nat) : Int) := by
    rw [Int.tmod_eq_emod_of_nonneg (by omega)]; rfl
  have h2 : ¬ ((k % 64 : Nat) : Int) < 0 := by omega
  have h3 : min (k % 64) IntKind.u64.bits = k % 64 := by
    have : IntKind.u64.bits = 64 := rfl
    omega
  unfold Op.shift
  rw [h1, if_neg h2, Int.toNat_natCast, h3]
  show Sem.run P (pure _) w = _
  rw [Sem.run_pure]
  congr 2
  rw [Int.fdiv_eq_ediv_of_nonneg _ (by exact_mod_cast Nat.zero_le _)]
  simp
theorem and1_bit (n : Nat) (hn : n < 18446744073709551616) : ((bits .and .u64 (n : Int) 1 : Int) == 1) = decide (n % 2 = 1) := by
  show (IntKind.u64.wrap ((BitVec.ofInt 64 (n : Int) &&& BitVec.ofInt 64 1).toNat : Int) == 1) = _
  have h1 : (BitVec.ofInt 64 (n : Int)).toNat = n := by rw [BitVec.toNat_ofInt]; omega
  rw [BitVec.toNat_and, h1, show (BitVec.ofInt 64 1).toNat = 1 from rfl, Nat.and_one_is_mod]
  have h3 : n % 2 = 0 ∨ n % 2 = 1 := by omega
  rcases h3 with h3 | h3 <;> rw [h3] <;> rfl
theorem bitOf_eq (m k : Nat) : bitOf (m : Int) k = decide (m / 2 ^ (k % 64) % 2 = 1) := by
  unfold bitOf
  rw [Int.toNat_natCast, Nat.testBit_eq_decide_div_mod_eq]
section
variable {w : World} {Y : Lay} {T : BankT}
set_option maxHeartbeats 1000000
set_option maxRecDepth 100000
theorem crash_of (h : BankD w Y T) (inv : T.Inv) (hN : T.l.length ≠ 0) (mask : Int) (hm0 : 0 ≤ mask) (hm1 : mask < 18446744073709551616) (hS : SortsAll Y T w.heap.size) :
    Calls Tryd.prog 20 #[.pointer (some ⟨Y.A 0, 0, none⟩), .int .u64 mask] w fun e w' => e = .returned (.tuple #[]) ∧ BankD w' Y (T.crash mask) ∧ But (Y.In T.l.length) w w' := by
  have H := Lib.hid h
  have cd := h.b1
  by_cases hd : T.down = true
  · have E := Lib.hid (show T.crash mask = T by unfold BankT.crash; rw [if_pos hd])
    rw [hd] at cd
    clear h hd hS
    go_enter Tryd.func20, Tryd.ntmps20
    go_wp2
    refine bodyPost_ret (results_none rfl _ _ _) rfl ?_
    exact ⟨rfl, by rw [E.out]; exact H.out, But.refl _ _⟩
  · have E := Lib.hid (show T.crash mask = { BankT.settleL mask T.order 0 T with down := true, armed := 0 } by unfold BankT.crash; rw [if_neg hd])
    have hd' : T.down = false := by simpa using hd
    rw [hd'] at cd
    obtain ⟨m, rfl⟩ : ∃ m : Nat, mask = (m : Int) := ⟨mask.toNat, by omega⟩
    have ok := inv.ok
    have hN32 := ok.1
    have hin : ∀ b, Y.In T.l.length b → b < w.heap.size := fun b hb => h.lt hb
    have HIN := Lib.hid hin
    have HS := Lib.hid hS
    clear h hd hd' hS hin
    go_enter Tryd.func20, Tryd.ntmps20
    have c0 := H.out.b0 hN
    go_wp2_with (refine stop_at (o := ⟨some 4, _, _, _, _, _⟩) ?_)
    refine Stop.mk ?_
    refine wpList_alloc_one rfl _ rfl _ zero_all rfl ?_
    intro w1 hz1 hs1 hk1
    have HA1 : Hid (AllAt w1 w.heap.size w.heap.size Y (T.looseTo 0)) := Lib.hid ⟨.slice none 0 0, hz1.out, World.ownsRow_nil _ _ _ _⟩
    have HK1 := Lib.hid hk1
    clear hk1 hz1
    have c0' := HK1.out.cell' c0
    go_wp2
    go_loopw [18] (fun i wr => ∃ k : Nat, k ≤ T.l.length ∧ i = .int .i64 k ∧ Hid (AllAt wr w.heap.size w.heap.size Y (T.looseTo k)) ∧ Hid (Kept w wr) ∧ w.heap.size < wr.heap.size) (fun i _ => T.l.length - (intOf i).toNat)
    case atStart => exact ⟨0, Nat.zero_le _, rfl, HA1, HK1, hs1⟩
    case round =>
      obtain ⟨k, hk, rfl, HA, HK, hsr⟩ := hrel
      by_cases hlt : k < T.l.length
      · have cr := HK.out.cell' (H.out.r hlt)
        have hle := BankT.looseTo_le ok (Nat.le_of_lt hlt)
        go_wp2_with (refine stop_at (o := ⟨some 6, _, _, _, _, _⟩) ?_)
        refine Stop.mk ?_
        refine wpList_new_one rfl rfl _ _ rfl rfl size_ptr _ zero_ptr rfl (.pointer (some ⟨Y.A (2 + 4 * k), 0, none⟩)) rfl rfl rfl rfl ?_
        intro w2 hz hs hk2
        have cm := one_cell hz.out
        have HL := Lib.hid (collects_Crash (H.out.kept (HK.out.trans hk2)) ok hlt (HA.out.kept hk2) hz.out (Nat.le_refl _) (by omega) (HK.out.trans hk2).size HIN.out)
        have HK2 := Lib.hid (HK.out.trans hk2); clear hk2
        go_wp2_with fail
        refine Calls.mono HL.out ?_
        rintro e w3 ⟨rfl, h1, h2⟩
        have HA3 : Hid (AllAt w3 w.heap.size w.heap.size Y (T.looseTo (k + 1))) := Lib.hid (by rw [BankT.looseTo]; exact h1)
        have HK3 : Hid (Kept w w3) := Lib.hid (Below.trans HK2.out h2)
        have hs3 : w.heap.size < w3.heap.size := Nat.lt_of_lt_of_le (Nat.lt_trans hsr hs) h2.size
        clear h1 h2
        go_wp2
        go_roundw
        case rel => exact ⟨k + 1, hlt, by go_num, HA3, HK3, hs3⟩
        case measure => simp [intOf]; omega
      · have hkk : k = T.l.length := by omega
        subst hkk
        obtain ⟨v, hv1, hv2⟩ := HA.out
        have cv := one_cell hv1
        have HSS := Lib.hid (HS.out wr v (H.out.kept HK.out) HIN.out hv2)
        have hco : v.ownBlock ≠ some w.heap.size := own_other hv2 hv1 (by decide)
        have HV1 := Lib.hid hv1
        have hv2' := hv2
        clear hv1 hv2 HA
        go_wp2_with fail
        refine Calls.mono HSS.out ?_
        have hob : ∀ k, v.ownBlock = some k → w.heap.size ≤ k := fun k hk => own_base hv2' hk
        rintro e w4 ⟨rfl, ho4, hg4⟩
        have hlen : (T.looseTo T.l.length).length = T.order.length := (sortBy_perm _ _).length_eq.symm
        rw [hlen] at ho4
        have hK4 : Kept w w4 := Below.trans HK.out ⟨hg4.os, hg4.tape, hg4.output, hg4.size, fun k hk => hg4.block k (Nat.lt_trans hk hsr) (fun e => by have := hob k e.symm; omega)⟩
        have cv4 := one_cell ((hg4.block _ hsr (fun e => hco e.symm)).trans HV1.out)
        obtain ⟨ao, cap, rfl, hrd⟩ := own_form ho4
        have HRD := Lib.hid hrd
        have HK4 := Lib.hid hK4
        have HB4 := Lib.hid (H.out.kept hK4)
        have hol : T.order.length ≤ 131072 := by
          have := BankT.looseTo_le ok (Nat.le_refl _)
          rw [← hlen]; omega
        have HORD := Lib.hid (fun p hp => ((T.mem_order p).1 hp).1)
        clear hrd hK4 ho4 hg4 hob hco cv HV1 HSS HK hlen hv2'
        generalize hord : T.order = O at *
        have HO := Lib.hid hord; clear hord
        go_wp2
        go_loopw [32] (fun i wr => ∃ k : Nat, k ≤ O.length ∧ i = .int .i64 k ∧ Hid (BankD wr Y (BankT.settleL (m : Int) (O.take k) 0 T)) ∧ Hid (But (Y.In T.l.length) w4 wr)) (fun i _ => O.length - (intOf i).toNat)
        case atStart => exact ⟨0, Nat.zero_le _, rfl, HB4, Lib.hid (But.refl _ _)⟩
        case round =>
          obtain ⟨k, hk, rfl, HB, HU⟩ := hrel
          by_cases hlt : k < O.length
          · obtain ⟨g, rfl, hgb, hgs, hgc⟩ := HRD.out k hlt
            have hgn : ¬ Y.In T.l.length g := fun e => by have := HIN.out g e; omega
            have hgc' : Cells wr g (k * 2) [.pointer (some ⟨Y.A (2 + 4 * O[k].1), 0, none⟩), .int .i64 (O[k].2 : Int)] := fun j hj => HU.out.cell hgn (hgc j hj)
            obtain ⟨p1, p2⟩ : T.Has O[k] := HORD.out _ (List.getElem_mem hlt)
            generalize hq : O[k].1 = q at *
            generalize ha : O[k].2 = a at *
            have HQ := Lib.hid (And.intro hq ha); clear hq ha
            have HGC := Lib.hid hgc'; clear hgc hgc'
            go_wp2_with (refine stop_at (o := ⟨some 36, _, _, _, _, _⟩) ?_)
            refine Stop.mk ?_
            refine wpList_load_agg rfl _ rfl ty_loo g (k * 2) rfl _ HGC.out rfl ?_
            go_wp2_with (refine stop_at (o := ⟨some 8, _, _, _, _, _⟩) ?_)
            refine Stop.mk ?_
            refine wpList_alloc_abs rfl _ rfl _ zero_loo ?_
            intro w5 hz5 hs5 hn5 hk5
            go_wp2_with (refine stop_at (o := ⟨none, .store _ _ _, _, _, _, _⟩) ?_)
            refine Stop.mk ?_
            refine wpList_store_agg rfl _ _ rfl ty_loo wr.heap.size 0 rfl [.pointer (some ⟨Y.A (2 + 4 * q), 0, none⟩), .int .i64 (a : Int)] rfl rfl (by intro u hu; simp at hu; rcases hu with rfl | rfl <;> rfl) _ _ hz5.out (by simp) ?_
            intro w6 hw6
            replace hw6 := hw6.all rfl
            have x0 := cell_of_row _ _ 0 _ _ _ hw6.blk
            have x1 := cell_of_row _ _ 1 _ _ _ hw6.blk
            have hk6 : Kept wr w6 := hw6.kept hk5 (Nat.le_refl _)
            have HK6 := Lib.hid hk6; clear hk6 hw6 hz5 hs5 hn5 hk5
            go_wp2
            refine wp_still_tail 12 (by kernel_rfl) (by kernel_rfl) fun ws hks hhs => ?_
            have x0' := hks.cell' x0
            have x1' := hks.cell' x1
            simp only [List.take_succ_cons, List.take_zero, List.drop_succ_cons, List.drop_zero]
            have hbit : ((bits .and .u64 (((m / 2 ^ (k % 64) : Nat) : Int)) 1 : Int) == 1) = bitOf (m : Int) k := by
              rw [and1_bit _ (Nat.lt_of_le_of_lt (Nat.div_le_self _ _) (by omega)), bitOf_eq]
            have hTO : (BankT.settleL (m : Int) (O.take k) 0 T).Ok := BankT.Ok.settleL (m : Int) ok (fun p hp => HORD.out p (List.mem_of_mem_take hp))
            have hTL : (BankT.settleL (m : Int) (O.take k) 0 T).l.length = T.l.length := BankT.settleL_len _ _ _ _
            have hTS : ((BankT.settleL (m : Int) (O.take k) 0 T).d q).sin.length = (T.d q).sin.length := (BankT.settleL_dead (m : Int) (O.take k) 0 T q (fun p hp => HORD.out p (List.mem_of_mem_take hp))).2.2
            have hST : BankT.settleL (m : Int) (O.take (k + 1)) 0 T = (BankT.settleL (m : Int) (O.take k) 0 T).up q (((BankT.settleL (m : Int) (O.take k) 0 T).d q).settle a (bitOf (m : Int) k)) := by
              rw [List.take_add_one, List.getElem?_eq_getElem hlt, Option.toList_some, BankT.settleL_snoc, List.length_take, Nat.min_eq_left (Nat.le_of_lt hlt), Nat.zero_add, HQ.out.1, HQ.out.2]
            generalize BankT.settleL (m : Int) (O.take k) 0 T = Tk at *
            generalize bitOf (m : Int) k = bt at *
            have HST := Lib.hid hST; clear hST
            have HTO := Lib.hid hTO; clear hTO
            have hsh : ∀ ww, (Op.shift .shr .u64 (m : Int) .i64 ((k : Int).tmod 64)).run Tryd.prog ww = .ok (.int .u64 ((m / 2 ^ (k % 64) : Nat) : Int)) ww := fun ww => run_shr64 ww m k
            generalize m / 2 ^ (k % 64) = y at *
            iterate 12 still_step
            refine wpStill_nil ?_
            have HC := Lib.hid (med_settle (HB.out.kept (HK6.out.trans hks)) HTO.out (k := q) (a := a) (by rw [hTL]; exact p1) (by rw [hTS]; exact p2) bt)
            have hK := Lib.hid (HK6.out.trans hks)
            clear x0 x1 x0' x1' hks hhs hbit hsh
            go_wp2_with fail
            refine Calls.mono HC.out ?_
            rintro e w7 ⟨rfl, h1, h2⟩
            rw [← HST.out] at h1
            rw [hTL] at h2
            have HB7 := Lib.hid h1
            have HU7 := Lib.hid ((HU.out.keep hK.out).trans h2)
            clear h1 h2
            go_wp2
            go_roundw
            case rel => exact ⟨k + 1, hlt, by go_num, HB7, HU7⟩
            case measure => simp [intOf]; omega
          · have hkk : k = O.length := by omega
            subst hkk
            rw [List.take_length] at HB
            have hTL : (BankT.settleL (m : Int) O 0 T).l.length = T.l.length := BankT.settleL_len _ _ _ _
            have HE := Lib.hid (show T.crash (m : Int) = { BankT.settleL (m : Int) O 0 T with down := true, armed := 0 } by rw [E.out])
            generalize BankT.settleL (m : Int) O 0 T = Tk at *
            go_wp2_with (refine stop_at (o := ⟨none, .store 4 _ _, _, _, _, _⟩) ?_)
            refine Stop.mk ?_
            refine wpList_set_cell rfl _ _ rfl size_bool (Y.A 0) 1 rfl (.bool true) rfl rfl rfl _ _ HB.out.bank (by simp [bankVals]) ?_
            intro w5 hw5
            obtain ⟨B5, U5⟩ := HB.out.wrote_bank (T' := { Tk with down := true }) rfl hw5
            rw [hTL] at U5
            have HB5 := Lib.hid B5; have HU5 := Lib.hid (HU.out.trans U5); clear B5 U5 hw5
            go_wp2_with (refine stop_at (o := ⟨none, .store 3 _ _, _, _, _, _⟩) ?_)
            refine Stop.mk ?_
            refine wpList_set_cell rfl _ _ rfl size_int (Y.A 0) 4 rfl (.int .i64 0) rfl rfl rfl _ _ HB5.out.bank (by simp [bankVals]) ?_
            intro w6 hw6
            obtain ⟨B6, U6⟩ := HB5.out.wrote_bank (T' := { Tk with down := true, armed := 0 }) rfl hw6
            have HB6 := Lib.hid B6
            have HU6 : Hid (But (Y.In T.l.length) w w6) := Lib.hid (((But.kept HK4.out).trans HU5.out).trans (by rw [← hTL]; exact U6))
            clear B6 U6 hw6
            go_wp2
            go_end0
            exact ⟨rfl, by rw [HE.out]; exact HB6.out, HU6.out⟩
end
end Go.Proofs.YtpeclkhppgabfaaDoor
/- A disk.Bank: Crash sorts. -/
namespace Go.Proofs.YtpeclkhppgabfaaDoor
open Go.RowKit Go.Shelf Go.Lib Go.Sort
set_option linter.unusedVariables false
set_option linter.unusedSimpArgs false

section
variable {w : World} {Y : Lay} {T : BankT}
set_option maxHeartbeats 1000000
set_option maxRecDepth 100000
theorem closure_cmp (h : BankD w Y T) {x y : Nat × Nat} (hx : T.Has x) (hy : T.Has y) (hlx : (T.d x.1).sin.length ≤ 4096) (hly : (T.d y.1).sin.length ≤ 4096) :
    Calls Tryd.prog 45 #[.agg #[.pointer (some ⟨Y.A (2 + 4 * x.1), 0, none⟩), .int .i64 (x.2 : Int)], .agg #[.pointer (some ⟨Y.A (2 + 4 * y.1), 0, none⟩), .int .i64 (y.2 : Int)]] w fun e w' =>
      e = .returned (.int .i64 (Lib.compareInt (T.since x) (T.since y))) ∧ ∃ q os', w' = grow (w.drewN q) os' := by
  have hcon := fun W' => AnyG.cmp_Compare_int Tryd.cmpL (T.since x) (T.since y) W'
  change ∀ W', Calls Tryd.prog 46 _ _ _ at hcon
  have x2 := h.m2 hx.1
  have y2 := h.m2 hy.1
  have xs := h.cell_sin hx.1 hx.2
  have ys := h.cell_sin hy.1 hy.2
  change w.cell? _ = some (.int .i64 (T.since x)) at xs
  change w.cell? _ = some (.int .i64 (T.since y)) at ys
  have hx2 := hx.2
  have hy2 := hy.2
  have hlt : ∀ {p : Addr} {v : Value}, w.cell? p = some v → p.block < w.heap.size := fun h => World.block_lt_of_cell? _ _ h
  have hxb := hlt x2; have hyb := hlt y2; have hxs := hlt xs; have hys := hlt ys
  dsimp only at hxb hyb hxs hys
  obtain ⟨xk, xa⟩ := x
  obtain ⟨yk, ya⟩ := y
  dsimp only at *
  generalize T.since (xk, xa) = vx at *
  generalize T.since (yk, ya) = vy at *
  generalize (T.d xk).sin.length = nx at *
  generalize (T.d yk).sin.length = ny at *
  generalize Lib.compareInt vx vy = r at *
  have HC := Lib.hid hcon
  clear h hcon hx hy hlt
  go_enter Tryd.func45, Tryd.ntmps45
  have K := ((Kept.refl w).alloc (.cells #[.pointer (some ⟨Y.A (2 + 4 * xk), 0, none⟩), .int .i64 (xa : Int)] 93)).alloc (.cells #[.pointer (some ⟨Y.A (2 + 4 * yk), 0, none⟩), .int .i64 (ya : Int)] 93)
  have b1 := heap_alloc_new (w.alloc (.cells #[.pointer (some ⟨Y.A (2 + 4 * xk), 0, none⟩), .int .i64 (xa : Int)] 93)) (.cells #[.pointer (some ⟨Y.A (2 + 4 * yk), 0, none⟩), .int .i64 (ya : Int)] 93)
  have b0 := ((Kept.refl (w.alloc (.cells #[.pointer (some ⟨Y.A (2 + 4 * xk), 0, none⟩), .int .i64 (xa : Int)] 93))).alloc (.cells #[.pointer (some ⟨Y.A (2 + 4 * yk), 0, none⟩), .int .i64 (ya : Int)] 93)).block (heap_alloc_new w (.cells #[.pointer (some ⟨Y.A (2 + 4 * xk), 0, none⟩), .int .i64 (xa : Int)] 93))
  rw [World.size_alloc] at b1
  go_upto_region 1 with fail
  obtain ⟨W2, hW2⟩ : ∃ W2, W2 = (w.alloc (.cells #[.pointer (some ⟨Y.A (2 + 4 * xk), 0, none⟩), .int .i64 (xa : Int)] 93)).alloc (.cells #[.pointer (some ⟨Y.A (2 + 4 * yk), 0, none⟩), .int .i64 (ya : Int)] 93) := ⟨_, rfl⟩
  rw [← hW2] at K b0 b1 ⊢
  have HW := Lib.hid hW2; clear hW2
  have p0 := K.cell' x2
  have p1 := K.cell' y2
  have p2 := K.cell' xs
  have p3 := K.cell' ys
  have q0 : W2.cell? ⟨w.heap.size, 0, none⟩ = some (.pointer (some ⟨Y.A (2 + 4 * xk), 0, none⟩)) := cell_of_row _ _ 0 _ _ _ b0
  have q1 : W2.cell? ⟨w.heap.size, 1, none⟩ = some (.int .i64 (xa : Int)) := cell_of_row _ _ 1 _ _ _ b0
  have q2 : W2.cell? ⟨w.heap.size + 1, 0, none⟩ = some (.pointer (some ⟨Y.A (2 + 4 * yk), 0, none⟩)) := cell_of_row _ _ 0 _ _ _ b1
  have q3 : W2.cell? ⟨w.heap.size + 1, 1, none⟩ = some (.int .i64 (ya : Int)) := cell_of_row _ _ 1 _ _ _ b1
  clear K b0 b1 x2 y2 xs ys
  go_quiet (first | (go_at_call 46; refine Calls.quiet_of_same (HC.out _)))
  go_wp2
  go_ret
  exact ⟨rfl, nq, #[_, _], by rw [HW.out]; rfl⟩
end
end Go.Proofs.YtpeclkhppgabfaaDoor
/- A disk.Bank: Write, its counting given. -/
namespace Go.Proofs.YtpeclkhppgabfaaDoor
open Go.RowKit
set_option linter.unusedVariables false
set_option linter.unusedSimpArgs false

theorem BankT.inE_in {T : BankT} {k b : Nat} (hr : T.readyE (k : Int) = 0) (hb : b < (T.d k).sin.length) : T.inE (k : Int) (b : Int) = 0 := by
  unfold BankT.inE; rw [hr, if_neg (by decide), Int.toNat_natCast, if_neg (by omega)]
theorem BankT.inE_out {T : BankT} {k : Nat} (hr : T.readyE (k : Int) = 0) {a : Int} (hb : a < 0 ∨ ((T.d k).sin.length : Int) ≤ a) : T.inE (k : Int) a = 3 := by
  unfold BankT.inE; rw [hr, if_neg (by decide), Int.toNat_natCast, if_pos hb]
theorem BankT.inE_no {T : BankT} {d : Int} (hr : T.readyE d ≠ 0) (a : Int) : T.inE d a = T.readyE d := by
  unfold BankT.inE; rw [if_pos hr]
theorem BankT.readyE_ne {T : BankT} {d : Int} : (T.readyE d == 0) = decide (T.readyE d = 0) := by
  rw [Bool.eq_iff_iff]; simp
section
variable {w : World} {Y : Lay} {T : BankT}
set_option maxHeartbeats 1000000
set_option maxRecDepth 100000
/-- what Write does behind its counting: T is the bank then -/
def BankT.wrote (r : BankT × Bool) (d a : Int) (s : List Int) : BankT × Int :=
  if r.2 = false then (r.1, 6) else if r.1.inE d a = 0 then (r.1.put d.toNat a.toNat s, 0) else (r.1, r.1.inE d a)
theorem write_of (r : BankT × Bool) (h : BankD w Y T) (hl : r.1.l.length = T.l.length) (ok : r.1.Ok) (hN : T.l.length ≠ 0) (hc0 : 0 ≤ r.1.clock) (hc1 : r.1.clock < 1000000000) (d a : Int) {s : List Int} (hs : s.length = 64)
    (HC : ∀ w1, BankD w1 Y T → Calls Tryd.prog 39 #[.pointer (some ⟨Y.A 0, 0, none⟩)] w1 fun e w' => e = .returned (.bool r.2) ∧ BankD w' Y r.1 ∧ But (Y.In T.l.length) w1 w') :
    Calls Tryd.prog 17 #[.pointer (some ⟨Y.A 0, 0, none⟩), .agg #[.int .i64 d, .int .i64 a], .agg (u8s s).toArray] w fun e w' =>
      e = .returned (.int .i64 (BankT.wrote r d a s).2) ∧ BankD w' Y (BankT.wrote r d a s).1 ∧ But (Y.In T.l.length) w w' := by
  obtain ⟨T1, b⟩ := r
  have H := Lib.hid h
  have HC' := Lib.hid HC
  have hnot := h.not_in
  have hnot1 : ¬ Y.In T.l.length (w.heap.size + 1) := fun hi => by have := h.lt hi; omega
  clear h HC
  go_enter Tryd.func17, Tryd.ntmps17
  go_wp2_with fail
  refine Calls.mono (HC'.out _ (H.out.kept (((Kept.refl w).alloc _).alloc _))) ?_
  rintro e w1 ⟨rfl, hb, hu⟩
  have hU := (But.kept (S := Y.In T.l.length) (((Kept.refl w).alloc (.cells #[.int .i64 d, .int .i64 a] 36)).alloc (.cells (u8s s).toArray 39))).trans hu
  have g0 := hu.blk hnot (((Kept.refl (w.alloc (.cells #[.int .i64 d, .int .i64 a] 36))).alloc (.cells (u8s s).toArray 39)).block (heap_alloc_new w (.cells #[.int .i64 d, .int .i64 a] 36)))
  have g1 := hu.blk (by rw [World.size_alloc]; exact hnot1) (heap_alloc_new (w.alloc (.cells #[.int .i64 d, .int .i64 a] 36)) (.cells (u8s s).toArray 39))
  rw [World.size_alloc] at g1
  have p0 : w1.cell? ⟨w.heap.size, 0, none⟩ = some (.int .i64 d) := cell_of_row _ _ 0 _ _ _ g0
  have p1 : w1.cell? ⟨w.heap.size, 1, none⟩ = some (.int .i64 a) := cell_of_row _ _ 1 _ _ _ g0
  have HB := Lib.hid hb; have HU := Lib.hid hU; have HG := Lib.hid g1
  clear hb hu hU g0 g1 HC' H
  cases b with
  | false =>
    have e := Lib.hid (show BankT.wrote (T1, false) d a s = (T1, 6) from rfl)
    go_wp2
    go_ret
    exact ⟨by rw [e.out]; rfl, by rw [e.out]; exact HB.out, HU.out⟩
  | true =>
    replace hl : T1.l.length = T.l.length := hl
    replace ok : T1.Ok := ok
    replace hc0 : 0 ≤ T1.clock := hc0
    replace hc1 : T1.clock < 1000000000 := hc1
    have hN1 : T1.l.length ≠ 0 := by rw [hl]; exact hN
    have HR := Lib.hid (bank_ready HB.out hN1 d)
    by_cases hr : T1.readyE d = 0
    · obtain ⟨k, rfl, hk⟩ := BankT.readyE_in hr
      have HR2 := HR.out
      simp only [hr, if_true, Int.toNat_natCast] at HR2
      have HRR := Lib.hid HR2
      clear HR HR2
      by_cases hin : a < 0 ∨ ((T1.d k).sin.length : Int) ≤ a
      · have HI := Lib.hid (fun ww (hkk : Kept w1 ww) => (med_in (HB.out.kept hkk) hk a).mono (R' := fun e w' => e = .returned (.bool false) ∧ w' = ww) fun e w' ⟨he, hw⟩ => ⟨by rw [he]; simp; omega, hw.symm⟩)
        have E := Lib.hid (show BankT.wrote (T1, true) (k : Int) a s = (T1, 3) by unfold BankT.wrote; simp [BankT.inE_out hr hin])
        clear hr hin
        go_wp2_with fail
        refine Calls.mono HRR.out ?_
        rintro e w' ⟨rfl, rfl⟩
        go_upto_region 6 with fail
        go_quiet (first | (go_at_call 41; refine Calls.quiet_of_same (HI.out _ ((Kept.refl _).drewN _))))
        go_wp2
        go_ret
        exact ⟨by rw [E.out]; rfl, by rw [E.out]; exact HB.out.kept ((Kept.refl _).drewN _), HU.out.keep ((Kept.refl _).drewN _)⟩
      · obtain ⟨b, rfl, hb⟩ : ∃ b : Nat, a = (b : Int) ∧ b < (T1.d k).sin.length := ⟨a.toNat, by omega, by omega⟩
        have HI := Lib.hid (fun ww (hkk : Kept w1 ww) => (med_in (HB.out.kept hkk) hk (b : Int)).mono (R' := fun e w' => e = .returned (.bool true) ∧ w' = ww) fun e w' ⟨he, hw⟩ => ⟨by rw [he]; simp; omega, hw.symm⟩)
        have E := Lib.hid (show BankT.wrote (T1, true) (k : Int) (b : Int) s = (T1.put k b s, 0) by unfold BankT.wrote; simp [BankT.inE_in hr hb])
        clear hr hin
        have okd := ok.d hk
        have c1 := HB.out.m1 hk
        have c2 := HB.out.m2 hk
        have cs := HB.out.cell_sin hk hb
        have cb := HB.out.b2
        have nl := okd.new.1
        have hlen := okd.len
        have n24 : Y.A (2 + 4 * k) ≠ Y.A (4 + 4 * k) := HB.out.ne (by omega) (by omega) (by omega) (by omega)
        have n45 : Y.A (4 + 4 * k) ≠ Y.A (5 + 4 * k) := HB.out.ne (by omega) (by omega) (by omega) (by omega)
        have n04 : Y.A 0 ≠ Y.A (4 + 4 * k) := HB.out.ne (by omega) (by omega) (by omega) (by omega)
        have n02 : Y.A 0 ≠ Y.A (2 + 4 * k) := HB.out.ne (by omega) (by omega) (by omega) (by omega)
        have n05 : Y.A 0 ≠ Y.A (5 + 4 * k) := HB.out.ne (by omega) (by omega) (by omega) (by omega)
        have np4 : w.heap.size ≠ Y.A (4 + 4 * k) := fun e => hnot (e ▸ hl ▸ Y.in_ hk 4 (by decide) (by decide))
        have np0 : w.heap.size ≠ Y.A 0 := fun e => hnot (e ▸ Y.in0 _)
        have pn := Lib.hid (splice_flat (T1.d k).new (fun s hs => (okd.new.2 s hs).1) b (by omega) s hs)
        have qn := Lib.hid (secs_length (T1.d k).new (fun s hs => (okd.new.2 s hs).1))
        have EP := Lib.hid (show T1.put k b s = if (T1.d k).sin.getD b 0 = 0 then { T1.up k ((T1.d k).put b s (T1.clock + 1)) with clock := T1.clock + 1 } else T1.up k ((T1.d k).put b s ((T1.d k).sin.getD b 0)) from rfl)
        have hself : (T1.d k).sin.set b ((T1.d k).sin.getD b 0) = (T1.d k).sin := by
          apply List.ext_getElem (by simp)
          intro i h1 h2
          by_cases e : b = i
          · subst e; simp [hb]
          · simp [List.getElem_set, e]
        have HSELF := Lib.hid hself; clear hself
        generalize hx : (T1.d k).sin.getD b 0 = x at *
        go_wp2_with fail
        refine Calls.mono HRR.out ?_
        rintro e w' ⟨rfl, rfl⟩
        go_upto_region 6 with fail
        go_quiet (first | (go_at_call 41; refine Calls.quiet_of_same (HI.out _ ((Kept.refl _).drewN _))))
        go_wp2
        refine wp_still_tail 9 (by kernel_rfl) (by kernel_rfl) fun ws hks hhs => ?_
        have hkk : Kept w1 ws := ((Kept.refl _).drewN _).trans hks
        have c1' := hkk.cell' c1
        have q1 := hkk.cell' p1
        simp only [List.take_succ_cons, List.take_zero, List.drop_succ_cons, List.drop_zero]
        iterate 7 still_step
        refine still_load_agg rfl _ rfl ty_sec (w.heap.size + 1) 0 rfl (u8s s) ((by simpa using Cells.of_block HG.out : Cells w1 (w.heap.size + 1) 0 (u8s s)).kept hkk) (by rw [u8s_length, hs]) ?_
        iterate 1 still_step
        refine wpStill_nil ?_
        refine wpList_store_agg rfl _ _ rfl ty_sec (Y.A (4 + 4 * k)) (b * 64) rfl _ rfl (by rw [u8s_length, hs]) (u8s_one _) _ _ ((HB.out.kept hkk).new k hk) (by rw [qn.out, nl]; omega) ?_
        intro w2 hw2
        rw [pn.out] at hw2
        obtain ⟨B2, U2⟩ := (HB.out.kept hkk).wrote_new hk hw2
        rw [hl] at U2
        have d0 : w2.cell? ⟨w.heap.size, 1, none⟩ = some (.int .i64 (b : Int)) := (World.cell?_of_block (a := ⟨w.heap.size, 1, none⟩) (hw2.oth _ np4)).trans q1
        have HB2 := Lib.hid B2; have HU2 := Lib.hid ((HU.out.keep hkk).trans U2)
        clear B2 U2 hw2 c1' q1 hhs c1 cs
        have e2 := HB2.out.m2 (k := k) (by rw [BankT.up_len]; exact hk)
        have es := HB2.out.cell_sin (k := k) (by rw [BankT.up_len]; exact hk) (j := b) (by rw [BankT.up_self _ hk]; exact hb)
        rw [BankT.up_self _ hk] at e2 es
        simp only [hx] at e2 es
        have eb : w2.cell? ⟨Y.A 0, 2, none⟩ = some (.int .i64 T1.clock) := HB2.out.b2
        have hkl : k < (T1.up k { T1.d k with new := (T1.d k).new.set b s }).l.length := by rw [BankT.up_len]; exact hk
        by_cases hx0 : x = 0
        · subst hx0
          go_upto_region 9 with fail
          go_quiet (fail)
          go_wp2_with (refine stop_at (o := ⟨none, .store _ _ _, _, _, _, _⟩) ?_)
          refine Stop.mk ?_
          refine wpList_set_cell rfl _ _ rfl size_int (Y.A 0) 2 rfl (.int .i64 (T1.clock + 1)) rfl rfl rfl _ _ ((HB2.out.kept ((Kept.refl _).drewN _)).bank) (by simp [bankVals]) ?_
          intro w3 hw3
          obtain ⟨B3, U3⟩ := (HB2.out.kept ((Kept.refl _).drewN _)).wrote_bank (T' := { T1.up k { T1.d k with new := (T1.d k).new.set b s } with clock := T1.clock + 1 }) rfl hw3
          rw [BankT.up_len, hl] at U3
          have d3 : w3.cell? ⟨w.heap.size, 1, none⟩ = some (.int .i64 (b : Int)) := (World.cell?_of_block (a := ⟨w.heap.size, 1, none⟩) (hw3.oth _ np0)).trans d0
          have HB3 := Lib.hid B3; have HU3 := Lib.hid ((HU2.out.keep ((Kept.refl _).drewN _)).trans U3)
          clear B3 U3 hw3 d0 e2 es eb
          have f2 := HB3.out.m2 (k := k) hkl
          have fb := HB3.out.b2
          rw [BankT.d_clock, BankT.up_self _ hk] at f2
          have fb' : w3.cell? ⟨Y.A 0, 2, none⟩ = some (.int .i64 (T1.clock + 1)) := fb
          clear fb
          have HD3 := Lib.hid (show ({ T1.up k { T1.d k with new := (T1.d k).new.set b s } with clock := T1.clock + 1 } : BankT).d k = { T1.d k with new := (T1.d k).new.set b s } from BankT.up_self _ hk)
          go_wp2
          refine wp_still_tail 12 (by kernel_rfl) (by kernel_rfl) fun ws2 hks2 hhs2 => ?_
          have f2' := hks2.cell' f2
          have d3' := hks2.cell' d3
          have fb2 := hks2.cell' fb'
          simp only [List.take_succ_cons, List.take_zero, List.drop_succ_cons, List.drop_zero]
          iterate 12 still_step
          refine wpStill_nil ?_
          have hs3 := (HB3.out.kept hks2).sin k hkl
          rw [BankT.d_clock, BankT.up_self _ hk] at hs3
          refine wpList_set_cell rfl _ _ rfl size_int (Y.A (5 + 4 * k)) b rfl (.int .i64 (T1.clock + 1)) rfl rfl rfl _ _ hs3 (by rw [ints_length]; exact hb) ?_
          intro w4 hw4
          have hse : (ints (T1.d k).sin).set b (.int .i64 (T1.clock + 1)) = ints ((T1.d k).sin.set b (T1.clock + 1)) := by simp [ints]
          simp only [hse] at hw4
          obtain ⟨B4, U4⟩ := (HB3.out.kept hks2).wrote_sin (k := k) (l := (T1.d k).sin.set b (T1.clock + 1)) hkl (by rw [HD3.out, List.length_set]) hw4
          have hU4 : But (Y.In T.l.length) ws2 w4 := by
            have : (T1.up k { T1.d k with new := (T1.d k).new.set b s }).l.length = T.l.length := by rw [BankT.up_len, hl]
            rw [← this]; exact U4
          have HB4 := Lib.hid B4; have HU4 := Lib.hid ((HU3.out.keep hks2).trans hU4)
          clear B4 U4 hU4 hw4 f2' d3' fb2 f2 d3 fb' hs3 hse
          go_wp2
          go_ret
          refine ⟨by rw [E.out]; rfl, ?_, HU4.out⟩
          rw [E.out, EP.out, if_pos trivial]
          have := HB4.out
          rw [HD3.out] at this
          simpa [BankT.up, Med.put, List.set_set] using this
        · have hx1 : ((x : Int) == 0) = false := by simp [hx0]
          go_upto_region 9 with fail
          go_quiet (fail)
          go_wp2
          go_ret
          refine ⟨by rw [E.out]; rfl, ?_, HU2.out.keep ((Kept.refl _).drewN _)⟩
          rw [E.out, EP.out, if_neg hx0]
          have := HB2.out.kept ((Kept.refl _).drewN nq)
          rw [show (T1.d k).put b s x = { T1.d k with new := (T1.d k).new.set b s } by unfold Med.put; rw [HSELF.out]]
          exact this
    · have E := Lib.hid (show BankT.wrote (T1, true) d a s = (T1, T1.readyE d) by unfold BankT.wrote; simp [BankT.inE_no hr, hr])
      have HR2 := HR.out
      rw [if_neg hr] at HR2
      have HRR := Lib.hid HR2
      clear HR HR2
      generalize hr' : T1.readyE d = r at *
      have hr1 : ((r : Int) == 0) = false := by simp [hr]
      clear hr'
      go_wp2_with fail
      refine Calls.mono HRR.out ?_
      rintro e w' ⟨rfl, rfl⟩
      go_wp2
      go_ret
      exact ⟨by rw [E.out]; rfl, by rw [E.out]; exact HB.out, HU.out⟩
end
end Go.Proofs.YtpeclkhppgabfaaDoor
/- A disk.Bank: a write is counted, Crash given. -/
namespace Go.Proofs.YtpeclkhppgabfaaDoor
open Go.RowKit
set_option linter.unusedVariables false
set_option linter.unusedSimpArgs false

/-- Crash, as it is called -/
def Crashes (Y : Lay) (T : BankT) (mask : Int) : Prop := ∀ w1, BankD w1 Y T → Calls Tryd.prog 20 #[.pointer (some ⟨Y.A 0, 0, none⟩), .int .u64 mask] w1 fun e w' => e = .returned (.tuple #[]) ∧ BankD w' Y (T.crash mask) ∧ But (Y.In T.l.length) w1 w'
theorem BankT.tick1_no {T : BankT} {k : Nat} (h : ¬ 0 < (T.d k).fail) : T.tick1 k = T := by unfold BankT.tick1; rw [if_neg h]
theorem BankT.tick1_one {T : BankT} {k : Nat} (h : (T.d k).fail = 1) : T.tick1 k = (T.up k (T.d k).less).fell k := by unfold BankT.tick1; rw [if_pos (by omega), if_pos h]
theorem BankT.tick1_more {T : BankT} {k : Nat} (h : 1 < (T.d k).fail) : T.tick1 k = T.up k (T.d k).less := by unfold BankT.tick1; rw [if_pos (by omega), if_neg (by omega)]
section
variable {w : World} {Y : Lay} {T : BankT}
set_option maxHeartbeats 1000000
set_option maxRecDepth 100000
theorem counts_of (h : BankD w Y T) (inv : T.Inv) (hN : T.l.length ≠ 0) (hw1 : T.writes < 1000000000) (hC : T.down = false → 0 < T.armed → Crashes Y (T.tickTo T.l.length).arm1 T.mask) :
    Calls Tryd.prog 39 #[.pointer (some ⟨Y.A 0, 0, none⟩)] w fun e w' => e = .returned (.bool T.tick.2) ∧ BankD w' Y T.tick.1 ∧ But (Y.In T.l.length) w w' := by
  have H := Lib.hid h
  have cd := h.b1
  have cw := h.b3
  by_cases hd : T.down = true
  · have E := Lib.hid (show T.tick = (T, true) by unfold BankT.tick; rw [if_pos hd])
    rw [hd] at cd
    clear h hd hC
    go_enter Tryd.func39, Tryd.ntmps39
    go_wp2
    go_ret
    exact ⟨by rw [E.out]; rfl, by rw [E.out]; exact H.out, But.refl _ _⟩
  · have hd' : T.down = false := by simpa using hd
    rw [hd'] at cd
    have ok := inv.ok
    have hN32 := ok.1
    have hw0 := inv.wr
    have har := inv.ar
    have HC := Lib.hid (hC hd')
    have ED := Lib.hid (show T.tick = if 0 < (T.tickTo T.l.length).armed then (if (T.tickTo T.l.length).armed = 1 then ((T.tickTo T.l.length).arm1.crash (T.tickTo T.l.length).mask, false) else ((T.tickTo T.l.length).arm1, true)) else (T.tickTo T.l.length, true) by unfold BankT.tick; rw [if_neg hd])
    clear h hd hd' hC
    go_enter Tryd.func39, Tryd.ntmps39
    go_wp2_with (refine stop_at (o := ⟨none, .store _ _ _, _, _, _, _⟩) ?_)
    refine Stop.mk ?_
    refine wpList_set_cell rfl _ _ rfl size_int (Y.A 0) 3 rfl (.int .i64 (T.writes + 1)) rfl rfl rfl _ _ H.out.bank (by simp [bankVals]) ?_
    intro w1 hw1
    obtain ⟨B1, U1⟩ := H.out.wrote_bank (T' := T.tickTo 0) rfl hw1
    have HB1 := Lib.hid B1; have HU1 := Lib.hid U1; clear B1 U1 hw1
    have c0 := HB1.out.b0 (T := T.tickTo 0) hN
    have hl0 : (T.tickTo 0).l.length = T.l.length := rfl
    rw [hl0] at c0
    go_wp2
    go_loopw [21] (fun i wr => ∃ k : Nat, k ≤ T.l.length ∧ i = .int .i64 k ∧ Hid (BankD wr Y (T.tickTo k)) ∧ Hid (But (Y.In T.l.length) w wr)) (fun i _ => T.l.length - (intOf i).toNat)
    case atStart => exact ⟨0, Nat.zero_le _, rfl, HB1, HU1⟩
    case round =>
      obtain ⟨k, hk, rfl, HB, HU⟩ := hrel
      obtain ⟨cc, okk, _⟩ := BankT.tickTo_calmer ok hk
      have hlk := cc.len
      by_cases hlt : k < T.l.length
      · have HS := Lib.hid (show T.tickTo (k + 1) = (T.tickTo k).tick1 k from rfl)
        generalize T.tickTo k = Tk at *
        have hkk : k < Tk.l.length := by rw [hlk]; exact hlt
        have hNk : Tk.l.length ≠ 0 := by omega
        have cr := HB.out.r hkk
        have cf := HB.out.m4 hkk
        have okd := okk.d hkk
        have hf := okd.fail
        have HCC := Lib.hid cc; clear cc
        by_cases h0 : 0 < (Tk.d k).fail
        · have hfw : (Tk.d k).fail - 1 < 9223372036854775808 := by omega
          go_wp2_with (refine stop_at (o := ⟨none, .store _ _ _, _, _, _, _⟩) ?_)
          refine Stop.mk ?_
          refine wpList_set_cell rfl _ _ rfl size_int (Y.A (2 + 4 * k)) 4 rfl (.int .i64 ((Tk.d k).fail - 1)) rfl rfl rfl _ _ (HB.out.med k hkk) (by simp [medVals]) ?_
          intro w2 hw2
          obtain ⟨B2, U2⟩ := HB.out.wrote_med hkk (d := (Tk.d k).dead) (f := (Tk.d k).fail - 1) hw2
          rw [hlk] at U2
          have hkl2 : k < (Tk.up k (Tk.d k).less).l.length := by rw [BankT.up_len]; exact hkk
          have HB2 : Hid (BankD w2 Y (Tk.up k (Tk.d k).less)) := Lib.hid B2
          have HU2 := Lib.hid (HU.out.trans U2); clear B2 U2 hw2
          have cf2 := HB2.out.m4 hkl2
          rw [BankT.up_self _ hkk] at cf2
          have cf3 : w2.cell? ⟨Y.A (2 + 4 * k), 4, none⟩ = some (.int .i64 ((Tk.d k).fail - 1)) := cf2
          clear cf2
          by_cases h1 : (Tk.d k).fail = 1
          · have HF := Lib.hid (bank_Fail HB2.out (okk.up k (okd.less h0)) (by rw [BankT.up_len]; exact hNk) (k : Int))
            have EF := Lib.hid (show (Tk.up k (Tk.d k).less).failC (k : Int) = ((Tk.up k (Tk.d k).less).fell k, 0) by unfold BankT.failC; rw [if_neg (by rw [BankT.up_len]; omega), Int.toNat_natCast])
            have hbt : (((Tk.d k).fail - 1 : Int) == 0) = true := by rw [h1]; rfl
            go_wp2_with fail
            refine Calls.mono HF.out ?_
            rintro e w3 ⟨rfl, h3, h4⟩
            rw [EF.out] at h3
            rw [BankT.up_len, hlk] at h4
            have HB3 : Hid (BankD w3 Y (T.tickTo (k + 1))) := Lib.hid (by rw [HS.out, BankT.tick1_one h1]; exact h3)
            have HU3 := Lib.hid (HU2.out.trans h4); clear h3 h4
            go_wp2
            go_roundw
            case rel => exact ⟨k + 1, hlt, by go_num, HB3, HU3⟩
            case measure => simp [intOf]; omega
          · have HB3 : Hid (BankD w2 Y (T.tickTo (k + 1))) := Lib.hid (by rw [HS.out, BankT.tick1_more (by omega)]; exact HB2.out)
            have hbt : (((Tk.d k).fail - 1 : Int) == 0) = false := by simp; omega
            go_wp2
            go_roundw
            case rel => exact ⟨k + 1, hlt, by go_num, HB3, HU2⟩
            case measure => simp [intOf]; omega
        · have HB3 : Hid (BankD wr Y (T.tickTo (k + 1))) := Lib.hid (by rw [HS.out, BankT.tick1_no h0]; exact HB.out)
          go_wp2
          go_roundw
          case rel => exact ⟨k + 1, hlt, by go_num, HB3, HU⟩
          case measure => simp [intOf]; omega
      · have hkk : k = T.l.length := by omega
        subst hkk
        obtain ⟨_, _, _, har', hmk', _⟩ := BankT.tickTo_calmer ok (Nat.le_refl _)
        generalize T.tickTo T.l.length = Tk at *
        have ca := HB.out.b4
        have cm := HB.out.b5
        rw [har'] at ca
        by_cases h0 : 0 < T.armed
        · go_wp2_with (refine stop_at (o := ⟨none, .store _ _ _, _, _, _, _⟩) ?_)
          refine Stop.mk ?_
          refine wpList_set_cell rfl _ _ rfl size_int (Y.A 0) 4 rfl (.int .i64 (T.armed - 1)) rfl rfl rfl _ _ HB.out.bank (by simp [bankVals]) ?_
          intro w2 hw2
          obtain ⟨B2, U2⟩ := HB.out.wrote_bank (T' := Tk.arm1) rfl (by rw [show bankVals Y Tk.arm1 = (bankVals Y Tk).set 4 (.int .i64 (T.armed - 1)) by simp [bankVals, BankT.arm1, har']]; exact hw2)
          rw [hlk] at U2
          have HB2 := Lib.hid B2
          have HU2 := Lib.hid (HU.out.trans U2); clear B2 U2 hw2
          have ca2 : w2.cell? ⟨Y.A 0, 4, none⟩ = some (.int .i64 (T.armed - 1)) := by rw [HB2.out.b4]; simp [BankT.arm1, har']
          have cm2 : w2.cell? ⟨Y.A 0, 5, none⟩ = some (.int .u64 T.mask) := by rw [HB2.out.b5]; simp [BankT.arm1, hmk']
          by_cases h1 : T.armed = 1
          · have ET := Lib.hid (show T.tick = (Tk.arm1.crash T.mask, false) by rw [ED.out, if_pos (by rw [har']; exact h0), if_pos (by rw [har']; exact h1), hmk'])
            have HF := Lib.hid (HC.out h0 w2 HB2.out)
            have hbt : ((T.armed - 1 : Int) == 0) = true := by rw [h1]; rfl
            go_wp2_with fail
            refine Calls.mono HF.out ?_
            rintro e w3 ⟨rfl, h3, h4⟩
            rw [show Tk.arm1.l.length = T.l.length from hlk] at h4
            have HB3 := Lib.hid h3
            have HU3 := Lib.hid (HU2.out.trans h4); clear h3 h4
            go_wp2
            go_ret
            exact ⟨by rw [ET.out]; rfl, by rw [ET.out]; exact HB3.out, HU3.out⟩
          · have ET := Lib.hid (show T.tick = (Tk.arm1, true) by rw [ED.out, if_pos (by rw [har']; exact h0), if_neg (by rw [har']; exact h1)])
            have hbt : ((T.armed - 1 : Int) == 0) = false := by simp; omega
            go_wp2
            go_ret
            exact ⟨by rw [ET.out]; rfl, by rw [ET.out]; exact HB2.out, HU2.out⟩
        · have ET := Lib.hid (show T.tick = (Tk, true) by rw [ED.out, if_neg (by rw [har']; exact h0)])
          go_wp2
          go_ret
          exact ⟨by rw [ET.out]; rfl, by rw [ET.out]; exact HB.out, HU.out⟩
end
end Go.Proofs.YtpeclkhppgabfaaDoor
