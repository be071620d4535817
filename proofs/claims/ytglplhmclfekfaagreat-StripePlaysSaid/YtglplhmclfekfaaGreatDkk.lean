/- A disk.Bank: Read. -/
import Derived.Test.YtglplhmclfekfaaGreatDkh
import Derived.Deep.QuietTactic
import Derived.BigQuiet
import Derived.Deep.CutBlock
import Derived.Deep.DeepCutAuto
namespace Go.Proofs.YtglplhmclfekfaaGreat
open Go.RowKit
set_option linter.unusedVariables false
set_option linter.unusedSimpArgs false

theorem BankT.readyE_in {T : BankT} {d : Int} (h : T.readyE d = 0) : ∃ k : Nat, d = (k : Int) ∧ k < T.l.length := by
  unfold BankT.readyE at h
  split at h
  · omega
  · exact ⟨d.toNat, by omega, by omega⟩
section
variable {w : World} {Y : Lay} {T : BankT}
set_option maxHeartbeats 1000000
set_option maxRecDepth 100000
theorem bank_Read (h : BankD w Y T) (ok : T.Ok) (hN : T.l.length ≠ 0) (d a : Int) : Calls Tryz.prog 13 #[.pointer (some ⟨Y.A 0, 0, none⟩), .agg #[.int .i64 d, .int .i64 a]] w fun e w' =>
    e = .returned (.tuple #[.agg (u8s (T.read d a).1).toArray, .int .i64 (T.read d a).2]) ∧ Kept w w' := by
  have hR := fun w1 (hk : Kept w w1) => bank_ready (h.kept hk) hN d
  by_cases hr : T.readyE d = 0
  · obtain ⟨k, rfl, hk⟩ := BankT.readyE_in hr
    simp only [hr, if_true, Int.toNat_natCast] at hR
    by_cases hin : a < 0 ∨ ((T.d k).sin.length : Int) ≤ a
    · have hi := fun w1 (hkk : Kept w w1) => (med_in (h.kept hkk) hk a).mono (R' := fun e w' => e = .returned (.bool false) ∧ w' = w1) fun e w' ⟨he, hw⟩ => ⟨by rw [he]; simp; omega, hw.symm⟩
      have e : T.read (k : Int) a = (zeroB, 3) := by
        have : T.inE (k : Int) a = 3 := by unfold BankT.inE; rw [hr, if_neg (by decide), Int.toNat_natCast, if_pos hin]
        unfold BankT.read; rw [this]; rfl
      rw [e]
      have HR := Lib.hid hR; have HI := Lib.hid hi; have H := Lib.hid h
      clear hR hi h e hr hin
      go_enter Tryz.func13, Tryz.ntmps13
      go_wp2_with (refine stop_at (o := ⟨some 4, _, _, _, _, _⟩) ?_)
      refine Stop.mk ?_
      refine wpList_alloc_abs rfl 43 rfl (u8s zeroB) zero_sec ?_
      intro w1 hz hs hn hk1
      have hb := hk1.block (heap_alloc_new w _)
      have p0 : w1.cell? ⟨w.heap.size, 0, none⟩ = some (.int .i64 (k : Int)) := cell_of_row _ _ 0 _ _ _ hb
      have p1 : w1.cell? ⟨w.heap.size, 1, none⟩ = some (.int .i64 a) := cell_of_row _ _ 1 _ _ _ hb
      have K := Lib.hid (((Kept.refl w).alloc _).trans hk1)
      have hzs : (w.alloc (Obj.cells #[Value.int IntKind.i64 (k : Int), Value.int IntKind.i64 a] 47)).heap.size = w.heap.size + 1 := World.size_alloc _ _
      rw [hzs] at hz hs hn
      clear hb hk1 hzs
      go_wp2_with fail
      refine Calls.mono (HR.out _ K.out) ?_
      rintro e w' ⟨rfl, rfl⟩
      go_upto_region 4 with fail
      go_quiet (first | (go_at_call 50; refine Calls.quiet_of_same (HI.out _ (K.out.drewN _))))
      go_wp2_with (refine stop_at (o := ⟨none, .store _ _ _, _, _, _, _⟩) ?_)
      refine Stop.mk ?_
      refine wpList_store_agg rfl _ _ rfl ty_sec (w.heap.size + 1) 0 rfl (u8s zeroB) rfl (by simp [u8s_length, zeroB_length]) (u8s_one _) (u8s zeroB) 43 hz.out (by simp [u8s_length, zeroB_length]) ?_
      intro w3 hw3
      replace hw3 := hw3.all rfl
      have hkw := Lib.hid (hw3.kept (K.out.drewN nq) (by omega))
      have hw3' := Lib.hid hw3; clear hw3
      go_wp2
      refine bodyPost_ret (results_sec rfl _ _ (w.heap.size + 1) zeroB rfl hw3'.out.cells zeroB_length) rfl ⟨rfl, hkw.out⟩
    · obtain ⟨b, rfl, hb⟩ : ∃ b : Nat, a = (b : Int) ∧ b < (T.d k).sin.length := ⟨a.toNat, by omega, by omega⟩
      have hi := fun w1 (hkk : Kept w w1) => (med_in (h.kept hkk) hk (b : Int)).mono (R' := fun e w' => e = .returned (.bool true) ∧ w' = w1) fun e w' ⟨he, hw⟩ => ⟨by rw [he]; simp; omega, hw.symm⟩
      have e : T.read (k : Int) (b : Int) = ((T.d k).new.getD b [], 0) := by
        have : T.inE (k : Int) (b : Int) = 0 := by unfold BankT.inE; rw [hr, if_neg (by decide), Int.toNat_natCast, if_neg hin]
        unfold BankT.read; rw [this, if_pos rfl, Int.toNat_natCast, Int.toNat_natCast]
      rw [e]
      have okd := ok.d hk
      have ls := okd.new.at hb
      have nl := okd.new.1
      have hlen := okd.len
      have sn := cells_sec (Cells.of_block (h.new k hk)).left (fun s hs => (okd.new.2 s hs).1) (show b < (T.d k).new.length by omega)
      have c1 := h.m1 hk
      generalize (T.d k).new.getD b [] = xs at *
      have HR := Lib.hid hR; have HI := Lib.hid hi; have LS := Lib.hid ls.1; have SN := Lib.hid sn
      clear hR hi h e hr hin ok okd ls nl sn
      go_enter Tryz.func13, Tryz.ntmps13
      go_wp2_with (refine stop_at (o := ⟨some 4, _, _, _, _, _⟩) ?_)
      refine Stop.mk ?_
      refine wpList_alloc_abs rfl 43 rfl (u8s zeroB) zero_sec ?_
      intro w1 hz hs hn hk1
      have hb := hk1.block (heap_alloc_new w _)
      have p0 : w1.cell? ⟨w.heap.size, 0, none⟩ = some (.int .i64 (k : Int)) := cell_of_row _ _ 0 _ _ _ hb
      have p1 : w1.cell? ⟨w.heap.size, 1, none⟩ = some (.int .i64 (b : Int)) := cell_of_row _ _ 1 _ _ _ hb
      have K := Lib.hid (((Kept.refl w).alloc _).trans hk1)
      have hzs : (w.alloc (Obj.cells #[Value.int IntKind.i64 (k : Int), Value.int IntKind.i64 (b : Int)] 47)).heap.size = w.heap.size + 1 := World.size_alloc _ _
      rw [hzs] at hz hs hn
      clear hb hk1 hzs
      go_wp2_with fail
      refine Calls.mono (HR.out _ K.out) ?_
      rintro e w' ⟨rfl, rfl⟩
      go_upto_region 4 with fail
      go_quiet (first | (go_at_call 50; refine Calls.quiet_of_same (HI.out _ (K.out.drewN _))))
      go_wp2
      refine wp_still_tail 9 (by kernel_rfl) (by kernel_rfl) fun ws hks hhs => ?_
      have c1' := (((K.out.drewN nq).trans hks).cell' c1)
      have q1 : ws.cell? ⟨w.heap.size, 1, none⟩ = some (.int .i64 (b : Int)) := (hks.cell' (a := w1.drewN nq) p1)
      simp only [List.take_succ_cons, List.take_zero, List.drop_succ_cons, List.drop_zero]
      iterate 8 still_step
      refine still_load_agg rfl _ rfl ty_sec (Y.A (4 + 4 * k)) (b * 64) rfl _ (SN.out.kept ((K.out.drewN nq).trans hks)) (by rw [u8s_length, LS.out]) ?_
      refine wpStill_nil ?_
      refine wpList_store_agg rfl _ _ rfl ty_sec (w.heap.size + 1) 0 rfl (u8s xs) rfl (by rw [u8s_length, LS.out]) (u8s_one _) (u8s zeroB) 43 ((congrArg (·[w.heap.size + 1]?) hhs).trans hz.out) (by simp [u8s_length, zeroB_length]) ?_
      intro w3 hw3
      replace hw3 := hw3.all (by rw [u8s_length, u8s_length, LS.out]; rfl)
      have hkw := Lib.hid (hw3.kept ((K.out.drewN nq).trans hks) (by omega))
      have hw3' := Lib.hid hw3; clear hw3 hhs c1' q1
      go_wp2
      refine bodyPost_ret (results_sec rfl _ _ (w.heap.size + 1) xs rfl hw3'.out.cells LS.out) rfl ⟨rfl, hkw.out⟩
  · simp only [if_neg hr] at hR
    have e : T.read d a = (zeroB, T.readyE d) := by
      have : T.inE d a = T.readyE d := by unfold BankT.inE; rw [if_pos hr]
      unfold BankT.read; rw [this, if_neg hr]
    rw [e]
    have HR := Lib.hid hR
    clear hR h e
    generalize T.readyE d = r at *
    go_enter Tryz.func13, Tryz.ntmps13
    go_wp2_with (refine stop_at (o := ⟨some 4, _, _, _, _, _⟩) ?_)
    refine Stop.mk ?_
    refine wpList_alloc_abs rfl 43 rfl (u8s zeroB) zero_sec ?_
    intro w1 hz hs hn hk1
    have hb := hk1.block (heap_alloc_new w _)
    have p0 : w1.cell? ⟨w.heap.size, 0, none⟩ = some (.int .i64 d) := cell_of_row _ _ 0 _ _ _ hb
    have p1 : w1.cell? ⟨w.heap.size, 1, none⟩ = some (.int .i64 a) := cell_of_row _ _ 1 _ _ _ hb
    have K := Lib.hid (((Kept.refl w).alloc _).trans hk1)
    have hzs : (w.alloc (Obj.cells #[Value.int IntKind.i64 d, Value.int IntKind.i64 a] 47)).heap.size = w.heap.size + 1 := World.size_alloc _ _
    rw [hzs] at hz hs hn
    clear hb hk1 hzs
    go_wp2_with fail
    refine Calls.mono (HR.out _ K.out) ?_
    rintro e w' ⟨rfl, rfl⟩
    go_wp2_with (refine stop_at (o := ⟨none, .store _ _ _, _, _, _, _⟩) ?_)
    refine Stop.mk ?_
    refine wpList_store_agg rfl _ _ rfl ty_sec (w.heap.size + 1) 0 rfl (u8s zeroB) rfl (by simp [u8s_length, zeroB_length]) (u8s_one _) (u8s zeroB) 43 hz.out (by simp [u8s_length, zeroB_length]) ?_
    intro w3 hw3
    replace hw3 := hw3.all rfl
    have hkw := Lib.hid (hw3.kept K.out (by omega))
    have hw3' := Lib.hid hw3; clear hw3
    go_wp2
    refine bodyPost_ret (results_sec rfl _ _ (w.heap.size + 1) zeroB rfl hw3'.out.cells zeroB_length) rfl ⟨rfl, hkw.out⟩
end
end Go.Proofs.YtglplhmclfekfaaGreat
