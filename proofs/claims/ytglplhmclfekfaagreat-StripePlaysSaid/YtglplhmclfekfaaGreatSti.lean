/- law13: sector, laid, row. -/
import Derived.Test.YtglplhmclfekfaaGreatStz
import Derived.Test.YtglplhmclfekfaaGreatDlw
namespace Go.Proofs.YtglplhmclfekfaaGreat
open Go.RowKit
set_option linter.unusedVariables false
set_option linter.unusedSimpArgs false

def rowL (n : Nat) : List (Int × Int) := (List.range n).map fun (i : Nat) => ((i : Int), (i : Int))
theorem rowL_len (n : Nat) : (rowL n).length = n := by simp [rowL]
theorem rowL_succ (n : Nat) : rowL (n + 1) = rowL n ++ [((n : Int), (n : Int))] := by simp [rowL, List.range_succ]
theorem ty_extsS : ElemT Tryz.prog 22 64 2 16 := by
  refine ⟨Tryz.underlying22, ?_, by decide⟩
  have h1 : (Tryz.prog.info? 64).map (fun i => (i.zero, i.size, i.bytes)) = some (some (.agg #[.int .i64 0, .int .i64 0]), 2, 16) := by kernel_rfl
  cases hi : Tryz.prog.info? 64 with
  | none => simp [hi] at h1
  | some i =>
    simp [hi] at h1
    exact ⟨i, _, rfl, h1.1, h1.2.1, h1.2.2, rfl⟩
section
variable {w : World}
set_option maxHeartbeats 1000000
set_option maxRecDepth 100000
theorem s_sector (n : Int) (w : World) : Calls Tryz.prog 20 #[.int .i64 n] w fun e w' => e = .returned (.agg (u8s (secN n)).toArray) ∧ Kept w w' := by
  go_enter Tryz.func20, Tryz.ntmps20
  go_wp2_with (refine stop_at (o := ⟨some 2, _, _, _, _, _⟩) ?_)
  refine Stop.mk ?_
  refine wpList_alloc_abs rfl 43 rfl (u8s zeroB) zero_sec ?_
  intro w1 hz hs hn hk1
  go_wp2_with (refine stop_at (o := ⟨none, .store _ _ _, _, _, _, _⟩) ?_)
  refine Stop.mk ?_
  refine wpList_store_agg rfl _ _ rfl ty_sec w.heap.size 0 rfl (u8s (secN n)) rfl (by rw [u8s_length, secN_len]) (u8s_one _) (u8s zeroB) 43 hz.out (by simp [u8s_length, zeroB_length]) ?_
  intro w3 hw3
  replace hw3 := hw3.all (by rw [u8s_length, u8s_length, secN_len]; rfl)
  have hkw := Lib.hid (hw3.kept hk1 (Nat.le_refl _))
  have hw3' := Lib.hid hw3; clear hw3
  go_wp2
  refine bodyPost_ret (results_sec1 rfl _ _ w.heap.size (secN n) rfl hw3'.out.cells (secN_len n)) rfl ⟨rfl, hkw.out⟩
theorem s_laid (n : Nat) (hn : n ≤ 31) (w0 W : World) (R : Nat → Prop) (hk : Kept w0 W) (hR : ∀ k, R k → k < W.heap.size) : Calls Tryz.prog 5 #[.int .i64 (n : Int)] W fun e w' => ∃ q, e = .returned (.pointer (some ⟨q, 0, none⟩)) ∧ BK w0 R w' q (addZ 20 n) ∧ SameR R W w' := by
  have HN := Lib.hid (bk_New w0 W R hk hR)
  have HR := Lib.hid hR
  clear hk hR
  go_enter Tryz.func5, Tryz.ntmps5
  go_wp2_with fail
  refine Calls.mono HN.out ?_
  rintro e w1 ⟨q, rfl, hb, hk1⟩
  have HB := Lib.hid hb
  have HS : Hid (SameR R W w1) := Lib.hid (fun k hk => hk1.block_eq (HR.out k hk))
  clear hb hk1
  go_wp2
  go_loopw [4] (fun i wr => ∃ k : Nat, k ≤ n ∧ i = .int .i64 k ∧ Hid (BK w0 R wr q (addZ 20 k)) ∧ Hid (SameR R W wr)) (fun i _ => n - (intOf i).toNat)
  case atStart => exact ⟨0, by omega, rfl, HB, HS⟩
  case round =>
    obtain ⟨k, hk, rfl, HB, HS⟩ := hrel
    by_cases hlt : k < n
    · have HA := bk_Add HB.out (by rw [addZ_len]; omega) 20 (by decide) (by decide)
      rw [addZ_len] at HA
      have HAD := Lib.hid HA; clear HA
      go_wp2_with fail
      refine Calls.mono HAD.out ?_
      rintro e w2 ⟨rfl, h1, h2⟩
      have HB2 : Hid (BK w0 R w2 q (addZ 20 (k + 1))) := Lib.hid h1
      have HS2 := Lib.hid (HS.out.trans h2); clear h1 h2
      go_wp2
      go_roundw
      case rel => exact ⟨k + 1, hlt, by go_num, HB2, HS2⟩
      case measure => simp [intOf]; omega
    · have hk3 : k = n := by omega
      subst hk3
      go_wp2
      go_ret
      exact ⟨q, rfl, HB.out, HS.out⟩
theorem s_row (n : Nat) (hn : n ≤ 12) (W : World) : Calls Tryz.prog 15 #[.int .i64 (n : Int)] W fun e w' => ∃ v, e = .returned v ∧ w'.ownsRow W.heap.size 64 2 v n (evals (rowL n)) ∧ Kept W w' := by
  go_enter Tryz.func15, Tryz.ntmps15
  go_wp2
  go_loopw [3, 4] (fun v i wr => ∃ k : Nat, k ≤ n ∧ i = .int .i64 k ∧ Hid (wr.ownsRow W.heap.size 64 2 v k (evals (rowL k))) ∧ Hid (Kept W wr)) (fun _ i _ => n - (intOf i).toNat)
  case atStart => exact ⟨0, Nat.zero_le _, rfl, Lib.hid (World.ownsRow_nil _ _ _ _), Lib.hid (Kept.refl _)⟩
  case round =>
    obtain ⟨k, hk, rfl, HO, HK⟩ := hrel
    obtain ⟨oa, cap, rfl⟩ := ownsRow_form1 HO.out
    by_cases hlt : k < n
    · go_wp2_with (refine stop_at (o := ⟨some 15, _, _, _, _, _⟩) ?_)
      refine Stop.mk ?_
      obtain ⟨ht', ⟨i1, z1, hi, hz, hsz', hby, hzs⟩, hpos⟩ := ty_extsS
      refine wpList_append_own_wide _ rfl _ _ 22 rfl W.heap.size 64 i1 z1 2 16 ht' hi hz hsz' hby hzs (by decide) _ k (evals (rowL k)) rfl (HO.out.alloc _) ⟨wr.heap.size, 0, none⟩ 1 1 [.int .i64 (k : Int), .int .i64 (k : Int)] rfl rfl (two_new _ _ _ _) (evals_one [((k : Int), (k : Int))]) (by have : maxLen = 9223372036854775807 := rfl; omega) (by omega) (by have := HK.out.size; rw [World.size_alloc]; omega) ?_
      intro v4 w4 hown hgrow _
      have HK4 : Hid (Kept W w4) := Lib.hid ((HK.out.alloc _).grown hgrow (fun j ej => row_ge HO.out ej))
      have HO4 : Hid (w4.ownsRow W.heap.size 64 2 v4 (k + 1) (evals (rowL (k + 1)))) := Lib.hid (by rw [rowL_succ, evals_append]; exact hown)
      clear hown hgrow HO HK ht' hi hz hsz' hby hzs hpos
      go_wp2
      go_roundw
      case rel => exact ⟨k + 1, hlt, by go_num, HO4, HK4⟩
      case measure => simp [intOf]; omega
    · have hk3 : k = n := by omega
      subst hk3
      go_wp2
      go_ret
      exact ⟨_, rfl, HO.out, HK.out⟩
end
end Go.Proofs.YtglplhmclfekfaaGreat
