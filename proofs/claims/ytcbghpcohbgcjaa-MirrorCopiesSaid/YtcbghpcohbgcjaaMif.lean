/- law12: sector, laid. -/
import Derived.Test.YtcbghpcohbgcjaaMid
import Derived.Test.YtcbghpcohbgcjaaDlw
namespace Go.Proofs.Ytcbghpcohbgcjaa
open Go.RowKit
set_option linter.unusedVariables false
set_option linter.unusedSimpArgs false

section
variable {w : World}
set_option maxHeartbeats 1000000
set_option maxRecDepth 100000
theorem m_sector (n : Int) (w : World) : Calls Try.prog 32 #[.int .i64 n] w fun e w' => e = .returned (.agg (u8s (secN n)).toArray) ∧ Kept w w' := by
  go_enter Try.func32, Try.ntmps32
  go_wp2_with (refine stop_at (o := ⟨some 2, _, _, _, _, _⟩) ?_)
  refine Stop.mk ?_
  refine wpList_alloc_abs rfl 36 rfl (u8s zeroB) zero_sec ?_
  intro w1 hz hs hn hk1
  go_wp2_with (refine stop_at (o := ⟨none, .store _ _ _, _, _, _, _⟩) ?_)
  refine Stop.mk ?_
  refine wpList_store_agg rfl _ _ rfl ty_sec w.heap.size 0 rfl (u8s (secN n)) rfl (by rw [u8s_length, secN_len]) (u8s_one _) (u8s zeroB) 36 hz.out (by simp [u8s_length, zeroB_length]) ?_
  intro w3 hw3
  replace hw3 := hw3.all (by rw [u8s_length, u8s_length, secN_len]; rfl)
  have hkw := Lib.hid (hw3.kept hk1 (Nat.le_refl _))
  have hw3' := Lib.hid hw3; clear hw3
  go_wp2
  refine bodyPost_ret (results_sec1 rfl _ _ w.heap.size (secN n) rfl hw3'.out.cells (secN_len n)) rfl ⟨rfl, hkw.out⟩
theorem m_laid (n : Nat) (hn : n ≤ 31) (w0 W : World) (R : Nat → Prop) (hk : Kept w0 W) (hR : ∀ k, R k → k < W.heap.size) : Calls Try.prog 31 #[.int .i64 (n : Int)] W fun e w' => ∃ q, e = .returned (.pointer (some ⟨q, 0, none⟩)) ∧ BK w0 R w' q (addZ 12 n) ∧ SameR R W w' := by
  have HN := Lib.hid (bk_New w0 W R hk hR)
  have HR := Lib.hid hR
  clear hk hR
  go_enter Try.func31, Try.ntmps31
  go_wp2_with fail
  refine Calls.mono HN.out ?_
  rintro e w1 ⟨q, rfl, hb, hk1⟩
  have HB := Lib.hid hb
  have HS : Hid (SameR R W w1) := Lib.hid (fun k hk => hk1.block_eq (HR.out k hk))
  clear hb hk1
  go_wp2
  go_loopw [4] (fun i wr => ∃ k : Nat, k ≤ n ∧ i = .int .i64 k ∧ Hid (BK w0 R wr q (addZ 12 k)) ∧ Hid (SameR R W wr)) (fun i _ => n - (intOf i).toNat)
  case atStart => exact ⟨0, by omega, rfl, HB, HS⟩
  case round =>
    obtain ⟨k, hk, rfl, HB, HS⟩ := hrel
    by_cases hlt : k < n
    · have HA := bk_Add HB.out (by rw [addZ_len]; omega) 12 (by decide) (by decide)
      rw [addZ_len] at HA
      have HAD := Lib.hid HA; clear HA
      go_wp2_with fail
      refine Calls.mono HAD.out ?_
      rintro e w2 ⟨rfl, h1, h2⟩
      have HB2 : Hid (BK w0 R w2 q (addZ 12 (k + 1))) := Lib.hid h1
      have HS2 := Lib.hid (HS.out.trans h2); clear h1 h2
      go_wp2
      go_roundw
      case rel => exact ⟨k + 1, hlt, by go_num, HB2, HS2⟩
      case measure => simp [intOf]; omega
    · have hk3 : k = n := by omega
      subst hk3
      go_wp2
      go_ret
      exact ⟨q, rfl, HB.out, HS.out⟩
end
end Go.Proofs.Ytcbghpcohbgcjaa
