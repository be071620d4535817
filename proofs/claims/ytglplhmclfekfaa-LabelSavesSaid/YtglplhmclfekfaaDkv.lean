/- law03: sector, laid. -/
import Derived.Test.YtglplhmclfekfaaDku
namespace Go.Proofs.Ytglplhmclfekfaa
open Go.RowKit
set_option linter.unusedVariables false
set_option linter.unusedSimpArgs false

theorem results_sec1 {fn : Func} {p : Tmp} (h : fn.results = #[.cell p 34]) (tmps : Array Value) (w : World) (b : Nat) (bs : List Int)
    (hp : tmps.getD p undef = .pointer (some ⟨b, 0, none⟩)) (hc : Cells w b 0 (u8s bs)) (hl : bs.length = 64) :
    (results fn tmps).run Try.prog w = .ok (secV bs) w := by
  obtain ⟨⟨d, hd1, hd2⟩, hs⟩ := ty_sec
  have hp' : tmps[p]?.getD undef = .pointer (some ⟨b, 0, none⟩) := by simpa using hp
  have hr := run_loadVar_mid (P := Try.prog) w b 0 34 (u8s bs) d (rangeAt_of_cells hc) hd1 hd2 (by rw [hs, u8s_length, hl])
  simp [results, h, hp', asAddr, hr, secV]
/-- a bank of k disks of eight sectors -/
def addN : Nat → BankT
  | 0 => BankT.zero
  | k + 1 => (addN k).add 8
theorem addN_len : ∀ k, (addN k).l.length = k
  | 0 => rfl
  | k + 1 => by rw [addN, BankT.add_len, addN_len k]
section
variable {w : World}
set_option maxHeartbeats 1000000
set_option maxRecDepth 100000
theorem law_sector (n : Int) (w : World) : Calls Try.prog 11 #[.int .i64 n] w fun e w' => e = .returned (.agg (u8s (secN n)).toArray) ∧ Kept w w' := by
  go_enter Try.func11, Try.ntmps11
  go_wp2_with (refine stop_at (o := ⟨some 2, _, _, _, _, _⟩) ?_)
  refine Stop.mk ?_
  refine wpList_alloc_abs rfl 34 rfl (u8s zeroB) zero_sec ?_
  intro w1 hz hs hn hk1
  go_wp2_with (refine stop_at (o := ⟨none, .store _ _ _, _, _, _, _⟩) ?_)
  refine Stop.mk ?_
  refine wpList_store_agg rfl _ _ rfl ty_sec w.heap.size 0 rfl (u8s (secN n)) rfl (by rw [u8s_length, secN_len]) (u8s_one _) (u8s zeroB) 34 hz.out (by simp [u8s_length, zeroB_length]) ?_
  intro w3 hw3
  replace hw3 := hw3.all (by rw [u8s_length, u8s_length, secN_len]; rfl)
  have hkw := Lib.hid (hw3.kept hk1 (Nat.le_refl _))
  have hw3' := Lib.hid hw3; clear hw3
  go_wp2
  refine bodyPost_ret (results_sec1 rfl _ _ w.heap.size (secN n) rfl hw3'.out.cells (secN_len n)) rfl ⟨rfl, hkw.out⟩
theorem law_laid (w0 W : World) (R : Nat → Prop) (hk : Kept w0 W) (hR : ∀ k, R k → k < W.heap.size) : Calls Try.prog 9 #[] W fun e w' => ∃ q, e = .returned (.pointer (some ⟨q, 0, none⟩)) ∧ BK w0 R w' q (addN 3) ∧ SameR R W w' := by
  have HN := Lib.hid (bk_New w0 W R hk hR)
  have HR := Lib.hid hR
  clear hk hR
  go_enter Try.func9, Try.ntmps9
  go_wp2_with fail
  refine Calls.mono HN.out ?_
  rintro e w1 ⟨q, rfl, hb, hk1⟩
  have HB := Lib.hid hb
  have HS : Hid (SameR R W w1) := Lib.hid (fun k hk => hk1.block_eq (HR.out k hk))
  clear hb hk1
  go_wp2
  go_loopw [2] (fun i wr => ∃ k : Nat, k ≤ 3 ∧ i = .int .i64 k ∧ Hid (BK w0 R wr q (addN k)) ∧ Hid (SameR R W wr)) (fun i _ => 3 - (intOf i).toNat)
  case atStart => exact ⟨0, by decide, rfl, HB, HS⟩
  case round =>
    obtain ⟨k, hk, rfl, HB, HS⟩ := hrel
    by_cases hlt : k < 3
    · have HA := bk_Add HB.out (by rw [addN_len]; omega) 8 (by decide) (by decide)
      rw [addN_len] at HA
      have HAD := Lib.hid HA; clear HA
      go_wp2_with fail
      refine Calls.mono HAD.out ?_
      rintro e w2 ⟨rfl, h1, h2⟩
      have HB2 : Hid (BK w0 R w2 q (addN (k + 1))) := Lib.hid h1
      have HS2 := Lib.hid (HS.out.trans h2); clear h1 h2
      go_wp2
      go_roundw
      case rel => exact ⟨k + 1, hlt, by go_num, HB2, HS2⟩
      case measure => simp [intOf]; omega
    · have hk3 : k = 3 := by omega
      subst hk3
      go_wp2
      go_ret
      exact ⟨q, rfl, HB.out, HS.out⟩
end
end Go.Proofs.Ytglplhmclfekfaa
