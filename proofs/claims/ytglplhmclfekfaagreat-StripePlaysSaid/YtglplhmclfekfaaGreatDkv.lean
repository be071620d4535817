/- law03: sector, laid. -/
import Derived.Test.YtglplhmclfekfaaGreatDku
namespace Go.Proofs.YtglplhmclfekfaaGreat
open Go.RowKit
set_option linter.unusedVariables false
set_option linter.unusedSimpArgs false

theorem results_sec1 {fn : Func} {p : Tmp} (h : fn.results = #[.cell p 43]) (tmps : Array Value) (w : World) (b : Nat) (bs : List Int)
    (hp : tmps.getD p undef = .pointer (some ⟨b, 0, none⟩)) (hc : Cells w b 0 (u8s bs)) (hl : bs.length = 64) :
    (results fn tmps).run Tryz.prog w = .ok (secV bs) w := by
  obtain ⟨⟨d, hd1, hd2⟩, hs⟩ := ty_sec
  have hp' : tmps[p]?.getD undef = .pointer (some ⟨b, 0, none⟩) := by simpa using hp
  have hr := run_loadVar_mid (P := Tryz.prog) w b 0 43 (u8s bs) d (rangeAt_of_cells hc) hd1 hd2 (by rw [hs, u8s_length, hl])
  simp [results, h, hp', asAddr, hr, secV]
/-- a bank of k disks of eight sectors -/
def addN : Nat → BankT
  | 0 => BankT.zero
  | k + 1 => (addN k).add 8
theorem addN_len : ∀ k, (addN k).l.length = k
  | 0 => rfl
  | k + 1 => by rw [addN, BankT.add_len, addN_len k]
section
variable {w : World}
set_option maxHeartbeats 1000000
set_option maxRecDepth 100000
--
--
--
--
--
--
--
--
--
--
--
--
--
--
--
--
--
--
--
--
--
--
--
--
--
--
--
--
--
--
--
--
--
--
--
--
--
--
--
--
--
--
--
--
--
--
--
--
--
end
end Go.Proofs.YtglplhmclfekfaaGreat
