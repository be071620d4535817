/- bits: Clone. -/
import Derived.Test.YtglplhmclfekfaaDoorExf
namespace Go.Proofs.YtglplhmclfekfaaDoor
open Go.RowKit
set_option linter.unusedVariables false
set_option linter.unusedSimpArgs false

theorem ty_bm : AggT Tryd.prog 76 1026 := ⟨⟨_, Tryd.underlying76, rfl⟩, by kernel_rfl⟩
theorem zero_bm (w : World) : (zeroValue 76).run Tryd.prog w = .ok (.agg (bmZ 0).toArray) w := by kernel_rfl
theorem bmCells_length {ws : List (BitVec 64)} (h : ws.length = 1024) (n k : Nat) : (bmCells ws n k).length = 1026 := by simp [bmCells, u64s, h]
theorem bmCells_one (ws : List (BitVec 64)) (n k : Nat) : ∀ u ∈ bmCells ws n k, u.oneCell' = true := by
  intro u hu
  simp only [bmCells, u64s, List.mem_append, List.mem_map, List.mem_cons, List.mem_nil_iff, or_false] at hu
  rcases hu with ⟨x, _, rfl⟩ | rfl | rfl <;> rfl
section
variable {w : World} {p n : Nat} {s : Nat → Bool}
set_option maxHeartbeats 1000000
set_option maxRecDepth 100000
theorem bits_Clone (h : BMap w p n s) : Calls Tryd.prog 34 #[.pointer (some ⟨p, 0, none⟩)] w fun e w' => e = .returned (.pointer (some ⟨w.heap.size, 0, none⟩)) ∧ BMap w' w.heap.size n s ∧ Kept w w' := by
  obtain ⟨h1, h2, ws, hl, hb, h5⟩ := h
  have HB := Lib.hid hb
  have H5 := Lib.hid h5
  have H2 := Lib.hid h2
  have HL := Lib.hid (bmCells_length hl n (cntS n s))
  have HO := Lib.hid (bmCells_one ws n (cntS n s))
  clear hb h5 h2
  obtain ⟨cs, hcs⟩ : ∃ cs, cs = bmCells ws n (cntS n s) := ⟨_, rfl⟩
  rw [← hcs] at HB HL HO
  have HC := Lib.hid hcs
  clear hcs
  go_enter Tryd.func34, Tryd.ntmps34
  go_wp2_with (refine stop_at (o := ⟨some 6, _, _, _, _, _⟩) ?_)
  refine Stop.mk ?_
  refine wpList_load_agg rfl _ rfl ty_bm p 0 rfl cs (by simpa using Cells.of_block HB.out) HL.out ?_
  go_wp2_with (refine stop_at (o := ⟨some 3, _, _, _, _, _⟩) ?_)
  refine Stop.mk ?_
  refine wpList_new_agg rfl rfl _ _ rfl rfl ty_bm (bmZ 0) zero_bm (by simp [bmZ, u64s, zeroWs]) cs rfl HL.out HO.out rfl ?_
  intro w1 hb1 hs1 hk1
  have HB1 := hb1
  have HK1 := Lib.hid hk1
  clear hb1 hs1 hk1
  go_wp2
  go_ret
  exact ⟨rfl, ⟨h1, H2.out, ws, hl, by rw [← HC.out]; exact HB1.out, H5.out⟩, HK1.out⟩
end
end Go.Proofs.YtglplhmclfekfaaDoor
