/- CheckSizes in plain Lean. -/
import Derived.Test.YtpeclkhppgabfaaDoorPaN
namespace Go.Proofs.YtpeclkhppgabfaaDoor
open Go.RowKit
set_option linter.unusedVariables false
set_option linter.unusedSimpArgs false

/-- the bytes that CheckSizes lays -/
def sizeB (n : Nat) : List Int := (List.range n).map fun (i : Nat) => ((i % 255 + 1 : Nat) : Int)
theorem sizeB_len (n : Nat) : (sizeB n).length = n := by simp [sizeB]
theorem sizeB_byte (n : Nat) : ∀ x ∈ sizeB n, IsByte x := by
  intro x hx
  simp only [sizeB, List.mem_map, List.mem_range] at hx
  obtain ⟨i, _, rfl⟩ := hx
  exact ⟨by omega, by omega⟩
theorem quiet1 : Quiet (addZ 200 1) 1 200 (fun _ => false) (fun _ _ => zeroB) 0 := Quiet.start (by decide) (by decide)
theorem sizes_big {n : Nat} (h : 1696 < n) (h2 : n ≤ 2047) (T : BankT) (L : List Int) (area : Nat) (gen : Int) : T.saveC L area gen (sizeB n) = (T, 1) := by
  unfold BankT.saveC
  rw [if_pos]
  rw [sizeB_len]; unfold partsN; rw [if_neg (by omega)]; omega
theorem sizes_ok {n : Nat} (h : n ≤ 1696) {area : Nat} (ha : area < 2) {gen : Int} (hg : 0 ≤ gen ∧ gen < 4294967296) : ∃ T1, (addZ 200 1).saveC [0] area gen (sizeB n) = (T1, 0) ∧ T1.Use ∧ loadC T1.read [0] = (⟨(area : Int), gen, sizeB n, gen, true⟩, 0) := by
  obtain ⟨T1, hs1, hq1⟩ := quiet1.save (by decide) [0] (by intro d hd; simp at hd; omega) (area := area) ha (gen := gen) (x := sizeB n) (by rw [sizeB_len]; exact h) (sizeB_byte n)
  obtain ⟨hm, hall⟩ := layAll_mix (g := gen) (x := sizeB n) (a := area) (ls := [0]) (al := [0]) (by simp) (N := fun _ _ => zeroB) (fun _ _ _ _ => rfl)
  have h32 := parts_le (show (sizeB n).length ≤ 1696 by rw [sizeB_len]; exact h)
  have hl1 := load_one hq1 (by decide) [0] (by intro d hd; simp at hd; omega) (al := [0]) rfl (by simp) ha hg (by rw [sizeB_len]; exact h) hm (fun d hd i hi => layAll_other (by rw [splitB_len]; omega)) (fun i hi => ⟨0, by simp, hall i hi 0 (by simp)⟩)
  refine ⟨T1, ?_, hq1.use (by decide) (by simp), hl1⟩
  have e : natI [0] = [0] := rfl
  rw [e] at hs1
  rw [hs1, if_neg (fun h => by have := h 0 (by simp); cases this)]
end Go.Proofs.YtpeclkhppgabfaaDoor
