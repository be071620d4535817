/- The library's table, as the listed variable lays it. -/
import Derived.Test.YtglplhmclfekfaaDoorRows
import Derived.Test.YtglplhmclfekfaaDoorBmd
import Derived.ProofKit
import Derived.LaidMore
import Derived.OpenShut
import Derived.Stop.Joined
namespace Go.Proofs.YtglplhmclfekfaaDoor
open Go.ChangeShapes Go.WideShapes Go.ChangeAt Go.WideMaps Go.WideElems Go.RowKit

def laidT : List (String × DataW Unit) := [("math/bits.deBruijn64tab", Rows.laid_math_bits_deBruijn64tab)]
theorem gTab : Tryd.prog.globalNamed "math/bits.deBruijn64tab" = some 0 := by kernel_rfl
theorem tTab : (Tryd.prog.globals[0]?).map (·.type) = some 93 := by kernel_rfl
theorem door_met (os : Os) (args : Array Value) : laidMetH Tryd.prog laidT ((World.doorLaid Tryd.prog 400 os).forCall (fun _ _ => 0) ⟨#[], args, []⟩).memory :=
  laidMetH_of_parts3 (fuel := 8) (laidMet_of_run' 8 (by kernel_rfl) (by kernel_rfl)) (by kernel_rfl) (by kernel_rfl)
theorem tab_lits : (Rows.laid_math_bits_deBruijn64tab : DataW Unit) = .agg (Lib.deBruijn64tab.map fun n : Nat => .lit (.int .u8 (n : Int))) := rfl
set_option maxRecDepth 100000 in
theorem of_laid {W : World} (h : laidMetH Tryd.prog laidT W) : DbAt W := by
  rw [MakeChecks.laidMetH_plain _ _ _ (by kernel_rfl)] at h
  obtain ⟨ps, ⟨g, t, cs, fuel, p, q, hg, ht, hv, hd, _, _⟩, _, _⟩ := h
  obtain rfl := Option.some.inj (gTab.symm.trans hg)
  obtain rfl := Option.some.inj (tTab.symm.trans ht)
  obtain ⟨xs, m, _, ex, hlen, hl, hel⟩ := DataW.trod_array Tryd.underlying93 hd
  have c1 : Tryd.prog.cellsOf 5 = 1 := by kernel_rfl
  have e3 := (Prod.mk.inj ex).1
  rw [tab_lits] at e3
  have e4 := DataW.agg.inj e3
  intro j hj
  have hk := hel j hj
  rw [c1] at hk
  have hx : xs[j]? = some (xs[j]'(by omega)) := List.getElem?_eq_getElem (by omega)
  rw [hx] at hk
  obtain ⟨n, a0, b0, _⟩ := DataW.trod_int Tryd.underlying5 hk
  have hm : (xs.map (·.1))[j]? = some (DataW.lit (.int .u8 n)) := by
    rw [List.getElem?_map, hx, Option.map_some, b0]
  have hj2 : j < Lib.deBruijn64tab.length := hj
  rw [← e4, List.getElem?_map, List.getElem?_eq_getElem hj2, Option.map_some] at hm
  have hn : n = ((Lib.deBruijn64tab.getD j 0 : Nat) : Int) := by
    rw [List.getD_eq_getElem?_getD, List.getElem?_eq_getElem hj2]
    injection hm with hm; injection hm with hm; injection hm with _ hm
    exact hm.symm
  rw [World.var?_cell gTab hv j, ← hn]
  have ht1 : ((cs.toList.drop (j * 1)).take 1)[0]? = some (.int .u8 n) := by rw [a0]; rfl
  rw [List.getElem?_take_of_lt (by decide), List.getElem?_drop, Nat.mul_one, Nat.add_zero] at ht1
  simpa using ht1
end Go.Proofs.YtglplhmclfekfaaDoor
