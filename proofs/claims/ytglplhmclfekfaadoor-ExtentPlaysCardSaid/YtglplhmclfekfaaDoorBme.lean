/- bits.Map: Take; extent: Count, Place, Index; the reference's. -/
import Derived.Test.YtglplhmclfekfaaDoorBmd
namespace Go.Proofs.YtglplhmclfekfaaDoor
open Go.RowKit Go.ChangeMaps Go.MapKept
set_option linter.unusedVariables false
set_option linter.unusedSimpArgs false

def idxE (a : Int) : Option Int := if a < 114 then none else if (a - 114) % 8 = 0 then some ((a - 114) / 8) else none
def idxV : Option Int → Value
  | some i => .tuple #[.int .i64 i, .bool true]
  | none => .tuple #[.int .i64 0, .bool false]
def cntX (n : Int) : Int := if n < 114 then 0 else (n - 114) / 8
section
variable {w : World} {p n k : Nat} {s : Nat → Bool} {t : TypeId}
set_option maxHeartbeats 1000000
set_option maxRecDepth 100000
def TakePost (w : World) (p n : Nat) (s : Nat → Bool) (e : Ending) (w' : World) : Prop :=
  (∃ i : Nat, i < n ∧ s i = false ∧ (∀ j, j < i → s j = true) ∧ e = .returned (.tuple #[.int .i64 (i : Int), .bool true]) ∧ BMap w' p n (setS s i true) ∧ But (fun k => k = p) w w') ∨ ((∀ j, j < n → s j = true) ∧ e = .returned (.tuple #[.int .i64 0, .bool false]) ∧ w = w')
theorem bits_Take (h : BMap w p n s) (hT : DbAt w) : Calls Tryd.prog 30 #[.pointer (some ⟨p, 0, none⟩)] w (TakePost w p n s) := by
  have HN := Lib.hid (bits_Next h hT)
  have HB := Lib.hid h; clear h hT
  go_enter Tryd.func30, Tryd.ntmps30
  go_wp2_with (refine stop_at (o := ⟨some 8, _, _, _, _, _⟩) ?_)
  refine Stop.mk ?_
  go_wp2_with fail
  refine Calls.mono HN.out ?_
  rintro e w' ⟨rfl, (⟨i, hi, hs, hl, rfl⟩ | ⟨hall, rfl⟩)⟩
  · have HS := Lib.hid hs; clear hs
    have HL := Lib.hid hl; clear hl
    have HTK := Lib.hid (bits_TakeAt_ok HB.out i hi HS.out)
    go_wp2_with (refine stop_at (o := ⟨some 14, _, _, _, _, _⟩) ?_)
    refine Stop.mk ?_
    go_wp2_with fail
    refine Calls.mono HTK.out ?_
    rintro e w1 ⟨rfl, hb1, hk1⟩
    go_wp2
    go_ret2
    exact .inl ⟨i, hi, HS.out, HL.out, rfl, hb1, hk1⟩
  · have HL := Lib.hid hall; clear hall
    go_wp2
    go_ret2
    exact .inr ⟨HL.out, rfl, rfl⟩
theorem ext_Count (x : Int) (hx : -9223372036854775808 ≤ x) (h2 : x < 9223372036854775808) (w : World) : Calls Tryd.prog 15 #[.int .i64 x] w fun e w' => e = .returned (.int .i64 (cntX x)) ∧ w = w' := by
  by_cases hc : x < 114
  · have e : cntX x = 0 := if_pos hc
    rw [e]
    go_enter Tryd.func15, Tryd.ntmps15
    go_wp2
    go_ret
    exact ⟨rfl, rfl⟩
  · have e : cntX x = (x - 114) / 8 := if_neg hc
    rw [e]
    go_enter Tryd.func15, Tryd.ntmps15
    go_wp2
    go_ret
    exact ⟨rfl, rfl⟩
theorem ext_Place (i : Int) (h1 : 0 ≤ i) (h2 : i ≤ 65536) (w : World) : Calls Tryd.prog 22 #[.int .i64 i] w fun e w' => e = .returned (.int .i64 (114 + i * 8)) ∧ w = w' := by
  go_enter Tryd.func22, Tryd.ntmps22
  go_wp2
  go_ret
  exact ⟨rfl, rfl⟩
theorem ref_Place (i : Int) (h1 : 0 ≤ i) (h2 : i ≤ 65536) (w : World) : Calls Tryd.prog 51 #[.int .i64 i] w fun e w' => e = .returned (.int .i64 (114 + i * 8)) ∧ w = w' := by
  go_enter Tryd.func51, Tryd.ntmps51
  go_wp2
  go_ret
  exact ⟨rfl, rfl⟩
theorem ret_neq {x y : Value} (h : x = y) : Ending.returned x = Ending.returned y := by rw [h]
theorem ext_Index (x : Int) (hx : -9223372036854775808 ≤ x) (h2 : x < 9223372036854775808) (w : World) : Calls Tryd.prog 21 #[.int .i64 x] w fun e w' => e = .returned (idxV (idxE x)) ∧ w = w' := by
  by_cases hc : x < 114
  · have e : idxE x = none := if_pos hc
    rw [e]
    go_enter Tryd.func21, Tryd.ntmps21
    go_wp2
    go_ret2
    exact ⟨rfl, rfl⟩
  · have hm : (x - 114).tmod 8 = (x - 114) % 8 := Int.tmod_eq_emod_of_nonneg (by omega)
    by_cases hq : (x - 114) % 8 = 0
    · have e : idxE x = some ((x - 114) / 8) := by unfold idxE; rw [if_neg hc, if_pos hq]
      rw [e]
      have hqb : ((x - 114) % 8 == 0) = true := by simpa using hq
      go_enter Tryd.func21, Tryd.ntmps21
      go_wp2
      go_ret2
      exact ⟨rfl, rfl⟩
    · have e : idxE x = none := by unfold idxE; rw [if_neg hc, if_neg hq]
      rw [e]
      have hqb : ((x - 114) % 8 == 0) = false := by simpa using hq
      go_enter Tryd.func21, Tryd.ntmps21
      go_wp2
      go_ret2
      exact ⟨rfl, rfl⟩
--
--
--
--
--
--
--
--
--
--
--
--
--
--
--
--
--
--
--
--
--
--
--
theorem ref_Count (x : Nat) (hx : x ≤ 4096) (w : World) : Calls Tryd.prog 49 #[.int .i64 (x : Int)] w fun e w' => e = .returned (.int .i64 (cntX x)) ∧ w = w' := by
  go_enter Tryd.func49, Tryd.ntmps49
  go_wp2
  go_loop [3] (fun i => ∃ k : Nat, i = .int .i64 (k : Int) ∧ (k = 0 ∨ 114 + 8 * k ≤ x)) (fun i => 600 - (intOf i).toNat)
  case atStart => exact ⟨0, rfl, .inl rfl⟩
  case round =>
    obtain ⟨k, rfl, hk⟩ := hrel
    by_cases hlt : 114 + 8 * (k + 1) ≤ x
    · go_wp2
      go_round
      case rel => exact ⟨k + 1, by go_num, .inr (by omega)⟩
      case measure => simp [intOf] <;> omega
    · go_wp2
      go_ret
      refine ⟨ret_neq ?_, rfl⟩
      have e : cntX x = (k : Int) := by unfold cntX; split <;> omega
      rw [e]; rfl
end
end Go.Proofs.YtglplhmclfekfaaDoor
