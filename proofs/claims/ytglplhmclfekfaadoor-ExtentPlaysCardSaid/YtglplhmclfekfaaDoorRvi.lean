/- Add whole: of a map of extents, of ref06. -/
import Derived.Test.YtglplhmclfekfaaDoorRvh
import Derived.Test.YtglplhmclfekfaaDoorEax
namespace Go.Proofs.YtglplhmclfekfaaDoor
open Go.RowKit
set_option linter.unusedVariables false
set_option linter.unusedSimpArgs false

def addX (E : XT) (d z : Int) : Int × XT :=
  if d < 0 ∨ z < 0 ∨ 4096 < z then (1, E) else match E d with | some _ => (9, E) | none => (0, E.set d (cntX z).toNat (fun _ => false))
section
variable {w : World} {q : Nat} {S : Nat → Prop} {E : XT} {M : RM} {v : Value} {tb : Nat → Nat} {tj : Nat → List Value}
set_option maxHeartbeats 1000000
set_option maxRecDepth 100000
theorem ext_Add_arg (q : Nat) (d z : Int) (w : World) (h : d < 0 ∨ z < 0 ∨ 4096 < z) :
    Calls Tryd.prog 7 #[.pointer (some ⟨q, 0, none⟩), .int .i64 d, .int .i64 z] w fun e w' => e = .returned (.int .i64 1) ∧ w = w' := by
  have h' : d < 0 ∨ (0 ≤ d ∧ z < 0) ∨ (0 ≤ d ∧ 0 ≤ z ∧ 4096 < z) := by omega
  clear h
  rcases h' with h1 | ⟨h1, h2⟩ | ⟨h1, h2, h3⟩
  all_goals
    go_enter Tryd.func7, Tryd.ntmps7
    go_wp2
    go_ret
    exact ⟨rfl, rfl⟩
theorem xr_Add_arg (q : Nat) (d z : Int) (w : World) (h : d < 0 ∨ z < 0 ∨ 4096 < z) :
    Calls Tryd.prog 35 #[.pointer (some ⟨q, 0, none⟩), .int .i64 d, .int .i64 z] w fun e w' => e = .returned (.int .i64 1) ∧ w = w' := by
  have h' : d < 0 ∨ (0 ≤ d ∧ z < 0) ∨ (0 ≤ d ∧ 0 ≤ z ∧ 4096 < z) := by omega
  clear h
  rcases h' with h1 | ⟨h1, h2⟩ | ⟨h1, h2, h3⟩
  all_goals
    go_enter Tryd.func35, Tryd.ntmps35
    go_wp2
    go_ret
    exact ⟨rfl, rfl⟩
theorem xr_Add_state (h : XR w q M v tb tj) (hl : M.length ≤ 100000) (d z : Int) (hd0 : 0 ≤ d) (hz0 : 0 ≤ z) (hz : z ≤ 4096) (hd : M.at_ d < M.length) :
    Calls Tryd.prog 35 #[.pointer (some ⟨q, 0, none⟩), .int .i64 d, .int .i64 z] w fun e w' => e = .returned (.int .i64 9) ∧ w = w' := by
  have HA := Lib.hid (xr_at h hl d)
  rw [RM.atV_some rfl hd] at HA
  generalize M.at_ d = k at *
  clear h hl hd
  go_enter Tryd.func35, Tryd.ntmps35
  go_wp2_with fail
  refine Calls.mono HA.out ?_
  rintro e w1 ⟨rfl, rfl⟩
  clear HA
  go_wp2
  go_ret
  exact ⟨rfl, rfl⟩
theorem cntX_nat {z : Int} (h : 0 ≤ z) (h2 : z ≤ 4096) : cntX z = ((cntX z).toNat : Int) := by unfold cntX; split <;> omega
theorem addX_bad {d z : Int} (h : d < 0 ∨ z < 0 ∨ 4096 < z) : addX E d z = (1, E) := by unfold addX; rw [if_pos h]
theorem addX_some {d z : Int} (h : ¬ (d < 0 ∨ z < 0 ∨ 4096 < z)) {x : Nat × (Nat → Bool)} (hd : E d = some x) : addX E d z = (9, E) := by unfold addX; rw [if_neg h, hd]
theorem addX_none {d z : Int} (h : ¬ (d < 0 ∨ z < 0 ∨ 4096 < z)) (hd : E d = none) : addX E d z = (0, E.set d (cntX z).toNat (fun _ => false)) := by unfold addX; rw [if_neg h, hd]
/-- ref06's Add, whole -/
theorem xr_Add (h : XR w q M v tb tj) (hl : M.length < 20000) (d z : Int) :
    Calls Tryd.prog 35 #[.pointer (some ⟨q, 0, none⟩), .int .i64 d, .int .i64 z] w fun e w' => e = .returned (.int .i64 (addX M.xt d z).1) ∧ ∃ M' v' tb' tj', XR w' q M' v' tb' tj' ∧ M'.xt = (addX M.xt d z).2 ∧ But (InX M q v tb) w w' ∧ (∀ b, InX M' q v' tb' b → InX M q v tb b ∨ w.heap.size ≤ b) ∧ (M' = M ∨ ∃ n, n ≤ 600 ∧ 0 ≤ d ∧ ¬ M.at_ d < M.length ∧ M' = M ++ [(d, List.replicate n false)]) := by
  by_cases hb : d < 0 ∨ z < 0 ∨ 4096 < z
  · rw [addX_bad hb]
    exact (xr_Add_arg q d z w hb).mono fun e w' ⟨he, hw⟩ => ⟨he, M, v, tb, tj, hw ▸ h, rfl, hw ▸ But.refl _ _, fun b hb => .inl hb, .inl rfl⟩
  · by_cases hd : M.at_ d < M.length
    · rw [addX_some hb (RM.xt_some hd)]
      exact (xr_Add_state h (by omega) d z (by omega) (by omega) (by omega) hd).mono fun e w' ⟨he, hw⟩ => ⟨he, M, v, tb, tj, hw ▸ h, rfl, hw ▸ But.refl _ _, fun b hb => .inl hb, .inl rfl⟩
    · rw [addX_none hb (RM.xt_none hd)]
      obtain ⟨zn, rfl⟩ : ∃ zn : Nat, z = (zn : Int) := ⟨z.toNat, by omega⟩
      have hn : (cntX (zn : Int)).toNat ≤ 600 := by unfold cntX; split <;> omega
      exact (xr_Add_new h hl d zn (cntX (zn : Int)).toNat (by omega) (by omega) (cntX_nat (by omega) (by omega)) hd).mono fun e w' ⟨he, v', tb', tj', h1, h2, h3⟩ => ⟨he, _, v', tb', tj', h1, RM.xt_app hd _, h2, h3, .inr ⟨_, hn, by omega, hd, rfl⟩⟩
end
section
variable {w0 W : World} {R : Nat → Prop} {q : Nat} {E : XT}
/-- a map's Add, whole -/
theorem xo_AddX (h : XO w0 R W q E) (d z : Int) :
    Calls Tryd.prog 7 #[.pointer (some ⟨q, 0, none⟩), .int .i64 d, .int .i64 z] W fun e w' => e = .returned (.int .i64 (addX E d z).1) ∧ XO w0 R w' q (addX E d z).2 ∧ SameR R W w' := by
  by_cases hb : d < 0 ∨ z < 0 ∨ 4096 < z
  · rw [addX_bad hb]
    exact (ext_Add_arg q d z W hb).mono fun e w' ⟨he, hw⟩ => ⟨he, hw ▸ h, hw ▸ SameR.refl _ _⟩
  · cases hd : E d with
    | some x =>
      obtain ⟨n, s⟩ := x
      rw [addX_some hb hd]
      exact (xo_Add_state h d z (by omega) (by omega) (by omega) hd).mono fun e w' ⟨he, hw⟩ => ⟨he, hw ▸ h, hw ▸ SameR.refl _ _⟩
    | none =>
      rw [addX_none hb hd]
      obtain ⟨zn, rfl⟩ : ∃ zn : Nat, z = (zn : Int) := ⟨z.toNat, by omega⟩
      exact xo_Add h d zn (cntX (zn : Int)).toNat (by omega) (by omega) (cntX_nat (by omega) (by omega)) hd
end
end Go.Proofs.YtglplhmclfekfaaDoor
