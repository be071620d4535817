/- UsageMoves: the walk. -/
import Derived.Test.YtpnpconphpbcaaaUmo
namespace Go.Proofs.Ytpnpconphpbcaaa
open Go.RowKit Go.ChangeMaps Go.MapKept
set_option linter.unusedVariables false
set_option linter.unusedSimpArgs false

/-- group and slot as the law keeps them -/
def curG (c : Option (Nat × Nat)) : Int := match c with | none => -1 | some s => s.1
def curS (c : Option (Nat × Nat)) : Int := match c with | none => 0 | some s => s.2
section
variable {w W : World} {R : Nat → Prop} {p : Nat} {T : Tab}
set_option maxHeartbeats 2000000
set_option maxRecDepth 100000
theorem law_moves (v : Value) (l : List Op5) (w : World) (hs : OSrc w v l) :
    Calls Try.prog 8 #[v] w fun e w' => e = .returned (.bool true) ∧ Kept w w' := by
  have HS := Lib.hid hs
  obtain ⟨oa, cap, rfl, hcap, hmax, _⟩ := hs
  unfold maxLen at hmax
  go_enter Try.func8, Try.ntmps8
  go_wp2_with (first
    | (go_at_call 19; refine (usage_shown _).mono ?_; rintro e w1 ⟨rfl, hk1⟩)
    | (go_at_call 20; refine (own_New w _ hk1).mono ?_; rintro e w2 ⟨p, rfl, h2, _⟩))
  have H2 := Lib.hid (h2.less (R' := fun _ => False) (fun _ h => h.elim)); clear h2 hk1
  go_loopw [5] (fun i wr => ∃ k : Nat, k ≤ 3 ∧ i = .int .i64 k ∧ Own w (fun _ => False) wr p (opensT (List.replicate k 8))) (fun i _ => 3 - (intOf i).toNat)
  case atStart => exact ⟨0, by omega, rfl, by have := H2.out; rwa [← opensT_nil] at this⟩
  case round =>
    obtain ⟨k, hk, rfl, hO⟩ := hrel
    have HO := Lib.hid hO; clear hO
    by_cases hlt : k < 3
    · go_wp2_with (go_at_call 21; refine (one_open k HO.out).mono ?_; rintro e w3 ⟨rfl, h3⟩; have H3 := Lib.hid h3; clear h3)
      go_roundw
      case rel => exact ⟨k + 1, by omega, by go_num, H3.out⟩
      case measure => simp [intOf]; omega
    · have hk3 : k = 3 := by omega
      rw [hk3] at HO
      clear hk3
      go_wp2
      clear H2
      obtain ⟨wa, rfl⟩ : ∃ wa, wa = wr := ⟨_, rfl⟩
      go_loopw [6, 7, 8] (fun g s i wr => ∃ (k : Nat) (c : Option (Nat × Nat)) (T : Tab), k ≤ l.length ∧ i = .int .i64 k ∧ g = .int .i64 (curG c) ∧ s = .int .i64 (curS c) ∧ (∀ x, c = some x → x.1 < 3 ∧ x.2 < 8) ∧ OneAt T c ∧ Own w (fun _ => False) wr p T) (fun _ _ i _ => l.length - (intOf i).toNat)
      case atStart => exact ⟨0, none, _, by omega, rfl, rfl, rfl, (fun _ h => by cases h), OneAt.zero, HO.out⟩
      case round =>
        obtain ⟨k, c, T, hk, rfl, rfl, rfl, hc, hone, hO⟩ := hrel
        have HO := Lib.hid hO; clear hO
        have HONE := Lib.hid hone; clear hone
        have HC := Lib.hid hc; clear hc
        by_cases hlt : k < l.length ∧ k < 100
        · obtain ⟨hlt, h100⟩ := hlt
          obtain ⟨b, off, rfl, _, c1, c2, _⟩ := (HS.out.kept HO.out.keeps).at k hlt
          obtain ⟨y, hy, hyl⟩ := and_i64 l[k].group 16 (by decide) (m := 65535) (by decide)
          obtain ⟨s, hsb, hsl⟩ := and_i64 l[k].slot 3 (by decide) (m := 7) (by decide)
          have hym : (y : Int) % 3 = ((y % 3 : Nat) : Int) := by omega
          have hg3 : y % 3 < 3 := by omega
          have hs8 : s < 8 := hsl
          generalize l[k].group = xg at *
          generalize l[k].slot = xs at *
          generalize y % 3 = g at *
          clear hsl
          have hsteps : (c = some (g, s) ∧ ∀ W, Own w (fun _ => False) W p T → Calls Try.prog 22 #[.pointer (some ⟨p, 0, none⟩), .int .i64 g, .int .i64 s, .int .i64 42] W fun e w' => e = .returned (.int .i64 9) ∧ Own w (fun _ => False) w' p T) ∨
              (c ≠ some (g, s) ∧ ∃ T', OneAt T' (some (g, s)) ∧ ∀ W, Own w (fun _ => False) W p T → Calls Try.prog 22 #[.pointer (some ⟨p, 0, none⟩), .int .i64 g, .int .i64 s, .int .i64 42] W fun e w' => e = .returned (.int .i64 0) ∧ Own w (fun _ => False) w' p T') := by
            by_cases hcs : c = some (g, s)
            · refine .inl ⟨hcs, fun W hW => ?_⟩
              refine (own_Put_live hW HONE.out.ok g 42 s (x := 42) (by rw [HONE.out.sl g s hg3 hs8, if_pos hcs]) (by decide) (by decide)).mono fun e w' ⟨he, hw⟩ => ⟨he, by rw [← hw]; exact hW⟩
            · refine .inr ⟨hcs, _, HONE.out.put hg3 hs8 hcs, fun W hW => ?_⟩
              exact (own_Put hW HONE.out.ok g 42 s (by rw [HONE.out.sl g s hg3 hs8, if_neg hcs]) (by decide)).mono fun e w' ⟨he, hw, _⟩ => ⟨he, hw⟩
          have hcases : ∃ T', OneAt T' (some (g, s)) ∧ ∃ E : Int, (∀ W, Own w (fun _ => False) W p T → Calls Try.prog 22 #[.pointer (some ⟨p, 0, none⟩), .int .i64 g, .int .i64 s, .int .i64 42] W fun e w' => e = .returned (.int .i64 E) ∧ Own w (fun _ => False) w' p T') ∧
              ((E = 9 ∧ ((g : Int) == curG c) = true ∧ ((s : Int) == curS c) = true) ∨ (E = 0 ∧ ((g : Int) == curG c) = false) ∨ (E = 0 ∧ ((g : Int) == curG c) = true ∧ ((s : Int) == curS c) = false)) := by
            rcases hsteps with ⟨hcs, hput⟩ | ⟨hcs, T', hone', hput⟩
            · refine ⟨T, by rw [← hcs]; exact HONE.out, 9, hput, .inl ⟨rfl, ?_, ?_⟩⟩ <;> simp [hcs, curG, curS]
            · refine ⟨T', hone', 0, hput, .inr ?_⟩
              cases c with
              | none => left; refine ⟨rfl, ?_⟩; simp [curG]
              | some x =>
                obtain ⟨g1, s1⟩ := x
                by_cases hg1 : g = g1
                · subst hg1
                  right; refine ⟨rfl, by simp [curG], ?_⟩
                  simp [curS]; intro e; exact hcs (by rw [show s = s1 from by omega])
                · left; refine ⟨rfl, ?_⟩; simp [curG]; omega
          obtain ⟨T', hone', E, hput, hcs⟩ := hcases
          have HP := Lib.hid hput; clear hput hsteps
          have HF := Lib.hid (fun W (hW : Own w (fun _ => False) W p T') => one_find hone' hg3 hs8 hW)
          obtain ⟨x0, x1, x2, ⟨a0, b0⟩, ⟨a1, b1⟩, ⟨a2, b2⟩, hx, hc0, hc1, hc2, hcg⟩ := one_counts (w := w) (R := fun _ => False) (p := p) hone' hg3 hs8
          have HC0 := Lib.hid hc0; clear hc0
          have HC1 := Lib.hid hc1; clear hc1
          have HC2 := Lib.hid hc2; clear hc2
          have HCG := Lib.hid hcg; clear hcg
          have HONE' := Lib.hid hone'; clear hone'
          have f1 : ((g : Int) != (g : Int)) = false := by simp
          have f2 : ((s : Int) != (s : Int)) = false := by simp
          clear HC HONE
          generalize curG c = G at *
          generalize curS c = S at *
          rcases hcs with ⟨rfl, e1, e2⟩ | ⟨rfl, e1⟩ | ⟨rfl, e1, e2⟩
          all_goals
            go_wp2_with (first
              | (go_at_call 22; refine (HP.out _ HO.out).mono ?_; rintro e w3 ⟨rfl, h3⟩; have H3 := Lib.hid h3; clear h3)
              | (go_at_call 28; refine (HF.out _ H3.out).mono ?_; rintro e w4 ⟨rfl, h4⟩; have H4 := Lib.hid h4; clear h4)
              | (go_at_call 26; refine (HC0.out _ H4.out).mono ?_; rintro e w5 ⟨rfl, h5⟩; have H5 := Lib.hid h5; clear h5 H4)
              | (go_at_call 26; refine (HC1.out _ H5.out).mono ?_; rintro e w6 ⟨rfl, h6⟩; have H6 := Lib.hid h6; clear h6 H5)
              | (go_at_call 26; refine (HC2.out _ H6.out).mono ?_; rintro e w7 ⟨rfl, h7⟩; have H7 := Lib.hid h7; clear h7 H6)
              | (go_at_call 26; refine (HCG.out _ H7.out).mono ?_; rintro e w8 ⟨rfl, h8⟩; have H8 := Lib.hid h8; clear h8 H7))
            go_roundw
            case rel => exact ⟨k + 1, some (g, s), T', by omega, by go_num, rfl, rfl, (fun x hx => by cases hx; exact ⟨hg3, hs8⟩), HONE'.out, H8.out⟩
            case measure => simp [intOf]; omega
        · have hend : (c = none ∧ curG c = -1) ∨ ∃ g s : Nat, c = some (g, s) ∧ g < 3 ∧ s < 8 ∧ curG c = g ∧ curS c = s := by
            cases c with
            | none => exact .inl ⟨rfl, rfl⟩
            | some x => exact .inr ⟨x.1, x.2, rfl, (HC.out x rfl).1, (HC.out x rfl).2, rfl, rfl⟩
          have hge : ∀ i : Int, i = (k : Int) → ¬ (i < (l.length : Int) ∧ i < 100) := by intro i hi; omega
          have hkk : l.length ≤ k ∨ (k < l.length ∧ 100 ≤ k) := by omega
          clear hlt hge
          rcases hend with ⟨rfl, hG⟩ | ⟨g, s, rfl, hg3, hs8, hG, hS⟩
          · rw [hG]
            clear hG HC HONE
            rcases hkk with hkk | ⟨hkk, h100⟩
            all_goals
              go_wp2
              go_ret
              exact ⟨rfl, HO.out.keeps⟩
          · have hone := HONE.out
            have hsl := hone.sl g s hg3 hs8
            rw [if_pos rfl] at hsl
            have HCL := Lib.hid (fun W (hW : Own w (fun _ => False) W p T) => own_Clear hW hone.ok g s hsl (by decide))
            have hsl2 : (T.clear g s 42).slot g s = some (-1) := by rw [Tab.slot_clear hsl]; simp
            have HCL2 := Lib.hid (fun W (hW : Own w (fun _ => False) W p (T.clear g s 42)) => own_Clear_dead hW (hone.ok.clear hsl (by decide)) g s hsl2)
            have HF := Lib.hid (fun W (hW : Own w (fun _ => False) W p (T.clear g s 42)) => own_Find hW 42 none (by rw [Tab.f_clear, if_pos rfl]))
            rw [hG, hS]
            clear hG hS HC HONE hone hsl hsl2
            rcases hkk with hkk | ⟨hkk, h100⟩
            all_goals
              go_wp2_with (first
                | (go_at_call 29; refine (HCL.out _ HO.out).mono ?_; rintro e w3 ⟨rfl, h3, _⟩; have H3 := Lib.hid h3; clear h3 HCL)
                | (go_at_call 28; refine (HF.out _ H3.out).mono ?_; rintro e w4 ⟨rfl, h4, _⟩; have H4 := Lib.hid h4; clear h4; simp only [findV])
                | (go_at_call 29; refine (HCL2.out _ H4.out).mono ?_; rintro e w5 ⟨rfl, rfl⟩))
              go_ret
              exact ⟨rfl, H4.out.keeps⟩
end
end Go.Proofs.Ytpnpconphpbcaaa
