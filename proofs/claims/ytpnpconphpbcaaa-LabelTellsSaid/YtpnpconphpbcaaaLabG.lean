/- The document's SameMembers and Same, of what is the same. -/
import Derived.Test.YtpnpconphpbcaaaLabF
namespace Go.Proofs.Ytpnpconphpbcaaa
open Go.RowKit
set_option linter.unusedVariables false
set_option linter.unusedSimpArgs false

attribute [local go_sem ↓] Go.wp_at_zero Go.wp_at_succ
set_option maxHeartbeats 2000000 in
set_option maxRecDepth 100000 in
theorem same_members (ms : List Mem) (s1 s2 : Value) (w : World) (hlen : ms.length ≤ 9223372036854775807) (h1 : MSl w s1 ms) (h2 : MSl w s2 ms) :
    Calls Try.prog 38 #[s1, s2] w fun e w' => e = .returned (.bool true) ∧ Kept w w' := by
  obtain ⟨o1, c1, rfl⟩ := h1.form
  obtain ⟨o2, c2, rfl⟩ := h2.form
  have H1 := Lib.hid h1; clear h1
  have H2 := Lib.hid h2; clear h2
  go_enter Try.func38, Try.ntmps38
  go_wp2
  go_loopw [5] (fun i wr => ∃ k : Nat, k ≤ ms.length ∧ i = .int .i64 k ∧ Kept w wr) (fun i _ => ms.length - (intOf i).toNat)
  case atStart => exact ⟨0, Nat.zero_le _, rfl, Kept.refl _⟩
  case round =>
    obtain ⟨k, hk, rfl, hkr⟩ := hrel
    have hsz := hkr.size
    by_cases hlt : k < ms.length
    · obtain ⟨b1, off1, cap1, hsl, hm⟩ : ∃ b off cap', Value.slice o1 ms.length c1 = .slice (some ⟨b, off, none⟩) ms.length cap' ∧ MRow w b off ms := by
        rcases H1.out with ⟨h, _⟩ | h
        · have h' : ms = [] := h
          subst h'; simp at hlt
        · exact h
      cases hsl
      obtain ⟨b2, off2, cap2, hsl, hn⟩ : ∃ b off cap', Value.slice o2 ms.length c2 = .slice (some ⟨b, off, none⟩) ms.length cap' ∧ MRow w b off ms := by
        rcases H2.out with ⟨h, _⟩ | h
        · have h' : ms = [] := h
          subst h'; simp at hlt
        · exact h
      cases hsl
      obtain ⟨m0, m1, m2⟩ := (hm.kept hkr) k hlt
      obtain ⟨n0, n1, n2⟩ := (hn.kept hkr) k hlt
      clear hm hn
      generalize ms[k].id = x at *
      generalize ms[k].sec = y at *
      generalize ms[k].st = z at *
      go_upto_region 6 with fail
      go_quiet (fail)
      go_wp2
      go_roundw
      case rel => exact ⟨k + 1, by omega, by go_num, hkr.drewN _⟩
      case measure => simp [intOf]; omega
    · go_wp2
      go_ret
      exact ⟨rfl, hkr⟩

set_option maxHeartbeats 2000000 in
set_option maxRecDepth 100000 in
theorem same_labels (l : Lab) (s1 s2 : Value) (w : World) (hlen : l.ms.length ≤ 9223372036854775807) (h1 : MSl w s1 l.ms) (h2 : MSl w s2 l.ms) :
    Calls Try.prog 16 #[l.val s1, l.val s2] w fun e w' => e = .returned (.bool true) ∧ Kept w w' := by
  obtain ⟨array, gen, member, blocks, ms⟩ := l
  simp only [Lab.val]
  have hS := fun (W : World) (hk : Kept w W) => same_members ms s1 s2 W hlen (h1.kept hk) (h2.kept hk)
  have HS := Lib.hid hS; clear hS
  obtain ⟨o1, c1, rfl⟩ := h1.form
  obtain ⟨o2, c2, rfl⟩ := h2.form
  clear h1 h2
  go_enter Try.func16, Try.ntmps16
  go_wp2_with (go_at_call 38; refine (HS.out _ (((Kept.refl w).alloc _).alloc _)).mono ?_; rintro e w2 ⟨rfl, hk2⟩)
  go_ret
  exact ⟨rfl, (((Kept.refl w).alloc _).alloc _).trans hk2⟩

end Go.Proofs.Ytpnpconphpbcaaa
