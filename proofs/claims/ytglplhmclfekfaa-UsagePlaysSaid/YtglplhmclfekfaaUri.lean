/- ref14: Emptiest. -/
import Derived.Test.YtglplhmclfekfaaUrh
namespace Go.Proofs.Ytglplhmclfekfaa
open Go.RowKit
set_option linter.unusedVariables false
set_option linter.unusedSimpArgs false

def lstI (T : Tab) (s : Int × Bool) : Int := if s.2 then (cntG T s.1 : Int) else -1
section
variable {w : World} {q c : Nat} {G : UG} {L : UL} {T : Tab} {vg vl : Value}
set_option maxHeartbeats 2000000
set_option maxRecDepth 100000
theorem ur_Emptiest (h : UX w q G L T c vg vl) (hc : c ≤ 1000) (v : Value) (l : List Int) (hs : ISl w v l) :
    Calls Try.prog 88 #[.pointer (some ⟨q, 0, none⟩), v] w fun e w' => e = .returned (.tuple #[.int .i64 (emp T l).1, .bool (emp T l).2]) ∧ Kept w w' := by
  have HS := Lib.hid (fun (W : World) (hk : Kept w W) (n : Int) => ur_Slots (h.kept hk) (by omega) n)
  have HB := Lib.hid (fun (W : World) (hk : Kept w W) (n : Int) => ur_Blocks (h.kept hk) (by omega) n)
  have hok := h.ok
  have HPOS := Lib.hid (fun n l (hg : T.g n = some l) => hok.len n l hg)
  have HSRC := Lib.hid hs
  obtain ⟨oa, cap, rfl, h1, h2, _⟩ := hs
  unfold maxLen at h2
  clear h hok
  go_enter Try.func88, Try.ntmps88
  go_wp2
  go_loopw [6, 7, 8] (fun b le i wr => ∃ k : Nat, k ≤ l.length ∧ i = .int .i64 k ∧ b = .int .i64 (emp T (l.take k)).1 ∧ le = .int .i64 (lstI T (emp T (l.take k))) ∧ Hid (Kept w wr)) (fun _ _ i _ => l.length - (intOf i).toNat)
  case atStart => exact ⟨0, Nat.zero_le _, rfl, rfl, rfl, Lib.hid (Kept.refl _)⟩
  case round =>
    obtain ⟨k, hk, rfl, rfl, rfl, HK⟩ := hrel
    by_cases hlt : k < l.length
    · obtain ⟨b, off, rfl, ck⟩ := (HSRC.out.kept HK.out).at k hlt
      have hnx := emp_next T l k hlt
      generalize l[k] = x at *
      have hbl := HB.out _ HK.out x
      have hsz : Hid (∀ W, Kept wr W → Calls Try.prog 85 #[.pointer (some ⟨q, 0, none⟩), .int .i64 x] W fun e w' => e = .returned (.int .i64 (szI T x)) ∧ W = w') := Lib.hid fun W hk' => HS.out W (HK.out.trans hk') x
      rw [blksI_len] at hbl
      have HBL := Lib.hid hbl
      rcases hs0 : emp T (l.take k) with ⟨b0, s0⟩
      rw [hs0] at hnx
      simp only
      have hcx : cntG T x ≤ 4096 := by
        unfold cntG
        cases hg : T.g x with
        | none => exact Nat.zero_le _
        | some lx => exact Nat.le_trans (List.length_filter_le _ _) (HPOS.out x lx hg).2
      obtain ⟨cx, hcxe⟩ : ∃ cx, cx = cntG T x := ⟨_, rfl⟩
      rw [← hcxe] at hcx HBL
      have fin : ∀ r : Int × Bool, emp T (l.take (k + 1)) = r → Hid (emp T (l.take (k + 1)) = r) := fun r h => Lib.hid h
      clear hbl hs0
      cases hg : T.g x with
      | none =>
        have HNX : Hid (emp T (l.take (k + 1)) = (b0, s0)) := Lib.hid (by rw [hnx]; unfold empStep; rw [hg])
        rw [szI_not hg] at hsz
        clear hnx fin hg hcxe
        go_wp2_with fail
        refine Calls.mono HBL.out ?_
        rintro e w2 ⟨xv, rfl, ho2, hk2⟩
        obtain ⟨ao, cp, rfl⟩ := own_form ho2
        have HK2 := Lib.hid (HK.out.trans hk2)
        have HC := Lib.hid (hsz.out _ hk2)
        clear ho2 hk2
        go_wp2_with fail
        refine Calls.mono HC.out ?_
        rintro e w3 ⟨rfl, rfl⟩
        go_wp2
        go_roundw
        case rel => exact ⟨k + 1, hlt, by go_num, by rw [HNX.out], by rw [HNX.out], HK2⟩
        case measure => simp [intOf]; omega
      | some lx =>
        have hpos := (HPOS.out x lx hg).1
        rw [szI_some hg] at hsz
        have hst : emp T (l.take (k + 1)) = if s0 = false ∨ cx < cntG T b0 ∨ (cx = cntG T b0 ∧ x < b0) then (x, true) else (b0, s0) := by rw [hnx]; unfold empStep; rw [hg, hcxe]
        have hlx : lstI T (x, true) = (cx : Int) := by unfold lstI; rw [hcxe]; rfl
        clear hnx fin hg hcxe
        cases s0 with
        | false =>
          have HNX : Hid (emp T (l.take (k + 1)) = (x, true)) := Lib.hid (by rw [hst, if_pos (.inl rfl)])
          have HLX := Lib.hid hlx
          have hl0 : lstI T (b0, false) = -1 := rfl
          rw [hl0]
          clear hst hlx hl0
          go_wp2_with fail
          refine Calls.mono HBL.out ?_
          rintro e w2 ⟨xv, rfl, ho2, hk2⟩
          obtain ⟨ao, cp, rfl⟩ := own_form ho2
          have HK2 := Lib.hid (HK.out.trans hk2)
          have HC := Lib.hid (hsz.out _ hk2)
          clear ho2 hk2
          go_wp2_with fail
          refine Calls.mono HC.out ?_
          rintro e w3 ⟨rfl, rfl⟩
          go_wp2
          go_roundw
          case rel => exact ⟨k + 1, hlt, by go_num, by rw [HNX.out], by rw [HNX.out, HLX.out], HK2⟩
          case measure => simp [intOf]; omega
        | true =>
          have hl0 : lstI T (b0, true) = (cntG T b0 : Int) := rfl
          have HL0 := Lib.hid hl0
          rw [hl0]
          clear hl0
          generalize cntG T b0 = c0 at *
          by_cases h3 : cx < c0
          · have HNX : Hid (emp T (l.take (k + 1)) = (x, true)) := Lib.hid (by rw [hst, if_pos (.inr (.inl h3))])
            have HLX := Lib.hid hlx
            clear hst hlx
            go_wp2_with fail
            refine Calls.mono HBL.out ?_
            rintro e w2 ⟨xv, rfl, ho2, hk2⟩
            obtain ⟨ao, cp, rfl⟩ := own_form ho2
            have HK2 := Lib.hid (HK.out.trans hk2)
            have HC := Lib.hid (hsz.out _ hk2)
            clear ho2 hk2
            go_wp2_with fail
            refine Calls.mono HC.out ?_
            rintro e w3 ⟨rfl, rfl⟩
            go_wp2
            go_roundw
            case rel => exact ⟨k + 1, hlt, by go_num, by rw [HNX.out], by rw [HNX.out, HLX.out], HK2⟩
            case measure => simp [intOf]; omega
          · by_cases h4 : cx = c0
            · subst h4
              by_cases h5 : x < b0
              · have HNX : Hid (emp T (l.take (k + 1)) = (x, true)) := Lib.hid (by rw [hst, if_pos (.inr (.inr ⟨rfl, h5⟩))])
                have HLX := Lib.hid hlx
                clear hst hlx
                go_wp2_with fail
                refine Calls.mono HBL.out ?_
                rintro e w2 ⟨xv, rfl, ho2, hk2⟩
                obtain ⟨ao, cp, rfl⟩ := own_form ho2
                have HK2 := Lib.hid (HK.out.trans hk2)
                have HC := Lib.hid (hsz.out _ hk2)
                clear ho2 hk2
                go_wp2_with fail
                refine Calls.mono HC.out ?_
                rintro e w3 ⟨rfl, rfl⟩
                go_wp2
                go_roundw
                case rel => exact ⟨k + 1, hlt, by go_num, by rw [HNX.out], by rw [HNX.out, HLX.out], HK2⟩
                case measure => simp [intOf]; omega
              · have HNX : Hid (emp T (l.take (k + 1)) = (b0, true)) := Lib.hid (by rw [hst, if_neg]; rintro (h | h | h); cases h; omega; omega)
                clear hst hlx
                go_wp2_with fail
                refine Calls.mono HBL.out ?_
                rintro e w2 ⟨xv, rfl, ho2, hk2⟩
                obtain ⟨ao, cp, rfl⟩ := own_form ho2
                have HK2 := Lib.hid (HK.out.trans hk2)
                have HC := Lib.hid (hsz.out _ hk2)
                clear ho2 hk2
                go_wp2_with fail
                refine Calls.mono HC.out ?_
                rintro e w3 ⟨rfl, rfl⟩
                go_wp2
                go_roundw
                case rel => exact ⟨k + 1, hlt, by go_num, by rw [HNX.out], by rw [HNX.out, HL0.out], HK2⟩
                case measure => simp [intOf]; omega
            · have HNX : Hid (emp T (l.take (k + 1)) = (b0, true)) := Lib.hid (by rw [hst, if_neg]; rintro (h | h | h); cases h; omega; omega)
              have h6 : ((cx : Int) == (c0 : Int)) = false := by simp; omega
              clear hst hlx h4
              go_wp2_with fail
              refine Calls.mono HBL.out ?_
              rintro e w2 ⟨xv, rfl, ho2, hk2⟩
              obtain ⟨ao, cp, rfl⟩ := own_form ho2
              have HK2 := Lib.hid (HK.out.trans hk2)
              have HC := Lib.hid (hsz.out _ hk2)
              clear ho2 hk2
              go_wp2_with fail
              refine Calls.mono HC.out ?_
              rintro e w3 ⟨rfl, rfl⟩
              go_wp2
              go_roundw
              case rel => exact ⟨k + 1, hlt, by go_num, by rw [HNX.out], by rw [HNX.out, HL0.out], HK2⟩
              case measure => simp [intOf]; omega
    · have hkk : k = l.length := by omega
      subst hkk
      rw [List.take_length]
      rcases hs0 : emp T l with ⟨b0, s0⟩
      have HE := Lib.hid hs0
      clear hs0
      simp only
      cases s0 with
      | false =>
        have hl0 : lstI T (b0, false) = -1 := rfl
        rw [hl0]
        go_wp2
        go_ret2
        exact ⟨by rw [HE.out]; rfl, HK.out⟩
      | true =>
        have hl0 : lstI T (b0, true) = (cntG T b0 : Int) := rfl
        rw [hl0]
        go_wp2
        go_ret2
        exact ⟨by rw [HE.out]; rfl, HK.out⟩
end
end Go.Proofs.Ytglplhmclfekfaa
