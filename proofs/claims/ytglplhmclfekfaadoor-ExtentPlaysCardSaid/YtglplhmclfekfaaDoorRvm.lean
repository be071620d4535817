/- ref06: Disks. -/
import Derived.Test.YtglplhmclfekfaaDoorRvl
import Derived.Test.YtglplhmclfekfaaDoorRvi
namespace Go.Proofs.YtglplhmclfekfaaDoor
open Go.RowKit
set_option linter.unusedVariables false
set_option linter.unusedSimpArgs false

theorem intsX_one (l : List Int) : ∀ u ∈ ints l, u.oneCell' = true := by
  intro u hu; simp only [ints, List.mem_map] at hu; obtain ⟨y, _, rfl⟩ := hu; rfl
theorem own_lt' {w : World} {base e size n : Nat} {v : Value} {xs : List Value} (h : w.ownsRow base e size v n xs) {g : Nat} (hg : v.ownBlock = some g) : g < w.heap.size := own_lt h hg
section
variable {w : World} {q : Nat} {M : RM} {v : Value} {tb : Nat → Nat} {tj : Nat → List Value}
set_option maxHeartbeats 1000000
set_option maxRecDepth 100000
theorem xr_Disks (h : XR w q M v tb tj) (hf : M.Fine) (hl : M.length ≤ 1000) :
    Calls Tryd.prog 40 #[.pointer (some ⟨q, 0, none⟩)] w fun e w' => ∃ (x : Value) (ks : List Int), e = .returned x ∧ (∀ n, n ∈ ks ↔ M.xt n ≠ none) ∧ ks.Pairwise (· < ·) ∧ w'.ownsRow w.heap.size 3 1 x ks.length (ints ks) ∧ Kept w w' := by
  have c0 := h.c0
  obtain ⟨ao, cap, hv⟩ := h.form
  have HV := Lib.hid hv
  rw [hv] at c0
  have H := Lib.hid h
  have HF := Lib.hid hf
  have hk1 := (Kept.refl w).alloc (Obj.cells #[] 3)
  have hb1 := heap_alloc_new w (Obj.cells #[] 3)
  have HO1 : Hid ((w.alloc (Obj.cells #[] 3)).ownsRow w.heap.size 3 1 (.slice (some ⟨w.heap.size, 0, none⟩) 0 0) 0 (ints [])) := Lib.hid ⟨rfl, .inr ⟨w.heap.size, 0, #[], rfl, Nat.le_refl _, hb1, Nat.le_refl _, Nat.zero_le _, rfl, rfl⟩⟩
  have HK1 := Lib.hid hk1
  have HD0 := Lib.hid (DsI.zero hf)
  clear h hv hf hk1 hb1
  go_enter Tryd.func40, Tryd.ntmps40
  go_wp2
  go_loopw [3, 4, 5] (fun o la n wr => ∃ (k : Nat) (out : List Int) (last : Int), k ≤ M.length ∧ n = .int .i64 k ∧ la = .int .i64 last ∧ Hid (wr.ownsRow w.heap.size 3 1 o k (ints out)) ∧ Hid (DsI M k out last) ∧ Hid (Kept w wr)) (fun _ _ n _ => M.length - (intOf n).toNat)
  case atStart => exact ⟨0, [], -1, Nat.zero_le _, rfl, rfl, HO1, HD0, HK1⟩
  case round =>
    clear HO1 HD0 HK1
    obtain ⟨k, out, last, hk, rfl, rfl, HO, HD, HK⟩ := hrel
    have c0r := HK.out.cell' c0
    by_cases hlt : k < M.length
    · have hlen0 : M.length ≠ 0 := by omega
      go_wp2
      go_loopw [6, 7] (fun b i wq => ∃ j : Nat, j ≤ M.length ∧ i = .int .i64 j ∧ b = .int .i64 (M.bestTo last j) ∧ wr = wq) (fun _ i _ => M.length - (intOf i).toNat)
      case atStart => exact ⟨0, Nat.zero_le _, rfl, rfl, rfl⟩
      case round =>
        obtain ⟨j, hj, rfl, rfl, rfl⟩ := hrel
        by_cases hjl : j < M.length
        · obtain ⟨g, cap', hv', c1, _⟩ := H.out.at_ hjl
          rw [HV.out] at hv'
          injection hv' with ha _ hcap
          subst ha
          clear hcap
          have c1r := HK.out.cell' c1
          have hs : M.bestTo last (j + 1) = if last < (M.m j).1 ∧ (M.bestTo last j < 0 ∨ (M.m j).1 < M.bestTo last j) then (M.m j).1 else M.bestTo last j := rfl
          generalize hb2 : M.bestTo last (j + 1) = b2 at *
          generalize M.bestTo last j = b at *
          generalize (M.m j).1 = x at *
          have HB2 := Lib.hid hb2
          by_cases h1 : last < x
          · by_cases h2 : b < 0
            · have HS : Hid (b2 = x) := Lib.hid (by rw [hs, if_pos ⟨h1, .inl h2⟩])
              clear hs hb2
              go_wp2
              go_roundw
              case rel => exact ⟨j + 1, hjl, by go_num, by rw [HB2.out, HS.out], trivial⟩
              case measure => simp [intOf]; omega
            · by_cases h3 : x < b
              · have HS : Hid (b2 = x) := Lib.hid (by rw [hs, if_pos ⟨h1, .inr h3⟩])
                clear hs hb2
                go_wp2
                go_roundw
                case rel => exact ⟨j + 1, hjl, by go_num, by rw [HB2.out, HS.out], trivial⟩
                case measure => simp [intOf]; omega
              · have HS : Hid (b2 = b) := Lib.hid (by rw [hs, if_neg (by omega)])
                clear hs hb2
                go_wp2
                go_roundw
                case rel => exact ⟨j + 1, hjl, by go_num, by rw [HB2.out, HS.out], trivial⟩
                case measure => simp [intOf]; omega
          · have HS : Hid (b2 = b) := Lib.hid (by rw [hs, if_neg (by omega)])
            clear hs hb2
            go_wp2
            go_roundw
            case rel => exact ⟨j + 1, hjl, by go_num, by rw [HB2.out, HS.out], trivial⟩
            case measure => simp [intOf]; omega
        · have hjj : j = M.length := by omega
          subst hjj
          have HST := Lib.hid (HD.out.step HF.out hlt)
          have hol : (ints out).length = k := by simp [ints, HD.out.len]
          generalize M.bestTo last M.length = b at *
          go_wp2_with (refine stop_at (o := ⟨some 64, _, _, _, _, _⟩) ?_)
          refine Stop.mk ?_
          refine wpList_one_int rfl _ rfl b rfl ?_
          intro w4 hb4 hs4 hk4
          have HK4 := Lib.hid (HK.out.trans hk4)
          have HO4 := Lib.hid (own_same HO.out fun g hg => hk4.block_eq (own_lt' HO.out hg))
          have HB4 := hb4
          clear hb4 hs4 hk4
          go_wp2_with (refine stop_at (o := ⟨some 65, _, _, _, _, _⟩) ?_)
          refine Stop.mk ?_
          refine wpList_append_app _ rfl _ _ rfl ty_ints w.heap.size _ k (ints out) rfl (.inl HO4.out) _ 1 [Value.int .i64 b] rfl (Src.of_cells (by simpa using Cells.of_block HB4.out) rfl (Nat.le_refl _)) (by intro u hu; simp at hu; subst hu; rfl) (by unfold maxLen; omega) (by omega) HK4.out.size ?_
          intro v' w5 _ hg5 hbl5 hown5
          have HO5 : Hid (w5.ownsRow w.heap.size 3 1 v' (k + 1) (ints (out ++ [b]))) := Lib.hid (by have := hown5 (.inl (by decide)); simpa [ints] using this)
          have HK5 : Hid (Kept w w5) := Lib.hid (Below.trans HK4.out hbl5)
          clear hg5 hbl5 hown5 HO4
          go_wp2
          go_roundw
          case rel => exact ⟨k + 1, out ++ [b], b, hlt, by go_num, rfl, HO5, HST, HK5⟩
          case measure => simp [intOf]; omega
    · have hkk : k = M.length := by omega
      subst hkk
      have HR := Lib.hid (HD.out.all HF.out)
      have HL := Lib.hid HD.out.len
      have HP := Lib.hid HD.out.ris
      clear HD
      go_wp2
      go_ret
      exact ⟨_, out, rfl, HR.out, HP.out, by rw [HL.out]; exact HO.out, HK.out⟩
end
end Go.Proofs.YtglplhmclfekfaaDoor
