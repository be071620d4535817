/- slices.Index, Clone, IndexFunc, DeleteFunc at []int, as usage calls them. -/
import Derived.Test.YtglplhmclfekfaaUsd
import Derived.Lib.SliceRun
namespace Go.Proofs.Ytglplhmclfekfaa
open Go.RowKit Go.ChangeMaps Go.MapKept
set_option linter.unusedVariables false
set_option linter.unusedSimpArgs false

def idxI (l : List Int) (x : Int) : Int := match l.findIdx? (fun y => y == x) with | some k => k | none => -1
theorem idxI_hit {l : List Int} {x : Int} {k : Nat} (hk : k < l.length) (hno : ∀ i (h : i < l.length), i < k → l[i] ≠ x) (h : l[k] = x) : idxI l x = k := by
  have : l.findIdx? (fun y => y == x) = some k := by
    rw [List.findIdx?_eq_some_iff_getElem]
    exact ⟨hk, by simpa using h, fun j hj => by simpa using hno j (by omega) hj⟩
  simp [idxI, this]
theorem idxI_miss {l : List Int} {x : Int} (hno : ∀ i (h : i < l.length), l[i] ≠ x) : idxI l x = -1 := by
  have : l.findIdx? (fun y => y == x) = none := by
    rw [List.findIdx?_eq_none_iff]
    intro y hy
    obtain ⟨i, hi, rfl⟩ := List.getElem_of_mem hy
    simpa using hno i hi
  simp [idxI, this]
/-- the cells from the block's begin on read l -/
def IRow (w : World) (b : Nat) (l : List Int) : Prop := Cells w b 0 (ints l)
theorem IRow.at {w : World} {b : Nat} {l : List Int} (h : IRow w b l) (k : Nat) (hk : k < l.length) : w.cell? ⟨b, k, none⟩ = some (.int .i64 l[k]) := by
  have := h k (by rw [ints_length]; exact hk)
  simpa [ints] using this
theorem IRow.of_block {w : World} {b : Nat} {l : List Int} {rest : List Value} {t : TypeId} {fr : Nat × Nat} (h : w.heap[b]? = some (.cells (ints l ++ rest).toArray t fr)) : IRow w b l := by
  intro j hj
  have := Cells.of_block h j (by simp; omega)
  simpa [List.getElem_append_left hj] using this
theorem IRow.kept {w w' : World} {b : Nat} {l : List Int} (h : IRow w b l) (hk : Kept w w') : IRow w' b l := Cells.kept h hk

section
variable {w : World}
set_option maxHeartbeats 1000000
set_option maxRecDepth 100000
theorem slices_Index (l : List Int) (x : Int) (b c : Nat) (w : World) (hl : l.length ≤ 4096) (hr : IRow w b l) :
    Calls Try.prog 127 #[.slice (some ⟨b, 0, none⟩) l.length c, .int .i64 x] w fun e w' => e = .returned (.int .i64 (idxI l x)) ∧ w = w' := by
  have HR := Lib.hid hr; clear hr
  go_enter Try.func127, Try.ntmps127
  go_wp2
  go_loop [8] (fun i => ∃ k : Nat, k ≤ l.length ∧ i = .int .i64 k ∧ ∀ i (h : i < l.length), i < k → l[i] ≠ x) (fun i => l.length - (intOf i).toNat)
  case atStart => exact ⟨0, Nat.zero_le _, rfl, fun _ _ h => by omega⟩
  case round =>
    obtain ⟨k, hk, rfl, hno⟩ := hrel
    have HN := Lib.hid hno; clear hno
    by_cases hlt : k < l.length
    · have ck := HR.out.at k hlt
      by_cases hx : l[k] = x
      · have HX := Lib.hid hx
        rw [hx] at ck
        clear hx
        have hxx : (x == x) = true := by simp
        go_wp2
        go_ret
        exact ⟨by rw [idxI_hit hlt HN.out HX.out]; rfl, rfl⟩
      · have HX := Lib.hid hx
        have hne : (x == l[k]) = false := by simp; exact fun e => hx e.symm
        clear hx
        generalize hy : l[k] = y at *
        have HY := Lib.hid hy; clear hy
        go_wp2
        go_round
        case rel => exact ⟨k + 1, by omega, by go_num, fun i h hi => by
          rcases Nat.lt_succ_iff_lt_or_eq.1 hi with h' | rfl
          · exact HN.out i h h'
          · rw [HY.out]; exact HX.out⟩
        case measure => simp [intOf]; omega
    · go_wp2
      go_ret
      exact ⟨by rw [idxI_miss (fun i h => HN.out i h (by omega))]; rfl, rfl⟩

theorem usage_isDead (x : Int) (w : World) : Calls Try.prog 96 #[.int .i64 x] w fun e w' => e = .returned (.bool (x == -1)) ∧ w = w' := by
  go_enter Try.func96, Try.ntmps96
  go_wp2
  go_ret
  exact ⟨rfl, rfl⟩

theorem slices_IndexFunc (l : List Int) (b c : Nat) (w : World) (hl : l.length ≤ 4096) (hr : IRow w b l) :
    Calls Try.prog 135 #[.slice (some ⟨b, 0, none⟩) l.length c, .func (.func 96) #[] #[]] w fun e w' => e = .returned (.int .i64 (idxI l (-1))) ∧ w = w' := by
  have HR := Lib.hid hr; clear hr
  go_enter Try.func135, Try.ntmps135
  go_wp2
  go_loop [8] (fun i => ∃ k : Nat, k ≤ l.length ∧ i = .int .i64 k ∧ ∀ i (h : i < l.length), i < k → l[i] ≠ -1) (fun i => l.length - (intOf i).toNat)
  case atStart => exact ⟨0, Nat.zero_le _, rfl, fun _ _ h => by omega⟩
  case round =>
    obtain ⟨k, hk, rfl, hno⟩ := hrel
    have HN := Lib.hid hno; clear hno
    by_cases hlt : k < l.length
    · have ck := HR.out.at k hlt
      by_cases hx : l[k] = -1
      · have HX := Lib.hid hx
        rw [hx] at ck
        clear hx
        go_wp2_with (go_at_call 96; refine (usage_isDead _ _).mono ?_; rintro e w' ⟨rfl, rfl⟩)
        go_ret
        exact ⟨by rw [idxI_hit hlt HN.out HX.out]; rfl, rfl⟩
      · have HX := Lib.hid hx
        have hne : (l[k] == -1) = false := by simpa using hx
        clear hx
        generalize hy : l[k] = y at *
        have HY := Lib.hid hy; clear hy
        go_wp2_with (go_at_call 96; refine (usage_isDead _ _).mono ?_; rintro e w' ⟨rfl, rfl⟩)
        go_round
        case rel => exact ⟨k + 1, by omega, by go_num, fun i h hi => by
          rcases Nat.lt_succ_iff_lt_or_eq.1 hi with h' | rfl
          · exact HN.out i h h'
          · rw [HY.out]; exact HX.out⟩
        case measure => simp [intOf]; omega
    · go_wp2
      go_ret
      exact ⟨by rw [idxI_miss (fun i h => HN.out i h (by omega))]; rfl, rfl⟩

theorem ty_ints : ElemT Try.prog 56 3 1 8 := by
  obtain ⟨i, h1, h2, h3, h4⟩ := info_parts (P := Try.prog) (e := 3) (z := .int .i64 0) (size := 1) (bytes := 8) (by kernel_rfl)
  exact ⟨by kernel_rfl, ⟨i, _, h1, h2, h3, h4, by rfl⟩, by decide⟩
theorem ints_one (l : List Int) : ∀ u ∈ ints l, u.oneCell' = true := by
  intro u hu
  simp only [ints, List.mem_map] at hu
  obtain ⟨n, _, rfl⟩ := hu
  rfl
theorem slices_Clone (l : List Int) (b c : Nat) (w : World) (h0 : 0 < l.length) (hl : l.length ≤ 4096) (hc : l.length ≤ c) (hr : IRow w b l) :
    Calls Try.prog 65 #[.slice (some ⟨b, 0, none⟩) l.length c] w fun e w' => ∃ g cap rest, e = .returned (.slice (some ⟨g, 0, none⟩) l.length cap) ∧ w'.heap[g]? = some (.cells (ints l ++ rest).toArray 3 (0, 0)) ∧ w.heap.size ≤ g ∧ l.length + rest.length = cap ∧ cap ≤ maxLen ∧ Kept w w' := by
  have HR := Lib.hid hr; clear hr
  have e1 := eq_nil
  have ka : ∀ o, Kept w (w.alloc o) := fun o => (Kept.refl _).alloc o
  go_enter Try.func65, Try.ntmps65
  go_wp2_with (at_builtin; refine stop_at ?_)
  refine Stop.mk ?_
  refine wpList_append_app _ rfl _ _ rfl ty_ints w.heap.size (.slice (some ⟨w.heap.size, 0, none⟩) 0 0) 0 [] rfl (.inr ⟨rfl, _, rfl, by simp, by simp⟩) _ l.length (ints l) rfl (Src.of_cells (Cells.kept HR.out (ka _)) (by rw [ints_length, Nat.mul_one]) hc) (ints_one l) (by simp only [maxLen]; omega) (by omega) (by simp) ?_
  intro v' w' _ _ hb hown
  have ho := hown (.inl h0)
  rw [Nat.zero_add, List.nil_append] at ho
  clear hown
  have hk : Kept w w' := (ka _).below (Nat.le_refl _) hb
  rcases ho.2 with ⟨_, h⟩ | ⟨g, cap, cur, rfl, hg, hh, hn, hm, hs, ht⟩
  · omega
  have HT := Lib.hid ht; clear ht
  have HH := Lib.hid hh; clear hh
  have HS := Lib.hid hs; clear hs
  clear ho hb
  go_wp2
  go_ret
  have e : cur = (ints l ++ cur.toList.drop l.length).toArray := by
    have h := HT.out
    rw [Nat.mul_one] at h
    rw [← h, List.take_append_drop, Array.toArray_toList]
  refine ⟨g, cap, cur.toList.drop l.length, rfl, by rw [← e]; exact HH.out, hg, ?_, hm, hk⟩
  have := HS.out
  simp; omega
end
end Go.Proofs.Ytglplhmclfekfaa
