/- PbA: several texts in one: Com Cox Cow Cog Coi Fam Faw Fai Fac Vmi Vmm Vmn. -/
import Derived.Test.YtiijfocdjcjlaaaGreatPaA
/- slices.Clone at []braidwork/api.Member (gen_cln.py m). -/
namespace Go.Proofs.YtiijfocdjcjlaaaGreat
open Go.RowKit
set_option linter.unusedVariables false
set_option linter.unusedSimpArgs false
set_option maxRecDepth 100000
set_option maxHeartbeats 1000000
theorem eq_nil_m (w : World) (a : Option Addr) (n c : Nat) : (binOp .eql 22 (.slice a n c) (.slice none 0 0)).run Tryz.prog w = .ok (.bool a.isNone) w := by
  simp only [binOp]
  simp [Op.equal, Op.maxDepth, Lib.run_equalIn_slice_nil w 9999 22 56 a n c 0 0 Tryz.underlying22]
theorem tyE_m : ElemT Tryz.prog 22 56 3 24 := by
  obtain ⟨i, h1, h2, h3, h4⟩ := info_parts (P := Tryz.prog) (e := 56) (z := .agg #[.int .i64 0, .int .i64 0, .int .i64 0]) (size := 3) (bytes := 24) (by kernel_rfl)
  exact ⟨by kernel_rfl, ⟨i, _, h1, h2, h3, h4, by rfl⟩, by decide⟩
theorem cln_m (l : List Mb) (v : Value) (w : World) (hlen : l.length ≤ 4096) (hm : RSl trip 3 w v l) :
    Calls Tryz.prog 41 #[v] w fun e w' => ∃ v', e = .returned v' ∧ App w' w.heap.size 56 3 v' l.length (l.flatMap trip) ∧ (0 < l.length → w'.ownsRow w.heap.size 56 3 v' l.length (l.flatMap trip)) ∧ RSl trip 3 w' v' l ∧ Kept w w' := by
  obtain ⟨oa, cap, rfl, hcap⟩ := hm.form
  skip
  have e1 := eq_nil_m
  have ka : ∀ o, Kept w (w.alloc o) := fun o => (Kept.refl _).alloc o
  cases oa with
  | none =>
    have hl : l = [] := by
      rcases l with _ | ⟨x, l⟩
      · rfl
      · obtain ⟨b, off, e, _⟩ := hm.at (show 0 < (x :: l).length by simp); cases e
    subst hl
    clear hm
    go_enter Tryz.func41, Tryz.ntmps41
    go_wp2
    go_ret
    exact ⟨_, rfl, App.empty _ _ _ _, by intro h; exact absurd h (by simp), RSl.nil, Kept.refl _⟩
  | some a =>
    have hs := RSl.src trip_len hm
    have HS := Lib.hid hs; clear hs hm
    go_enter Tryz.func41, Tryz.ntmps41
    go_wp2_with (at_builtin; refine stop_at ?_)
    refine Stop.mk ?_
    refine wpList_append_app _ rfl _ _ rfl tyE_m w.heap.size (.slice (some ⟨w.heap.size, 0, none⟩) 0 0) 0 [] rfl (.inr ⟨rfl, _, rfl, by simp, by simp⟩) _ l.length (l.flatMap trip) rfl (HS.out.kept (ka _)) (by intro u hu; simp only [List.mem_flatMap] at hu; obtain ⟨x, hx, hu⟩ := hu; simp only [trip, List.mem_cons, List.not_mem_nil, or_false] at hu; rcases hu with rfl | rfl | rfl; rfl; rfl; rfl) (by simp only [maxLen]; omega) (by omega) (by simp) ?_
    intro v' w' ha _ hb hown
    rw [Nat.zero_add, List.nil_append] at ha hown
    have HA := Lib.hid ha; clear ha
    have HO : Hid (0 < l.length → w'.ownsRow w.heap.size 56 3 v' l.length (l.flatMap trip)) := Lib.hid (fun h => hown (.inl h))
    have hk : Kept w w' := (ka _).below (Nat.le_refl _) hb
    clear hown hb
    go_wp2
    go_ret
    refine ⟨_, rfl, HA.out, HO.out, ?_, hk⟩
    rcases Nat.eq_zero_or_pos l.length with h0 | h0
    · have hl : l = [] := List.eq_nil_of_length_eq_zero h0
      subst hl
      exact RSl.of_app HA.out
    · exact RSl.of_owns trip_len rfl (HO.out h0)
end Go.Proofs.YtiijfocdjcjlaaaGreat
/- slices.Clone at []braidwork/api.Extent (gen_cln.py x). -/
namespace Go.Proofs.YtiijfocdjcjlaaaGreat
open Go.RowKit
set_option linter.unusedVariables false
set_option linter.unusedSimpArgs false
set_option maxRecDepth 100000
set_option maxHeartbeats 1000000
theorem eq_nil_x (w : World) (a : Option Addr) (n c : Nat) : (binOp .eql 35 (.slice a n c) (.slice none 0 0)).run Tryz.prog w = .ok (.bool a.isNone) w := by
  simp only [binOp]
  simp [Op.equal, Op.maxDepth, Lib.run_equalIn_slice_nil w 9999 35 39 a n c 0 0 Tryz.underlying35]
theorem tyE_x : ElemT Tryz.prog 35 39 2 16 := by
  obtain ⟨i, h1, h2, h3, h4⟩ := info_parts (P := Tryz.prog) (e := 39) (z := .agg #[.int .i64 0, .int .i64 0]) (size := 2) (bytes := 16) (by kernel_rfl)
  exact ⟨by kernel_rfl, ⟨i, _, h1, h2, h3, h4, by rfl⟩, by decide⟩
theorem cln_x (l : List Ex) (v : Value) (w : World) (hlen : l.length ≤ 4096) (hm : RSl pairV 2 w v l) :
    Calls Tryz.prog 83 #[v] w fun e w' => ∃ v', e = .returned v' ∧ App w' w.heap.size 39 2 v' l.length (l.flatMap pairV) ∧ (0 < l.length → w'.ownsRow w.heap.size 39 2 v' l.length (l.flatMap pairV)) ∧ RSl pairV 2 w' v' l ∧ Kept w w' := by
  obtain ⟨oa, cap, rfl, hcap⟩ := hm.form
  skip
  have e1 := eq_nil_x
  have ka : ∀ o, Kept w (w.alloc o) := fun o => (Kept.refl _).alloc o
  cases oa with
  | none =>
    have hl : l = [] := by
      rcases l with _ | ⟨x, l⟩
      · rfl
      · obtain ⟨b, off, e, _⟩ := hm.at (show 0 < (x :: l).length by simp); cases e
    subst hl
    clear hm
    go_enter Tryz.func83, Tryz.ntmps83
    go_wp2
    go_ret
    exact ⟨_, rfl, App.empty _ _ _ _, by intro h; exact absurd h (by simp), RSl.nil, Kept.refl _⟩
  | some a =>
    have hs := RSl.src pairV_len hm
    have HS := Lib.hid hs; clear hs hm
    go_enter Tryz.func83, Tryz.ntmps83
    go_wp2_with (at_builtin; refine stop_at ?_)
    refine Stop.mk ?_
    refine wpList_append_app _ rfl _ _ rfl tyE_x w.heap.size (.slice (some ⟨w.heap.size, 0, none⟩) 0 0) 0 [] rfl (.inr ⟨rfl, _, rfl, by simp, by simp⟩) _ l.length (l.flatMap pairV) rfl (HS.out.kept (ka _)) (by intro u hu; simp only [List.mem_flatMap] at hu; obtain ⟨x, hx, hu⟩ := hu; simp only [pairV, List.mem_cons, List.not_mem_nil, or_false] at hu; rcases hu with rfl | rfl; rfl; rfl) (by simp only [maxLen]; omega) (by omega) (by simp) ?_
    intro v' w' ha _ hb hown
    rw [Nat.zero_add, List.nil_append] at ha hown
    have HA := Lib.hid ha; clear ha
    have HO : Hid (0 < l.length → w'.ownsRow w.heap.size 39 2 v' l.length (l.flatMap pairV)) := Lib.hid (fun h => hown (.inl h))
    have hk : Kept w w' := (ka _).below (Nat.le_refl _) hb
    clear hown hb
    go_wp2
    go_ret
    refine ⟨_, rfl, HA.out, HO.out, ?_, hk⟩
    rcases Nat.eq_zero_or_pos l.length with h0 | h0
    · have hl : l = [] := List.eq_nil_of_length_eq_zero h0
      subst hl
      exact RSl.of_app HA.out
    · exact RSl.of_owns pairV_len rfl (HO.out h0)
end Go.Proofs.YtiijfocdjcjlaaaGreat
/- slices.Clone at []braidwork/api.Where (gen_cln.py w). -/
namespace Go.Proofs.YtiijfocdjcjlaaaGreat
open Go.RowKit
set_option linter.unusedVariables false
set_option linter.unusedSimpArgs false
set_option maxRecDepth 100000
set_option maxHeartbeats 1000000
theorem eq_nil_w (w : World) (a : Option Addr) (n c : Nat) : (binOp .eql 24 (.slice a n c) (.slice none 0 0)).run Tryz.prog w = .ok (.bool a.isNone) w := by
  simp only [binOp]
  simp [Op.equal, Op.maxDepth, Lib.run_equalIn_slice_nil w 9999 24 41 a n c 0 0 Tryz.underlying24]
theorem tyE_w : ElemT Tryz.prog 24 41 3 24 := by
  obtain ⟨i, h1, h2, h3, h4⟩ := info_parts (P := Tryz.prog) (e := 41) (z := .agg #[.int .i64 0, .int .i64 0, .int .i64 0]) (size := 3) (bytes := 24) (by kernel_rfl)
  exact ⟨by kernel_rfl, ⟨i, _, h1, h2, h3, h4, by rfl⟩, by decide⟩
theorem cln_w (l : List Wh) (v : Value) (w : World) (hlen : l.length ≤ 4096) (hm : RSl trip 3 w v l) :
    Calls Tryz.prog 82 #[v] w fun e w' => ∃ v', e = .returned v' ∧ App w' w.heap.size 41 3 v' l.length (l.flatMap trip) ∧ (0 < l.length → w'.ownsRow w.heap.size 41 3 v' l.length (l.flatMap trip)) ∧ RSl trip 3 w' v' l ∧ Kept w w' := by
  obtain ⟨oa, cap, rfl, hcap⟩ := hm.form
  skip
  have e1 := eq_nil_w
  have ka : ∀ o, Kept w (w.alloc o) := fun o => (Kept.refl _).alloc o
  cases oa with
  | none =>
    have hl : l = [] := by
      rcases l with _ | ⟨x, l⟩
      · rfl
      · obtain ⟨b, off, e, _⟩ := hm.at (show 0 < (x :: l).length by simp); cases e
    subst hl
    clear hm
    go_enter Tryz.func82, Tryz.ntmps82
    go_wp2
    go_ret
    exact ⟨_, rfl, App.empty _ _ _ _, by intro h; exact absurd h (by simp), RSl.nil, Kept.refl _⟩
  | some a =>
    have hs := RSl.src trip_len hm
    have HS := Lib.hid hs; clear hs hm
    go_enter Tryz.func82, Tryz.ntmps82
    go_wp2_with (at_builtin; refine stop_at ?_)
    refine Stop.mk ?_
    refine wpList_append_app _ rfl _ _ rfl tyE_w w.heap.size (.slice (some ⟨w.heap.size, 0, none⟩) 0 0) 0 [] rfl (.inr ⟨rfl, _, rfl, by simp, by simp⟩) _ l.length (l.flatMap trip) rfl (HS.out.kept (ka _)) (by intro u hu; simp only [List.mem_flatMap] at hu; obtain ⟨x, hx, hu⟩ := hu; simp only [trip, List.mem_cons, List.not_mem_nil, or_false] at hu; rcases hu with rfl | rfl | rfl; rfl; rfl; rfl) (by simp only [maxLen]; omega) (by omega) (by simp) ?_
    intro v' w' ha _ hb hown
    rw [Nat.zero_add, List.nil_append] at ha hown
    have HA := Lib.hid ha; clear ha
    have HO : Hid (0 < l.length → w'.ownsRow w.heap.size 41 3 v' l.length (l.flatMap trip)) := Lib.hid (fun h => hown (.inl h))
    have hk : Kept w w' := (ka _).below (Nat.le_refl _) hb
    clear hown hb
    go_wp2
    go_ret
    refine ⟨_, rfl, HA.out, HO.out, ?_, hk⟩
    rcases Nat.eq_zero_or_pos l.length with h0 | h0
    · have hl : l = [] := List.eq_nil_of_length_eq_zero h0
      subst hl
      exact RSl.of_app HA.out
    · exact RSl.of_owns trip_len rfl (HO.out h0)
end Go.Proofs.YtiijfocdjcjlaaaGreat
/- slices.Clone at []braidwork/api.Group (gen_cln.py g). -/
namespace Go.Proofs.YtiijfocdjcjlaaaGreat
open Go.RowKit
set_option linter.unusedVariables false
set_option linter.unusedSimpArgs false
set_option maxRecDepth 100000
set_option maxHeartbeats 1000000
theorem eq_nil_g (w : World) (a : Option Addr) (n c : Nat) : (binOp .eql 23 (.slice a n c) (.slice none 0 0)).run Tryz.prog w = .ok (.bool a.isNone) w := by
  simp only [binOp]
  simp [Op.equal, Op.maxDepth, Lib.run_equalIn_slice_nil w 9999 23 37 a n c 0 0 Tryz.underlying23]
theorem tyE_g : ElemT Tryz.prog 23 37 3 40 := by
  obtain ⟨i, h1, h2, h3, h4⟩ := info_parts (P := Tryz.prog) (e := 37) (z := .agg #[.int .i64 0, .int .i64 0, .slice none 0 0]) (size := 3) (bytes := 40) (by kernel_rfl)
  exact ⟨by kernel_rfl, ⟨i, _, h1, h2, h3, h4, by rfl⟩, by decide⟩
theorem cln_g (l : List Gw) (v : Value) (w : World) (hlen : l.length ≤ 4096) (h1 : ∀ x ∈ l, x.2.2.oneCell' = true) (hm : RSl grw 3 w v l) :
    Calls Tryz.prog 62 #[v] w fun e w' => ∃ v', e = .returned v' ∧ App w' w.heap.size 37 3 v' l.length (l.flatMap grw) ∧ (0 < l.length → w'.ownsRow w.heap.size 37 3 v' l.length (l.flatMap grw)) ∧ RSl grw 3 w' v' l ∧ Kept w w' := by
  obtain ⟨oa, cap, rfl, hcap⟩ := hm.form
  have H1 := Lib.hid h1; clear h1
  have e1 := eq_nil_g
  have ka : ∀ o, Kept w (w.alloc o) := fun o => (Kept.refl _).alloc o
  cases oa with
  | none =>
    have hl : l = [] := by
      rcases l with _ | ⟨x, l⟩
      · rfl
      · obtain ⟨b, off, e, _⟩ := hm.at (show 0 < (x :: l).length by simp); cases e
    subst hl
    clear hm
    go_enter Tryz.func62, Tryz.ntmps62
    go_wp2
    go_ret
    exact ⟨_, rfl, App.empty _ _ _ _, by intro h; exact absurd h (by simp), RSl.nil, Kept.refl _⟩
  | some a =>
    have hs := RSl.src grw_len hm
    have HS := Lib.hid hs; clear hs hm
    go_enter Tryz.func62, Tryz.ntmps62
    go_wp2_with (at_builtin; refine stop_at ?_)
    refine Stop.mk ?_
    refine wpList_append_app _ rfl _ _ rfl tyE_g w.heap.size (.slice (some ⟨w.heap.size, 0, none⟩) 0 0) 0 [] rfl (.inr ⟨rfl, _, rfl, by simp, by simp⟩) _ l.length (l.flatMap grw) rfl (HS.out.kept (ka _)) (by intro u hu; simp only [List.mem_flatMap] at hu; obtain ⟨x, hx, hu⟩ := hu; simp only [grw, List.mem_cons, List.not_mem_nil, or_false] at hu; rcases hu with rfl | rfl | rfl; rfl; rfl; exact H1.out x hx) (by simp only [maxLen]; omega) (by omega) (by simp) ?_
    intro v' w' ha _ hb hown
    rw [Nat.zero_add, List.nil_append] at ha hown
    have HA := Lib.hid ha; clear ha
    have HO : Hid (0 < l.length → w'.ownsRow w.heap.size 37 3 v' l.length (l.flatMap grw)) := Lib.hid (fun h => hown (.inl h))
    have hk : Kept w w' := (ka _).below (Nat.le_refl _) hb
    clear hown hb
    go_wp2
    go_ret
    refine ⟨_, rfl, HA.out, HO.out, ?_, hk⟩
    rcases Nat.eq_zero_or_pos l.length with h0 | h0
    · have hl : l = [] := List.eq_nil_of_length_eq_zero h0
      subst hl
      exact RSl.of_app HA.out
    · exact RSl.of_owns grw_len rfl (HO.out h0)
end Go.Proofs.YtiijfocdjcjlaaaGreat
/- slices.Clone at []int (gen_cln.py i). -/
namespace Go.Proofs.YtiijfocdjcjlaaaGreat
open Go.RowKit
set_option linter.unusedVariables false
set_option linter.unusedSimpArgs false
set_option maxRecDepth 100000
set_option maxHeartbeats 1000000
theorem eq_nil_i (w : World) (a : Option Addr) (n c : Nat) : (binOp .eql 25 (.slice a n c) (.slice none 0 0)).run Tryz.prog w = .ok (.bool a.isNone) w := by
  simp only [binOp]
  simp [Op.equal, Op.maxDepth, Lib.run_equalIn_slice_nil w 9999 25 3 a n c 0 0 Tryz.underlying25]
theorem tyE_i : ElemT Tryz.prog 25 3 1 8 := by
  obtain ⟨i, h1, h2, h3, h4⟩ := info_parts (P := Tryz.prog) (e := 3) (z := .int .i64 0) (size := 1) (bytes := 8) (by kernel_rfl)
  exact ⟨by kernel_rfl, ⟨i, _, h1, h2, h3, h4, by rfl⟩, by decide⟩
theorem cln_i (l : List Int) (v : Value) (w : World) (hlen : l.length ≤ 4096) (hm : RSl oneV 1 w v l) :
    Calls Tryz.prog 78 #[v] w fun e w' => ∃ v', e = .returned v' ∧ App w' w.heap.size 3 1 v' l.length (l.flatMap oneV) ∧ (0 < l.length → w'.ownsRow w.heap.size 3 1 v' l.length (l.flatMap oneV)) ∧ RSl oneV 1 w' v' l ∧ Kept w w' := by
  obtain ⟨oa, cap, rfl, hcap⟩ := hm.form
  skip
  have e1 := eq_nil_i
  have ka : ∀ o, Kept w (w.alloc o) := fun o => (Kept.refl _).alloc o
  cases oa with
  | none =>
    have hl : l = [] := by
      rcases l with _ | ⟨x, l⟩
      · rfl
      · obtain ⟨b, off, e, _⟩ := hm.at (show 0 < (x :: l).length by simp); cases e
    subst hl
    clear hm
    go_enter Tryz.func78, Tryz.ntmps78
    go_wp2
    go_ret
    exact ⟨_, rfl, App.empty _ _ _ _, by intro h; exact absurd h (by simp), RSl.nil, Kept.refl _⟩
  | some a =>
    have hs := RSl.src oneV_len hm
    have HS := Lib.hid hs; clear hs hm
    go_enter Tryz.func78, Tryz.ntmps78
    go_wp2_with (at_builtin; refine stop_at ?_)
    refine Stop.mk ?_
    refine wpList_append_app _ rfl _ _ rfl tyE_i w.heap.size (.slice (some ⟨w.heap.size, 0, none⟩) 0 0) 0 [] rfl (.inr ⟨rfl, _, rfl, by simp, by simp⟩) _ l.length (l.flatMap oneV) rfl (HS.out.kept (ka _)) (by intro u hu; simp only [List.mem_flatMap] at hu; obtain ⟨x, hx, hu⟩ := hu; simp only [oneV, List.mem_cons, List.not_mem_nil, or_false] at hu; subst hu; rfl) (by simp only [maxLen]; omega) (by omega) (by simp) ?_
    intro v' w' ha _ hb hown
    rw [Nat.zero_add, List.nil_append] at ha hown
    have HA := Lib.hid ha; clear ha
    have HO : Hid (0 < l.length → w'.ownsRow w.heap.size 3 1 v' l.length (l.flatMap oneV)) := Lib.hid (fun h => hown (.inl h))
    have hk : Kept w w' := (ka _).below (Nat.le_refl _) hb
    clear hown hb
    go_wp2
    go_ret
    refine ⟨_, rfl, HA.out, HO.out, ?_, hk⟩
    rcases Nat.eq_zero_or_pos l.length with h0 | h0
    · have hl : l = [] := List.eq_nil_of_length_eq_zero h0
      subst hl
      exact RSl.of_app HA.out
    · exact RSl.of_owns oneV_len rfl (HO.out h0)
end Go.Proofs.YtiijfocdjcjlaaaGreat
/- IndexFunc, ContainsFunc, not, all at []braidwork/api.Member, with any function value (gen_fam.py m). -/
namespace Go.Proofs.YtiijfocdjcjlaaaGreat
open Go.RowKit
set_option linter.unusedVariables false
set_option linter.unusedSimpArgs false
set_option maxRecDepth 100000
set_option maxHeartbeats 1000000

theorem idx_m {σ : Type} (h : σ → Mb → Bool × σ) (I : σ → World → Prop) (T : Nat → Prop) (s : σ) (l : List Mb) (g : Nat) (bd caps : Array Value) (v : Value) (w : World) (hlen : l.length ≤ 4096)
    (hm : ∀ s w, I s w → RSl trip 3 w v l) (hs : I s w) (hf : FnI Tryz.prog g bd caps (fun x => .agg (trip x).toArray) h I T) :
    Calls Tryz.prog 95 #[v, .func (.func g) bd caps] w fun e w' => e = .returned (.int .i64 (idxF h s l 0).1) ∧ I (idxF h s l 0).2 w' ∧ KeptX T w w' := by
  have hent := hf.ent
  obtain ⟨oa, cap, rfl, hcap⟩ := (hm s w hs).form
  have HM := Lib.hid hm; clear hm
  have HF := Lib.hid hf; clear hf
  go_enter Tryz.func95, Tryz.ntmps95
  go_wp2
  go_loopw [8] (fun i wr => ∃ k : Nat, k ≤ l.length ∧ i = .int .i64 k ∧ ∃ s1, I s1 wr ∧ KeptX T w wr ∧ idxF h s l 0 = idxF h s1 (l.drop k) k) (fun i _ => l.length - (intOf i).toNat)
  case atStart => exact ⟨0, Nat.zero_le _, rfl, s, hs, KeptX.refl _, rfl⟩
  case round =>
    obtain ⟨k, hk, rfl, s1, hs1, hbel, hno⟩ := hrel
    have HN := Lib.hid hno; clear hno
    by_cases hlt : k < l.length
    · obtain ⟨b, off, rfl, hb, hcs⟩ := (HM.out _ _ hs1).at hlt
      have h0 := hcs 0 (by rw [trip_len]; decide)
      have h1 := hcs 1 (by rw [trip_len]; decide)
      have h2 := hcs 2 (by rw [trip_len]; decide)
      simp only [Nat.add_zero, Nat.mul_one, trip, List.getElem_cons_zero, List.getElem_cons_succ] at h0 h1 h2
      clear hcs
      have hC := HF.out.call s1 l[k] _ hs1
      try dsimp only at hC
      try simp only [trip] at hC
      cases hp : (h s1 l[k]).1 with
      | true =>
        have HP := Lib.hid hp
        simp only [hp] at hC
        clear hp
        go_wp2_with (refine hC.mono ?_; rintro e w' ⟨rfl, hi1, hb1⟩)
        go_ret
        exact ⟨by rw [HN.out, idxF_hit hlt HP.out]; rfl, by rw [HN.out, idxF_hit hlt HP.out]; exact hi1, hbel.trans hb1⟩
      | false =>
        have HP := Lib.hid hp
        simp only [hp] at hC
        clear hp
        go_wp2_with (refine hC.mono ?_; rintro e w' ⟨rfl, hi1, hb1⟩)
        go_roundw
        case rel => exact ⟨k + 1, by omega, by go_num, _, hi1, hbel.trans hb1, by rw [HN.out, idxF_miss hlt HP.out]⟩
        case measure => simp [intOf]; omega
    · have e := idxF_end (h := h) (s := s1) (l := l) (k := k) (by omega)
      have HE := Lib.hid e; clear e
      go_wp2
      go_ret
      exact ⟨by rw [HN.out, HE.out]; rfl, by rw [HN.out, HE.out]; exact hs1, hbel⟩
theorem con_m {σ : Type} (h : σ → Mb → Bool × σ) (I : σ → World → Prop) (T : Nat → Prop) (s : σ) (l : List Mb) (g : Nat) (bd caps : Array Value) (v : Value) (w : World) (hlen : l.length ≤ 4096)
    (hm : ∀ s w, I s w → RSl trip 3 w v l) (hs : I s w) (hf : FnI Tryz.prog g bd caps (fun x => .agg (trip x).toArray) h I T) :
    Calls Tryz.prog 52 #[v, .func (.func g) bd caps] w fun e w' => e = .returned (.bool (anyF h s l).1) ∧ I (anyF h s l).2 w' ∧ KeptX T w w' := by
  have hC := idx_m h I T s l g bd caps v w hlen hm hs hf
  clear hm hs hf
  go_enter Tryz.func52, Tryz.ntmps52
  go_wp2_with (go_at_call 95; refine hC.mono ?_; rintro e w' ⟨rfl, hi1, hb1⟩)
  go_ret
  exact ⟨rfl, hi1, hb1⟩
/-- the function value that stands in the first cell of a block -/
def Heldm (nb g : Nat) (bd caps : Array Value) (w : World) : Prop := w.cell? ⟨nb, 0, none⟩ = some (.func (.func g) bd caps)
theorem not1_m {σ : Type} (h : σ → Mb → Bool × σ) (I : σ → World → Prop) (T : Nat → Prop) (g nb : Nat) (bd caps : Array Value) (hA : ∀ s w o, I s w → I s (w.alloc o)) (hT : ¬ T nb)
    (hf : FnI Tryz.prog g bd caps (fun x => .agg (trip x).toArray) h I T) :
    FnI Tryz.prog 96 #[] #[.pointer (some ⟨nb, 0, none⟩)] (fun x => .agg (trip x).toArray) (notF h) (fun s w => I s w ∧ Heldm nb g bd caps w) T := by
  refine ⟨fun xs w1 => rfl, fun s x w1 hs => ?_⟩
  obtain ⟨hs, hh⟩ := hs
  have hent := hf.ent
  have HF := Lib.hid hf; clear hf
  have HA := Lib.hid hA; clear hA
  have hh0 := hh
  unfold Heldm at hh0
  have hlt := World.block_lt_of_cell? _ _ hh0
  have hC := fun o => HF.out.call s x _ (HA.out _ _ o hs)
  try dsimp only at hC
  try simp only [trip] at hC
  show Calls Tryz.prog 96 #[.agg (trip x).toArray, .pointer (some ⟨nb, 0, none⟩)] w1 _
  have hB : ∀ o, KeptX T w1 (w1.alloc o) := fun o => KeptX.of ((Kept.refl _).alloc o)
  have HB := Lib.hid hB; clear hB
  try simp only [trip]
  go_enter Tryz.func96, Tryz.ntmps96
  go_wp2_with (refine (hC _).mono ?_; rintro e w' ⟨rfl, hi1, hb1⟩)
  go_ret
  exact ⟨rfl, ⟨hi1, (HB.out _ |>.trans hb1).cell hh hT⟩, HB.out _ |>.trans hb1⟩
theorem not_m {σ : Type} (h : σ → Mb → Bool × σ) (I : σ → World → Prop) (T : Nat → Prop) (s : σ) (g : Nat) (bd caps : Array Value) (w : World) (hS : ∀ o, I s (w.alloc o)) :
    Calls Tryz.prog 53 #[.func (.func g) bd caps] w fun e w' => e = .returned (.func (.func 96) #[] #[.pointer (some ⟨w.heap.size, 0, none⟩)]) ∧ (I s w' ∧ Heldm w.heap.size g bd caps w') ∧ KeptX T w w' := by
  have HS := Lib.hid hS; clear hS
  have hB : ∀ o, KeptX T w (w.alloc o) := fun o => KeptX.of ((Kept.refl _).alloc o)
  have HB := Lib.hid hB; clear hB
  go_enter Tryz.func53, Tryz.ntmps53
  go_wp2
  go_ret
  refine ⟨rfl, ⟨HS.out _, ?_⟩, HB.out _⟩
  unfold Heldm
  unfold World.cell?
  rw [show ∀ o, (w.alloc o).heap[(⟨w.heap.size, 0, none⟩ : Addr).block]? = some o from fun o => heap_alloc_new w o]
  rfl
theorem all_m {σ : Type} (h : σ → Mb → Bool × σ) (I : σ → World → Prop) (T : Nat → Prop) (s : σ) (l : List Mb) (g : Nat) (bd caps : Array Value) (v : Value) (w : World) (hlen : l.length ≤ 4096)
    (hA : ∀ s w o, I s w → I s (w.alloc o)) (hT : ∀ b, T b → b < w.heap.size)
    (hm : ∀ s w, I s w → RSl trip 3 w v l) (hs : I s w) (hf : FnI Tryz.prog g bd caps (fun x => .agg (trip x).toArray) h I T) :
    Calls Tryz.prog 22 #[v, .func (.func g) bd caps] w fun e w' => e = .returned (.bool (allF h s l).1) ∧ I (allF h s l).2 w' ∧ KeptX T w w' := by
  have hn := not1_m h I T g w.heap.size bd caps hA (fun hx => Nat.lt_irrefl _ (hT _ hx)) hf
  have hC := fun w0 h1 => con_m (notF h) (fun s w1 => I s w1 ∧ Heldm w.heap.size g bd caps w1) T s l _ _ _ v w0 hlen (fun s w h => hm s w h.1) h1 hn
  have HC := Lib.hid hC; clear hC
  have hS : ∀ o, I s (w.alloc o) := fun o => hA _ _ _ hs
  have HS := Lib.hid hS; clear hS
  clear hm hs hf hn hA hT
  go_enter Tryz.func22, Tryz.ntmps22
  go_wp2_with (first | (go_at_call 53; refine (not_m h I T s g bd caps w HS.out).mono ?_; rintro e w' ⟨rfl, hi0, hb0⟩) | (go_at_call 52; refine (HC.out _ hi0).mono ?_; rintro e w' ⟨rfl, hi1, hb1⟩))
  go_ret
  exact ⟨rfl, hi1.1, hb0.trans hb1⟩
end Go.Proofs.YtiijfocdjcjlaaaGreat
/- IndexFunc, ContainsFunc, not, all at []braidwork/api.Where, with any function value (gen_fam.py w). -/
namespace Go.Proofs.YtiijfocdjcjlaaaGreat
open Go.RowKit
set_option linter.unusedVariables false
set_option linter.unusedSimpArgs false
set_option maxRecDepth 100000
set_option maxHeartbeats 1000000

theorem idx_w {σ : Type} (h : σ → Wh → Bool × σ) (I : σ → World → Prop) (T : Nat → Prop) (s : σ) (l : List Wh) (g : Nat) (bd caps : Array Value) (v : Value) (w : World) (hlen : l.length ≤ 4096)
    (hm : ∀ s w, I s w → RSl trip 3 w v l) (hs : I s w) (hf : FnI Tryz.prog g bd caps (fun x => .agg (trip x).toArray) h I T) :
    Calls Tryz.prog 124 #[v, .func (.func g) bd caps] w fun e w' => e = .returned (.int .i64 (idxF h s l 0).1) ∧ I (idxF h s l 0).2 w' ∧ KeptX T w w' := by
  have hent := hf.ent
  obtain ⟨oa, cap, rfl, hcap⟩ := (hm s w hs).form
  have HM := Lib.hid hm; clear hm
  have HF := Lib.hid hf; clear hf
  go_enter Tryz.func124, Tryz.ntmps124
  go_wp2
  go_loopw [8] (fun i wr => ∃ k : Nat, k ≤ l.length ∧ i = .int .i64 k ∧ ∃ s1, I s1 wr ∧ KeptX T w wr ∧ idxF h s l 0 = idxF h s1 (l.drop k) k) (fun i _ => l.length - (intOf i).toNat)
  case atStart => exact ⟨0, Nat.zero_le _, rfl, s, hs, KeptX.refl _, rfl⟩
  case round =>
    obtain ⟨k, hk, rfl, s1, hs1, hbel, hno⟩ := hrel
    have HN := Lib.hid hno; clear hno
    by_cases hlt : k < l.length
    · obtain ⟨b, off, rfl, hb, hcs⟩ := (HM.out _ _ hs1).at hlt
      have h0 := hcs 0 (by rw [trip_len]; decide)
      have h1 := hcs 1 (by rw [trip_len]; decide)
      have h2 := hcs 2 (by rw [trip_len]; decide)
      simp only [Nat.add_zero, Nat.mul_one, trip, List.getElem_cons_zero, List.getElem_cons_succ] at h0 h1 h2
      clear hcs
      have hC := HF.out.call s1 l[k] _ hs1
      try dsimp only at hC
      try simp only [trip] at hC
      cases hp : (h s1 l[k]).1 with
      | true =>
        have HP := Lib.hid hp
        simp only [hp] at hC
        clear hp
        go_wp2_with (refine hC.mono ?_; rintro e w' ⟨rfl, hi1, hb1⟩)
        go_ret
        exact ⟨by rw [HN.out, idxF_hit hlt HP.out]; rfl, by rw [HN.out, idxF_hit hlt HP.out]; exact hi1, hbel.trans hb1⟩
      | false =>
        have HP := Lib.hid hp
        simp only [hp] at hC
        clear hp
        go_wp2_with (refine hC.mono ?_; rintro e w' ⟨rfl, hi1, hb1⟩)
        go_roundw
        case rel => exact ⟨k + 1, by omega, by go_num, _, hi1, hbel.trans hb1, by rw [HN.out, idxF_miss hlt HP.out]⟩
        case measure => simp [intOf]; omega
    · have e := idxF_end (h := h) (s := s1) (l := l) (k := k) (by omega)
      have HE := Lib.hid e; clear e
      go_wp2
      go_ret
      exact ⟨by rw [HN.out, HE.out]; rfl, by rw [HN.out, HE.out]; exact hs1, hbel⟩
theorem con_w {σ : Type} (h : σ → Wh → Bool × σ) (I : σ → World → Prop) (T : Nat → Prop) (s : σ) (l : List Wh) (g : Nat) (bd caps : Array Value) (v : Value) (w : World) (hlen : l.length ≤ 4096)
    (hm : ∀ s w, I s w → RSl trip 3 w v l) (hs : I s w) (hf : FnI Tryz.prog g bd caps (fun x => .agg (trip x).toArray) h I T) :
    Calls Tryz.prog 106 #[v, .func (.func g) bd caps] w fun e w' => e = .returned (.bool (anyF h s l).1) ∧ I (anyF h s l).2 w' ∧ KeptX T w w' := by
  have hC := idx_w h I T s l g bd caps v w hlen hm hs hf
  clear hm hs hf
  go_enter Tryz.func106, Tryz.ntmps106
  go_wp2_with (go_at_call 124; refine hC.mono ?_; rintro e w' ⟨rfl, hi1, hb1⟩)
  go_ret
  exact ⟨rfl, hi1, hb1⟩
/-- the function value that stands in the first cell of a block -/
def Heldw (nb g : Nat) (bd caps : Array Value) (w : World) : Prop := w.cell? ⟨nb, 0, none⟩ = some (.func (.func g) bd caps)
theorem not1_w {σ : Type} (h : σ → Wh → Bool × σ) (I : σ → World → Prop) (T : Nat → Prop) (g nb : Nat) (bd caps : Array Value) (hA : ∀ s w o, I s w → I s (w.alloc o)) (hT : ¬ T nb)
    (hf : FnI Tryz.prog g bd caps (fun x => .agg (trip x).toArray) h I T) :
    FnI Tryz.prog 125 #[] #[.pointer (some ⟨nb, 0, none⟩)] (fun x => .agg (trip x).toArray) (notF h) (fun s w => I s w ∧ Heldw nb g bd caps w) T := by
  refine ⟨fun xs w1 => rfl, fun s x w1 hs => ?_⟩
  obtain ⟨hs, hh⟩ := hs
  have hent := hf.ent
  have HF := Lib.hid hf; clear hf
  have HA := Lib.hid hA; clear hA
  have hh0 := hh
  unfold Heldw at hh0
  have hlt := World.block_lt_of_cell? _ _ hh0
  have hC := fun o => HF.out.call s x _ (HA.out _ _ o hs)
  try dsimp only at hC
  try simp only [trip] at hC
  show Calls Tryz.prog 125 #[.agg (trip x).toArray, .pointer (some ⟨nb, 0, none⟩)] w1 _
  have hB : ∀ o, KeptX T w1 (w1.alloc o) := fun o => KeptX.of ((Kept.refl _).alloc o)
  have HB := Lib.hid hB; clear hB
  try simp only [trip]
  go_enter Tryz.func125, Tryz.ntmps125
  go_wp2_with (refine (hC _).mono ?_; rintro e w' ⟨rfl, hi1, hb1⟩)
  go_ret
  exact ⟨rfl, ⟨hi1, (HB.out _ |>.trans hb1).cell hh hT⟩, HB.out _ |>.trans hb1⟩
theorem not_w {σ : Type} (h : σ → Wh → Bool × σ) (I : σ → World → Prop) (T : Nat → Prop) (s : σ) (g : Nat) (bd caps : Array Value) (w : World) (hS : ∀ o, I s (w.alloc o)) :
    Calls Tryz.prog 107 #[.func (.func g) bd caps] w fun e w' => e = .returned (.func (.func 125) #[] #[.pointer (some ⟨w.heap.size, 0, none⟩)]) ∧ (I s w' ∧ Heldw w.heap.size g bd caps w') ∧ KeptX T w w' := by
  have HS := Lib.hid hS; clear hS
  have hB : ∀ o, KeptX T w (w.alloc o) := fun o => KeptX.of ((Kept.refl _).alloc o)
  have HB := Lib.hid hB; clear hB
  go_enter Tryz.func107, Tryz.ntmps107
  go_wp2
  go_ret
  refine ⟨rfl, ⟨HS.out _, ?_⟩, HB.out _⟩
  unfold Heldw
  unfold World.cell?
  rw [show ∀ o, (w.alloc o).heap[(⟨w.heap.size, 0, none⟩ : Addr).block]? = some o from fun o => heap_alloc_new w o]
  rfl
theorem all_w {σ : Type} (h : σ → Wh → Bool × σ) (I : σ → World → Prop) (T : Nat → Prop) (s : σ) (l : List Wh) (g : Nat) (bd caps : Array Value) (v : Value) (w : World) (hlen : l.length ≤ 4096)
    (hA : ∀ s w o, I s w → I s (w.alloc o)) (hT : ∀ b, T b → b < w.heap.size)
    (hm : ∀ s w, I s w → RSl trip 3 w v l) (hs : I s w) (hf : FnI Tryz.prog g bd caps (fun x => .agg (trip x).toArray) h I T) :
    Calls Tryz.prog 70 #[v, .func (.func g) bd caps] w fun e w' => e = .returned (.bool (allF h s l).1) ∧ I (allF h s l).2 w' ∧ KeptX T w w' := by
  have hn := not1_w h I T g w.heap.size bd caps hA (fun hx => Nat.lt_irrefl _ (hT _ hx)) hf
  have hC := fun w0 h1 => con_w (notF h) (fun s w1 => I s w1 ∧ Heldw w.heap.size g bd caps w1) T s l _ _ _ v w0 hlen (fun s w h => hm s w h.1) h1 hn
  have HC := Lib.hid hC; clear hC
  have hS : ∀ o, I s (w.alloc o) := fun o => hA _ _ _ hs
  have HS := Lib.hid hS; clear hS
  clear hm hs hf hn hA hT
  go_enter Tryz.func70, Tryz.ntmps70
  go_wp2_with (first | (go_at_call 107; refine (not_w h I T s g bd caps w HS.out).mono ?_; rintro e w' ⟨rfl, hi0, hb0⟩) | (go_at_call 106; refine (HC.out _ hi0).mono ?_; rintro e w' ⟨rfl, hi1, hb1⟩))
  go_ret
  exact ⟨rfl, hi1.1, hb0.trans hb1⟩
end Go.Proofs.YtiijfocdjcjlaaaGreat
/- IndexFunc, ContainsFunc, not, all at []int, with any function value (gen_fam.py i). -/
namespace Go.Proofs.YtiijfocdjcjlaaaGreat
open Go.RowKit
set_option linter.unusedVariables false
set_option linter.unusedSimpArgs false
set_option maxRecDepth 100000
set_option maxHeartbeats 1000000

theorem idx_i {σ : Type} (h : σ → Int → Bool × σ) (I : σ → World → Prop) (T : Nat → Prop) (s : σ) (l : List Int) (g : Nat) (bd caps : Array Value) (v : Value) (w : World) (hlen : l.length ≤ 4096)
    (hm : ∀ s w, I s w → RSl oneV 1 w v l) (hs : I s w) (hf : FnI Tryz.prog g bd caps (fun x => .int .i64 x) h I T) :
    Calls Tryz.prog 108 #[v, .func (.func g) bd caps] w fun e w' => e = .returned (.int .i64 (idxF h s l 0).1) ∧ I (idxF h s l 0).2 w' ∧ KeptX T w w' := by
  have hent := hf.ent
  obtain ⟨oa, cap, rfl, hcap⟩ := (hm s w hs).form
  have HM := Lib.hid hm; clear hm
  have HF := Lib.hid hf; clear hf
  go_enter Tryz.func108, Tryz.ntmps108
  go_wp2
  go_loopw [8] (fun i wr => ∃ k : Nat, k ≤ l.length ∧ i = .int .i64 k ∧ ∃ s1, I s1 wr ∧ KeptX T w wr ∧ idxF h s l 0 = idxF h s1 (l.drop k) k) (fun i _ => l.length - (intOf i).toNat)
  case atStart => exact ⟨0, Nat.zero_le _, rfl, s, hs, KeptX.refl _, rfl⟩
  case round =>
    obtain ⟨k, hk, rfl, s1, hs1, hbel, hno⟩ := hrel
    have HN := Lib.hid hno; clear hno
    by_cases hlt : k < l.length
    · obtain ⟨b, off, rfl, hb, hcs⟩ := (HM.out _ _ hs1).at hlt
      have h0 := hcs 0 (by rw [oneV_len]; decide)
      simp only [Nat.add_zero, Nat.mul_one, oneV, List.getElem_cons_zero, List.getElem_cons_succ] at h0
      clear hcs
      have hC := HF.out.call s1 l[k] _ hs1
      try dsimp only at hC
      try simp only [oneV] at hC
      cases hp : (h s1 l[k]).1 with
      | true =>
        have HP := Lib.hid hp
        simp only [hp] at hC
        clear hp
        go_wp2_with (refine hC.mono ?_; rintro e w' ⟨rfl, hi1, hb1⟩)
        go_ret
        exact ⟨by rw [HN.out, idxF_hit hlt HP.out]; rfl, by rw [HN.out, idxF_hit hlt HP.out]; exact hi1, hbel.trans hb1⟩
      | false =>
        have HP := Lib.hid hp
        simp only [hp] at hC
        clear hp
        go_wp2_with (refine hC.mono ?_; rintro e w' ⟨rfl, hi1, hb1⟩)
        go_roundw
        case rel => exact ⟨k + 1, by omega, by go_num, _, hi1, hbel.trans hb1, by rw [HN.out, idxF_miss hlt HP.out]⟩
        case measure => simp [intOf]; omega
    · have e := idxF_end (h := h) (s := s1) (l := l) (k := k) (by omega)
      have HE := Lib.hid e; clear e
      go_wp2
      go_ret
      exact ⟨by rw [HN.out, HE.out]; rfl, by rw [HN.out, HE.out]; exact hs1, hbel⟩
theorem con_i {σ : Type} (h : σ → Int → Bool × σ) (I : σ → World → Prop) (T : Nat → Prop) (s : σ) (l : List Int) (g : Nat) (bd caps : Array Value) (v : Value) (w : World) (hlen : l.length ≤ 4096)
    (hm : ∀ s w, I s w → RSl oneV 1 w v l) (hs : I s w) (hf : FnI Tryz.prog g bd caps (fun x => .int .i64 x) h I T) :
    Calls Tryz.prog 73 #[v, .func (.func g) bd caps] w fun e w' => e = .returned (.bool (anyF h s l).1) ∧ I (anyF h s l).2 w' ∧ KeptX T w w' := by
  have hC := idx_i h I T s l g bd caps v w hlen hm hs hf
  clear hm hs hf
  go_enter Tryz.func73, Tryz.ntmps73
  go_wp2_with (go_at_call 108; refine hC.mono ?_; rintro e w' ⟨rfl, hi1, hb1⟩)
  go_ret
  exact ⟨rfl, hi1, hb1⟩
/-- the function value that stands in the first cell of a block -/
def Heldi (nb g : Nat) (bd caps : Array Value) (w : World) : Prop := w.cell? ⟨nb, 0, none⟩ = some (.func (.func g) bd caps)
theorem not1_i {σ : Type} (h : σ → Int → Bool × σ) (I : σ → World → Prop) (T : Nat → Prop) (g nb : Nat) (bd caps : Array Value) (hA : ∀ s w o, I s w → I s (w.alloc o)) (hT : ¬ T nb)
    (hf : FnI Tryz.prog g bd caps (fun x => .int .i64 x) h I T) :
    FnI Tryz.prog 109 #[] #[.pointer (some ⟨nb, 0, none⟩)] (fun x => .int .i64 x) (notF h) (fun s w => I s w ∧ Heldi nb g bd caps w) T := by
  refine ⟨fun xs w1 => rfl, fun s x w1 hs => ?_⟩
  obtain ⟨hs, hh⟩ := hs
  have hent := hf.ent
  have HF := Lib.hid hf; clear hf
  have HA := Lib.hid hA; clear hA
  have hh0 := hh
  unfold Heldi at hh0
  have hlt := World.block_lt_of_cell? _ _ hh0
  have hC := HF.out.call s x _ hs
  try dsimp only at hC
  try simp only [oneV] at hC
  show Calls Tryz.prog 109 #[.int .i64 x, .pointer (some ⟨nb, 0, none⟩)] w1 _
  have hB : ∀ o, KeptX T w1 (w1.alloc o) := fun o => KeptX.of ((Kept.refl _).alloc o)
  have HB := Lib.hid hB; clear hB
  try simp only [oneV]
  go_enter Tryz.func109, Tryz.ntmps109
  go_wp2_with (refine hC.mono ?_; rintro e w' ⟨rfl, hi1, hb1⟩)
  go_ret
  exact ⟨rfl, ⟨hi1, hb1.cell hh hT⟩, hb1⟩
theorem not_i {σ : Type} (h : σ → Int → Bool × σ) (I : σ → World → Prop) (T : Nat → Prop) (s : σ) (g : Nat) (bd caps : Array Value) (w : World) (hS : ∀ o, I s (w.alloc o)) :
    Calls Tryz.prog 74 #[.func (.func g) bd caps] w fun e w' => e = .returned (.func (.func 109) #[] #[.pointer (some ⟨w.heap.size, 0, none⟩)]) ∧ (I s w' ∧ Heldi w.heap.size g bd caps w') ∧ KeptX T w w' := by
  have HS := Lib.hid hS; clear hS
  have hB : ∀ o, KeptX T w (w.alloc o) := fun o => KeptX.of ((Kept.refl _).alloc o)
  have HB := Lib.hid hB; clear hB
  go_enter Tryz.func74, Tryz.ntmps74
  go_wp2
  go_ret
  refine ⟨rfl, ⟨HS.out _, ?_⟩, HB.out _⟩
  unfold Heldi
  unfold World.cell?
  rw [show ∀ o, (w.alloc o).heap[(⟨w.heap.size, 0, none⟩ : Addr).block]? = some o from fun o => heap_alloc_new w o]
  rfl
theorem all_i {σ : Type} (h : σ → Int → Bool × σ) (I : σ → World → Prop) (T : Nat → Prop) (s : σ) (l : List Int) (g : Nat) (bd caps : Array Value) (v : Value) (w : World) (hlen : l.length ≤ 4096)
    (hA : ∀ s w o, I s w → I s (w.alloc o)) (hT : ∀ b, T b → b < w.heap.size)
    (hm : ∀ s w, I s w → RSl oneV 1 w v l) (hs : I s w) (hf : FnI Tryz.prog g bd caps (fun x => .int .i64 x) h I T) :
    Calls Tryz.prog 31 #[v, .func (.func g) bd caps] w fun e w' => e = .returned (.bool (allF h s l).1) ∧ I (allF h s l).2 w' ∧ KeptX T w w' := by
  have hn := not1_i h I T g w.heap.size bd caps hA (fun hx => Nat.lt_irrefl _ (hT _ hx)) hf
  have hC := fun w0 h1 => con_i (notF h) (fun s w1 => I s w1 ∧ Heldi w.heap.size g bd caps w1) T s l _ _ _ v w0 hlen (fun s w h => hm s w h.1) h1 hn
  have HC := Lib.hid hC; clear hC
  have hS : ∀ o, I s (w.alloc o) := fun o => hA _ _ _ hs
  have HS := Lib.hid hS; clear hS
  clear hm hs hf hn hA hT
  go_enter Tryz.func31, Tryz.ntmps31
  go_wp2_with (first | (go_at_call 74; refine (not_i h I T s g bd caps w HS.out).mono ?_; rintro e w' ⟨rfl, hi0, hb0⟩) | (go_at_call 73; refine (HC.out _ hi0).mono ?_; rintro e w' ⟨rfl, hi1, hb1⟩))
  go_ret
  exact ⟨rfl, hi1.1, hb0.trans hb1⟩
end Go.Proofs.YtiijfocdjcjlaaaGreat
/- IndexFunc, ContainsFunc at []braidwork/api.Change, with any function value (gen_fam.py c). -/
namespace Go.Proofs.YtiijfocdjcjlaaaGreat
open Go.RowKit
set_option linter.unusedVariables false
set_option linter.unusedSimpArgs false
set_option maxRecDepth 100000
set_option maxHeartbeats 1000000

theorem idx_c {σ : Type} (h : σ → Ch → Bool × σ) (I : σ → World → Prop) (T : Nat → Prop) (s : σ) (l : List Ch) (g : Nat) (bd caps : Array Value) (v : Value) (w : World) (hlen : l.length ≤ 4096)
    (hm : ∀ s w, I s w → RSl chg 4 w v l) (hs : I s w) (hf : FnI Tryz.prog g bd caps (fun x => chgV x) h I T) :
    Calls Tryz.prog 123 #[v, .func (.func g) bd caps] w fun e w' => e = .returned (.int .i64 (idxF h s l 0).1) ∧ I (idxF h s l 0).2 w' ∧ KeptX T w w' := by
  have hent := hf.ent
  obtain ⟨oa, cap, rfl, hcap⟩ := (hm s w hs).form
  have HM := Lib.hid hm; clear hm
  have HF := Lib.hid hf; clear hf
  go_enter Tryz.func123, Tryz.ntmps123
  go_wp2
  go_loopw [8] (fun i wr => ∃ k : Nat, k ≤ l.length ∧ i = .int .i64 k ∧ ∃ s1, I s1 wr ∧ KeptX T w wr ∧ idxF h s l 0 = idxF h s1 (l.drop k) k) (fun i _ => l.length - (intOf i).toNat)
  case atStart => exact ⟨0, Nat.zero_le _, rfl, s, hs, KeptX.refl _, rfl⟩
  case round =>
    obtain ⟨k, hk, rfl, s1, hs1, hbel, hno⟩ := hrel
    have HN := Lib.hid hno; clear hno
    by_cases hlt : k < l.length
    · obtain ⟨b, off, rfl, hb, hcs⟩ := (HM.out _ _ hs1).at hlt
      have h0 := hcs 0 (by rw [chg_len]; decide)
      have h1 := hcs 1 (by rw [chg_len]; decide)
      have h2 := hcs 2 (by rw [chg_len]; decide)
      have h3 := hcs 3 (by rw [chg_len]; decide)
      simp only [Nat.add_zero, Nat.mul_one, chg, List.getElem_cons_zero, List.getElem_cons_succ] at h0 h1 h2 h3
      clear hcs
      have hC := HF.out.call s1 l[k] _ hs1
      try dsimp only at hC
      try simp only [chg, chgV, chg] at hC
      cases hp : (h s1 l[k]).1 with
      | true =>
        have HP := Lib.hid hp
        simp only [hp] at hC
        clear hp
        go_wp2_with (refine hC.mono ?_; rintro e w' ⟨rfl, hi1, hb1⟩)
        go_ret
        exact ⟨by rw [HN.out, idxF_hit hlt HP.out]; rfl, by rw [HN.out, idxF_hit hlt HP.out]; exact hi1, hbel.trans hb1⟩
      | false =>
        have HP := Lib.hid hp
        simp only [hp] at hC
        clear hp
        go_wp2_with (refine hC.mono ?_; rintro e w' ⟨rfl, hi1, hb1⟩)
        go_roundw
        case rel => exact ⟨k + 1, by omega, by go_num, _, hi1, hbel.trans hb1, by rw [HN.out, idxF_miss hlt HP.out]⟩
        case measure => simp [intOf]; omega
    · have e := idxF_end (h := h) (s := s1) (l := l) (k := k) (by omega)
      have HE := Lib.hid e; clear e
      go_wp2
      go_ret
      exact ⟨by rw [HN.out, HE.out]; rfl, by rw [HN.out, HE.out]; exact hs1, hbel⟩
theorem con_c {σ : Type} (h : σ → Ch → Bool × σ) (I : σ → World → Prop) (T : Nat → Prop) (s : σ) (l : List Ch) (g : Nat) (bd caps : Array Value) (v : Value) (w : World) (hlen : l.length ≤ 4096)
    (hm : ∀ s w, I s w → RSl chg 4 w v l) (hs : I s w) (hf : FnI Tryz.prog g bd caps (fun x => chgV x) h I T) :
    Calls Tryz.prog 102 #[v, .func (.func g) bd caps] w fun e w' => e = .returned (.bool (anyF h s l).1) ∧ I (anyF h s l).2 w' ∧ KeptX T w w' := by
  have hC := idx_c h I T s l g bd caps v w hlen hm hs hf
  clear hm hs hf
  go_enter Tryz.func102, Tryz.ntmps102
  go_wp2_with (go_at_call 123; refine hC.mono ?_; rintro e w' ⟨rfl, hi1, hb1⟩)
  go_ret
  exact ⟨rfl, hi1, hb1⟩
end Go.Proofs.YtiijfocdjcjlaaaGreat
/- vmap: is, the question whether a change's block is out of range. -/
namespace Go.Proofs.YtiijfocdjcjlaaaGreat
open Go.RowKit
set_option linter.unusedVariables false
set_option linter.unusedSimpArgs false
set_option maxRecDepth 100000
set_option maxHeartbeats 1000000
theorem vm_is (p : Nat) (oa : Option Addr) (n cap : Nat) (k : Int) (w : World) (hc : w.cell? ⟨p, 0, none⟩ = some (.slice oa n cap)) :
    Calls Tryz.prog 104 #[.pointer (some ⟨p, 0, none⟩), .int .i64 k] w fun e w' => e = .returned (.bool (decide (0 ≤ k) && decide (k < (n : Int)))) ∧ w = w' := by
  go_enter Tryz.func104, Tryz.ntmps104
  rcases Int.lt_or_le k 0 with h | h
  · have h1 : decide (0 ≤ k) = false := by simp; omega
    have H1 := Lib.hid h1; clear h1
    go_wp2
    go_ret
    exact ⟨by rw [H1.out]; rfl, rfl⟩
  · have h1 : decide (0 ≤ k) = true := by simp; omega
    have H1 := Lib.hid h1; clear h1
    go_wp2
    go_ret
    exact ⟨by rw [H1.out]; rfl, rfl⟩
theorem vm_out1 (x : Ch) (q p : Nat) (oa : Option Addr) (n cap : Nat) (w : World) (hq : w.cell? ⟨q, 0, none⟩ = some (.pointer (some ⟨p, 0, none⟩))) (hc : w.cell? ⟨p, 0, none⟩ = some (.slice oa n cap)) :
    Calls Tryz.prog 103 #[chgV x, .pointer (some ⟨q, 0, none⟩)] w fun e w' => e = .returned (.bool (!(decide (0 ≤ x.1) && decide (x.1 < (n : Int))))) ∧ Kept w w' := by
  have hB : ∀ o, Kept w (w.alloc o) := fun o => (Kept.refl _).alloc o
  have HB := Lib.hid hB; clear hB
  have hlt := World.block_lt_of_cell? _ _ hq
  have hi := fun (W : World) (hk : Kept w W) => vm_is p oa n cap x.1 W (hk.cell' hc)
  have HI := Lib.hid hi; clear hi
  simp only [chgV, chg]
  go_enter Tryz.func103, Tryz.ntmps103
  go_wp2_with (go_at_call 104; refine (HI.out _ (HB.out _)).mono ?_; rintro e w2 ⟨rfl, rfl⟩)
  go_ret
  exact ⟨by rw [Bool.not_and]; rfl, HB.out _⟩
end Go.Proofs.YtiijfocdjcjlaaaGreat
/- vmap.may. -/
namespace Go.Proofs.YtiijfocdjcjlaaaGreat
open Go.RowKit Go.ChangeMaps Go.MapKept
set_option linter.unusedVariables false
set_option linter.unusedSimpArgs false
set_option maxRecDepth 100000
set_option maxHeartbeats 1000000
section
variable {P : Program} {ops : Array Oper} {rest : List Oper} {o : Oper} {a : Act} {w : World} {Q : Exit → Act → World → Prop} {t k e : TypeId} {z : Value} {b c : Nat} {f : Int → Option Value}
/-- an entry of a map's literal -/
theorem wpList_insert_im (hgd : Region.wanted o (yielded ops a.tmps) = true) (m x y : Operand) (ho : o.op = .insert t m x y) (ht : P.underlying t = some (.map k e)) (hk : P.underlying k = some (.int .i64))
    (hm : a.eval m = .map (some b)) (n : Int) (hx : a.eval x = .int .i64 n) (v : Value) (hy : a.eval y = v) (hi : IMap w b c f)
    (h : ∀ o', IMap (setBlock w b o') b (c + 1) (upd f n v) → wpList P ops Q rest (a.put o.dst undef) (setBlock w b o')) : wpList P ops Q (o :: rest) a w := by
  refine BigFrame.wpList_want hgd fun K hK => ?_
  obtain ⟨w', hr, hi', o', rfl⟩ := hi.update (t := t) (e := e) ht hk n v
  unfold Oper.wp execOp
  simp only [ho, Sem.run_bind, hm, hx, hy, hr, Result.andThen_ok, Sem.run_pure]
  exact hK _ _ (h o' hi')
end
theorem zero_intV (w : World) : (zeroValue 3).run Tryz.prog w = .ok (.int .i64 0) w := by kernel_rfl
/-- how far a tier's slots go -/
def mostV : Int → Option Value := upd (upd (fun _ => none) 1 (.int .i64 7)) 2 (.int .i64 87)
theorem vm_may (x : Wh) (w : World) : Calls Tryz.prog 105 #[.agg (trip x).toArray] w fun e w' => e = .returned (.bool (mayW x)) ∧ Kept w w' := by
  have hmm := @run_makeMap Tryz.prog
  have hB : ∀ o p, Kept w ((w.alloc o).alloc p) := fun o p => ((Kept.refl _).alloc o).alloc p
  have HB := Lib.hid hB; clear hB
  obtain ⟨t, g, s⟩ := x
  simp only [trip]
  go_enter Tryz.func105, Tryz.ntmps105
  go_wp2_with (refine stop_at (o := ⟨none, .insert _ _ _ _, _, _, _, _⟩) ?_)
  refine Stop.mk ?_
  generalize hW : World.alloc (World.alloc w _) _ = W0
  have hk0 : Kept w W0 := by rw [← hW]; exact HB.out _ _
  have hI : IMap W0 (w.heap.size + 1) 0 (fun _ => none) := by
    rw [← hW]
    have := fun o => IMap.made (w.alloc o)
    simp only [World.size_alloc] at this
    exact this _
  have c := congrArg (fun W => W.heap[w.heap.size]?) hW
  simp only [heap_alloc2_old] at c
  replace c := Cells.of_block c.symm
  have c0 := c 0 (by simp)
  have c1 := c 1 (by simp)
  have c2 := c 2 (by simp)
  simp only [Nat.add_zero, Nat.zero_add, List.getElem_cons_zero, List.getElem_cons_succ] at c0 c1 c2
  clear c hW
  refine wpList_insert_im rfl _ _ _ rfl Tryz.underlying154 Tryz.underlying3 rfl 1 rfl (.int .i64 7) rfl hI ?_
  intro o1 hI1
  refine wpList_insert_im rfl _ _ _ rfl Tryz.underlying154 Tryz.underlying3 rfl 2 rfl (.int .i64 87) rfl hI1 ?_
  intro o2 hI2
  have hb1 : But (fun i => i = w.heap.size + 1) W0 (setBlock (setBlock W0 (w.heap.size + 1) o1) (w.heap.size + 1) o2) := But.setBlock (S := fun i => i = w.heap.size + 1) (But.setBlock (S := fun i => i = w.heap.size + 1) (But.refl _ W0) o1 (.inl rfl)) o2 (.inl rfl)
  have hk2 : Kept w (setBlock (setBlock W0 (w.heap.size + 1) o1) (w.heap.size + 1) o2) := But.to_kept hk0 hb1 (fun i hi => by subst hi; omega)
  replace c0 := hb1.cell (by show ¬ w.heap.size = w.heap.size + 1; omega) c0
  replace c1 := hb1.cell (by show ¬ w.heap.size = w.heap.size + 1; omega) c1
  replace c2 := hb1.cell (by show ¬ w.heap.size = w.heap.size + 1; omega) c2
  generalize setBlock (setBlock W0 (w.heap.size + 1) o1) (w.heap.size + 1) o2 = W2 at *
  have HI := Lib.hid hI2; have HK := Lib.hid hk2
  clear hI hI1 hI2 hb1 hk0 hk2 hmm o1 o2
  generalize w.heap.size = X at *
  have hs := fun (v : Value) (hv : mostV t = v) => hv
  by_cases ht0 : t = 0
  · subst ht0
    have hq := Lib.hid (show mayW (0, g, s) = (g == 0 && s == 0) from rfl)
    cases hg : (g == 0) with
    | false =>
      have HQ := Lib.hid (show mayW (0, g, s) = false by rw [hq.out, hg]; rfl)
      go_wp2
      go_ret
      exact ⟨by rw [HQ.out]; simp_all, HK.out⟩
    | true =>
      cases hg2 : (s == 0) with
      | false =>
        have HQ := Lib.hid (show mayW (0, g, s) = false by rw [hq.out, hg, hg2]; rfl)
        go_wp2
        go_ret
        exact ⟨by rw [HQ.out]; rfl, HK.out⟩
      | true =>
        have HQ := Lib.hid (show mayW (0, g, s) = true by rw [hq.out, hg, hg2]; rfl)
        go_wp2
        go_ret
        exact ⟨by rw [HQ.out]; rfl, HK.out⟩
  · have ht0' : (t == 0) = false := by simpa using ht0
    by_cases ht1 : t = 1
    · subst ht1
      go_wp2_with (at_lookup; refine wpList_lookup_im rfl _ _ true rfl Tryz.underlying154 Tryz.underlying3 zero_intV rfl 1 rfl HI.out (.tuple #[.int .i64 7, .bool true]) rfl ?_)
      all_goals (go_ret; refine ⟨?_, HK.out⟩)
      all_goals (refine congrArg (fun b => Ending.returned (Value.bool b)) (?_ : _ = mayW (1, g, s)); rw [Bool.eq_iff_iff]; simp [mayW]; omega)
    · by_cases ht2 : t = 2
      · subst ht2
        go_wp2_with (at_lookup; refine wpList_lookup_im rfl _ _ true rfl Tryz.underlying154 Tryz.underlying3 zero_intV rfl 2 rfl HI.out (.tuple #[.int .i64 87, .bool true]) rfl ?_)
        all_goals (go_ret; refine ⟨?_, HK.out⟩)
        all_goals (refine congrArg (fun b => Ending.returned (Value.bool b)) (?_ : _ = mayW (2, g, s)); rw [Bool.eq_iff_iff]; simp [mayW]; omega)
      · have HQ := Lib.hid (show mayW (t, g, s) = false by simp [mayW, ht0, ht1, ht2])
        have HN := Lib.hid (show (if true = true then Value.tuple #[(upd (upd (fun _ => none) 1 (.int .i64 7)) 2 (.int .i64 87) t : Option Value).getD (.int .i64 0), .bool (upd (upd (fun _ => none) 1 (.int .i64 7)) 2 (.int .i64 87) t : Option Value).isSome] else (upd (upd (fun _ => none) 1 (.int .i64 7)) 2 (.int .i64 87) t : Option Value).getD (.int .i64 0)) = .tuple #[.int .i64 0, .bool false] by simp [upd, ht1, ht2])
        go_wp2_with (at_lookup; refine wpList_lookup_im rfl _ _ true rfl Tryz.underlying154 Tryz.underlying3 zero_intV rfl t rfl HI.out (.tuple #[.int .i64 0, .bool false]) HN.out ?_)
        go_ret
        exact ⟨by rw [HQ.out]; rfl, HK.out⟩
end Go.Proofs.YtiijfocdjcjlaaaGreat
/- vmap.New at as many blocks as a state has. -/
namespace Go.Proofs.YtiijfocdjcjlaaaGreat
open Go.RowKit Go.ChangeMaps Go.MapKept
set_option linter.unusedVariables false
set_option linter.unusedSimpArgs false
set_option maxRecDepth 100000
set_option maxHeartbeats 1000000
theorem rep_flat : ∀ n : Nat, (List.replicate n ((0, 0, 0) : Wh)).flatMap trip = List.replicate (n * 3) (Value.int .i64 0)
  | 0 => rfl
  | n + 1 => by
    rw [List.replicate_succ, List.flatMap_cons, rep_flat n, Nat.add_mul, Nat.one_mul, Nat.add_comm (n * 3) 3, ← List.replicate_append_replicate]
    rfl
theorem made_zero (n : Nat) : (madeCells (Value.agg #[Value.int .i64 0, Value.int .i64 0, Value.int .i64 0]).cells (n * 3)).toList = (List.replicate n ((0, 0, 0) : Wh)).flatMap trip := by
  rw [rep_flat]
  apply List.ext_getElem
  · simp [madeCells]
  · intro i h1 h2
    simp only [madeCells, Array.toList_map, List.getElem_map, Array.getElem_toList, Array.getElem_range, List.getElem_replicate, Value.cells]
    have h3 : i % 3 < 3 := Nat.mod_lt _ (by decide)
    show (#[Value.int .i64 0, Value.int .i64 0, Value.int .i64 0] : Array Value)[i % 3]! = _
    have h4 : i % 3 = 0 ∨ i % 3 = 1 ∨ i % 3 = 2 := by omega
    rcases h4 with h | h | h <;> rw [h] <;> rfl
theorem vm_New (n : Nat) (w : World) (h1 : 1 ≤ n) (h2 : n ≤ 96) : Calls Tryz.prog 68 #[.int .i64 (n : Int)] w fun e w' => ∃ p v m, e = .returned (.pointer (some ⟨p, 0, none⟩)) ∧ w.heap.size ≤ p ∧ w'.heap[p]? = some (.cells #[v, .map (some m)] 137 (0, 0)) ∧ RSl trip 3 w' v (List.replicate n (0, 0, 0)) ∧ Kept w w' := by
  have hmm := @run_makeMap Tryz.prog
  have hmx : max (n : Int) 1 = n := by omega
  have hmn : min (n : Int) 96 = n := by omega
  obtain ⟨i, hi1, hi2, hi3, hi4⟩ := info_parts (P := Tryz.prog) (e := 41) (z := .agg #[.int .i64 0, .int .i64 0, .int .i64 0]) (size := 3) (bytes := 24) (by kernel_rfl)
  go_enter Tryz.func68, Tryz.ntmps68
  go_wp2_with (refine stop_at (o := ⟨some 6, .makeSlice _ _ _, _, _, _, _⟩) ?_)
  refine Stop.mk ?_
  refine wpList_make_full _ rfl _ _ 24 rfl w.heap.size 41 i _ 3 Tryz.underlying24 hi1 hi2 hi3 .i64 .i64 (n : Int) (n : Int) n rfl rfl rfl rfl (by rw [hi4]; omega) (by simp only [maxLen]; omega) (Nat.le_refl _) ?_
  intro w1 ho hg
  rw [made_zero] at ho
  have hr := RSl.of_owns (l := List.replicate n ((0, 0, 0) : Wh)) trip_len (by simp) ho
  have hk : Kept w w1 := (Kept.refl w).grown hg (by intro k hk; cases hk)
  have HR := Lib.hid hr; have HK := Lib.hid hk
  clear hr hk ho hg hi1 hi2 hi3 hi4
  have hsz := Lib.hid HK.out.size
  have HB' : ∀ o p, Kept w1 ((w1.alloc o).alloc p) := fun o p => ((Kept.refl _).alloc o).alloc p
  have HB := Lib.hid HB'; clear HB'
  go_wp2
  go_ret
  refine ⟨w1.heap.size + 1, _, w1.heap.size, rfl, by have := hsz.out; omega, ?_, HR.out.kept (HB.out _ _), HK.out.trans (HB.out _ _)⟩
  exact heap_alloc2_new w1 _ _
end Go.Proofs.YtiijfocdjcjlaaaGreat
