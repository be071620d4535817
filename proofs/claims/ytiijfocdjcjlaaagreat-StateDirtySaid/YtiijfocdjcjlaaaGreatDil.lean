/- StateDirty in plain Lean; among. -/
import Derived.Test.YtiijfocdjcjlaaaGreatDcl
import Derived.Test.YtiijfocdjcjlaaaGreatPsA
namespace Go.Proofs.YtiijfocdjcjlaaaGreat
open Go.RowKit Go.ChangeMaps Go.MapKept
set_option linter.unusedVariables false
set_option linter.unusedSimpArgs false
set_option maxRecDepth 100000
set_option maxHeartbeats 1000000
theorem among_same (l : List Int) (x : Int) (v : Value) (w : World) (hlen : l.length ≤ 4096) (hm : RSl oneV 1 w v l) :
    Calls Tryz.prog 12 #[v, .int .i64 x] w fun e w' => e = .returned (.bool (memB l x)) ∧ w' = w := by
  obtain ⟨oa, cap, rfl, hcap⟩ := hm.form
  have HM := Lib.hid hm; clear hm
  go_enter Tryz.func12, Tryz.ntmps12
  go_wp2
  go_loopw [5] (fun i wr => ∃ k : Nat, k ≤ l.length ∧ i = .int .i64 (k : Int) ∧ wr = w ∧ Hid (∀ j (h : j < l.length), j < k → l[j] ≠ x)) (fun i _ => l.length - (intOf i).toNat)
  case atStart => exact ⟨0, Nat.zero_le _, rfl, rfl, Lib.hid (fun _ _ h => by omega)⟩
  case round =>
    obtain ⟨k, hk, rfl, rfl, HR⟩ := hrel
    by_cases hlt : k < l.length
    · obtain ⟨b, off, rfl, hb, hcs⟩ := HM.out.at hlt
      obtain ⟨y, hy⟩ : ∃ y, y = l[k]'hlt := ⟨_, rfl⟩
      rw [← hy] at hcs
      have c0 := hcs 0 (by rw [oneV_len]; decide)
      simp only [oneV, List.getElem_cons_zero, Nat.add_zero, Nat.mul_one] at c0
      have HY := Lib.hid hy
      clear hcs hb hy
      cases hq : (y == x) with
      | true =>
        have HB := Lib.hid (show memB l x = true by
          have h := eq_of_beq hq
          unfold memB
          rw [List.contains_eq_mem, decide_eq_true_eq, ← h, HY.out]
          exact List.getElem_mem hlt)
        go_wp2
        go_ret
        rw [HB.out]
        exact ⟨rfl, rfl⟩
      | false =>
        have HN := Lib.hid (show y ≠ x by simpa using hq)
        go_wp2
        go_roundw
        case rel => exact ⟨k + 1, by omega, by go_num, trivial, Lib.hid (fun j h1 h2 => by
          rcases Nat.lt_or_ge j k with h3 | h3
          · exact HR.out j h1 h3
          · have : j = k := by omega
            subst this
            rw [← HY.out]; exact HN.out)⟩
        case measure => simp [intOf]; omega
    · have HB := Lib.hid (show memB l x = false by
        unfold memB
        rw [List.contains_eq_mem, decide_eq_false_iff_not]
        intro h
        obtain ⟨j, h1, h2⟩ := List.getElem_of_mem h
        exact HR.out j h1 (by omega) h2)
      go_wp2
      go_ret
      rw [HB.out]
      exact ⟨rfl, rfl⟩
theorem find_of_mem : ∀ (gs : List Grp), (gs.map (·.id)).Pairwise (· < ·) → ∀ g ∈ gs, gs.find? (fun h => h.id == g.id) = some g
  | [], _, g, hg => absurd hg List.not_mem_nil
  | a :: gs, h, g, hg => by
    rw [List.map_cons, List.pairwise_cons] at h
    rw [List.find?_cons]
    rcases List.mem_cons.1 hg with rfl | hg
    · simp
    · have hlt := h.1 g.id (List.mem_map.2 ⟨g, hg, rfl⟩)
      have : (a.id == g.id) = false := by simp; omega
      rw [this]
      exact find_of_mem gs h.2 g hg
/-- how many of the first k groups bear this number -/
def cntG (gs : List Grp) (x : Int) (k : Nat) : Nat := ((gs.take k).filter (fun g => g.id == x)).length
theorem cnt_zero (gs : List Grp) (x : Int) : cntG gs x 0 = 0 := by simp [cntG]
theorem cnt_succ (gs : List Grp) (x : Int) (k : Nat) (hk : k < gs.length) : cntG gs x (k + 1) = cntG gs x k + (if (gs[k].id == x) then 1 else 0) := by
  unfold cntG
  rw [List.take_succ_eq_append_getElem hk, List.filter_append, List.length_append]
  congr 1
  rw [List.filter_cons, List.filter_nil]
  split <;> rfl
theorem cnt_one : ∀ (gs : List Grp) (x : Int), (gs.map (·.id)).Pairwise (· < ·) → (gs.filter (fun g => g.id == x)).length ≤ 1
  | [], x, _ => by simp
  | a :: gs, x, h => by
    rw [List.map_cons, List.pairwise_cons] at h
    rw [List.filter_cons]
    split
    · rename_i ha
      have ha := eq_of_beq ha
      have : gs.filter (fun g => g.id == x) = [] := by
        rw [List.filter_eq_nil_iff]
        intro g hg hgx
        have hgx := eq_of_beq hgx
        have := h.1 g.id (List.mem_map.2 ⟨g, hg, rfl⟩)
        omega
      rw [this]; simp
    · exact cnt_one gs x h.2
theorem cnt_all (gs : List Grp) (x : Int) (h : (gs.map (·.id)).Pairwise (· < ·)) (k : Nat) (hk : gs.length ≤ k) : cntG gs x k ≤ 1 := by
  unfold cntG; rw [List.take_of_length_le hk]; exact cnt_one gs x h
theorem cnt_le (gs : List Grp) (x : Int) (k : Nat) : cntG gs x k ≤ k := by
  unfold cntG
  refine Nat.le_trans (List.length_filter_le _ _) ?_
  rw [List.length_take]; omega
/-- numbers of mirrored groups, not too many -/
structure OkL (t : St) (l : List Int) : Prop where
  few : l.length ≤ 20
  all : ∀ x ∈ l, dirtyB t x = true
theorem dirty_of {t : St} (hr : rightS t = true) {k : Nat} (hk : k < t.gs.length) (h1 : (t.gs[k]).kind = 1) : dirtyB t (t.gs[k]).id = true := by
  have hR := (rightS_iff t).1 hr
  have hf := find_of_mem t.gs ((risesB_iff _).1 hR.gsr) t.gs[k] (List.getElem_mem hk)
  unfold dirtyB findG
  rw [hf]
  simp [h1]
theorem dirty_put {t : St} (hr : rightS t = true) {x : Int} (h : dirtyB t x = true) : mayPut x 1 = true := by
  have hR := (rightS_iff t).1 hr
  unfold dirtyB findG at h
  cases hf : t.gs.find? (fun g => g.id == x) with
  | none => rw [hf] at h; cases h
  | some g =>
    have hid : g.id = x := by simpa using List.find?_some hf
    have hin := grpsB_ids t.ms t.gs [] hR.grps g (List.mem_of_find?_eq_some hf)
    rw [mayPut_iff, ← hid]
    unfold inN at hin
    simp only [Bool.and_eq_true, decide_eq_true_eq] at hin
    refine ⟨by decide, by decide, by omega, ?_⟩
    show g.id < 256
    omega
theorem okL_put {t : St} (hr : rightS t = true) {l : List Int} (h : OkL t l) : (okMany 24 l.length && l.all (fun x => mayPut x 1)) = true := by
  have hf := h.few
  rw [Bool.and_eq_true]
  constructor
  · unfold okMany
    have h1 : mayPut (l.length : Int) 1 = true := (mayPut_iff _ _).2 ⟨by decide, by decide, by omega, by show (l.length : Int) < 256; omega⟩
    have h2 : decide ((24 : Int) < (l.length : Int)) = false := decide_eq_false (by omega)
    rw [h1, h2]; rfl
  · rw [List.all_eq_true]
    exact fun x hx => dirty_put hr (h.all x hx)
theorem dirtyS_right {t : St} (hr : rightS t = true) (d : List Int) (h1 : risesB d = true) (h2 : ∀ x ∈ d, dirtyB t x = true) : rightS (dirtyS t d) = true := by
  have hR := (rightS_iff t).1 hr
  rw [rightS_iff]
  exact { blocks := hR.blocks, mplen := hR.mplen, few := hR.few, mslen := hR.mslen, mbs := hR.mbs, msr := hR.msr, gsr := hR.gsr, grps := hR.grps, mapped := hR.mapped
          dirty := List.all_eq_true.2 h2
          drises := h1
          plug := hR.plug }
theorem join_right {t : St} (hr : rightS t = true) {l : List Int} (h : OkL t l) : rightS (dirtyS t (joinL t.dirty l)) = true := by
  have hR := (rightS_iff t).1 hr
  refine dirtyS_right hr _ (joinL_rises _ _) fun x hx => ?_
  rcases (joinL_mem _ _ _).1 hx with hx | hx
  · exact List.all_eq_true.1 hR.dirty x hx
  · exact h.all x hx
theorem join_apply {t : St} (hr : rightS t = true) {l : List Int} (h : OkL t l) : applyE (okMany 24 l.length && l.all (fun x => mayPut x 1)) t 0 (dirtyS t (joinL t.dirty l)) = 0 := by
  unfold applyE
  rw [okL_put hr h, hr, join_right hr h]
  rfl
theorem clean_apply {t : St} (hr : rightS t = true) {l : List Int} (h : OkL t l) : applyE (okMany 24 l.length && l.all (fun x => mayPut x 1)) (dirtyS t (joinL t.dirty l)) 0 (dirtyS (dirtyS t (joinL t.dirty l)) (cleanL (joinL t.dirty l) l)) = 0 := by
  have hj := join_right hr h
  have hR := (rightS_iff _).1 hj
  have hd : rightS (dirtyS (dirtyS t (joinL t.dirty l)) (cleanL (joinL t.dirty l) l)) = true := by
    refine dirtyS_right hj _ ?_ fun x hx => ?_
    · have := (risesB_iff _).1 (joinL_rises t.dirty l)
      rw [risesB_iff]
      exact this.filter _
    · exact List.all_eq_true.1 hR.dirty x (List.mem_filter.1 hx).1
  unfold applyE
  rw [okL_put hr h, hj, hd]
  rfl
theorem mem_memB {l : List Int} {x : Int} : memB l x = true ↔ x ∈ l := by unfold memB; simp
end Go.Proofs.YtiijfocdjcjlaaaGreat
