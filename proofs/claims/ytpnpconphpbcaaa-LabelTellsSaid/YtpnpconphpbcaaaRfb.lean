/- The document's Right. -/
import Derived.Test.YtpnpconphpbcaaaRfa
import Derived.Test.YtpnpconphpbcaaaLabG
import Derived.Deep.QuietTactic
import Derived.BigQuiet
namespace Go.Proofs.Ytpnpconphpbcaaa
open Go.RowKit
set_option linter.unusedVariables false
set_option linter.unusedSimpArgs false

theorem right_bad (l : Lab) (k : Nat) (hk : k < l.ms.length) (h : (mayB l.ms[k] && decide (lastId l.ms k < l.ms[k].id)) = false) : rightB l = false := by
  have : risesB (-1) (l.ms.take (k + 1)) = false := by rw [risesB_next l.ms k hk, h, Bool.and_false]
  simp [rightB, risesB_stop l.ms (k + 1) this]
theorem mem_bad {id sec st last : Int} (h : id < 0 ∨ 31 < id ∨ id ≤ last ∨ sec < 160 ∨ 4096 < sec ∨ st < 0 ∨ 2 < st) : (mayB ⟨id, sec, st⟩ && decide (last < id)) = false := by
  simp only [mayB, inB, Bool.and_eq_false_iff, decide_eq_false_iff_not]
  omega
theorem mem_good {id sec st last : Int} (h0 : 0 ≤ id) (h1 : id ≤ 31) (h2 : last < id) (h3 : 160 ≤ sec) (h4 : sec ≤ 4096) (h5 : 0 ≤ st) (h6 : st ≤ 2) : (mayB ⟨id, sec, st⟩ && decide (last < id)) = true := by
  simp only [mayB, inB, Bool.and_eq_true, decide_eq_true_eq]
  omega

attribute [local go_sem ↓] Go.wp_at_zero Go.wp_at_succ
set_option maxHeartbeats 4000000 in
set_option maxRecDepth 100000 in
theorem ref_Right (l : Lab) (sl : Value) (w : World) (hlen : l.ms.length ≤ 9223372036854775807) (hm : MSl w sl l.ms) :
    Calls Try.prog 18 #[l.val sl] w fun e w' => e = .returned (.bool (rightB l)) ∧ Kept w w' := by
  have hB : ∀ o, Kept w (w.alloc o) := fun o => (Kept.refl _).alloc o
  have hbad := right_bad l
  have hdone : risesB (-1) l.ms = true → headB l = true → rightB l = hasOwn l.ms l.member := fun h1 h2 => by simp [rightB, h1, h2]
  have hno : headB l = false → rightB l = false := fun h => by simp [rightB, h]
  obtain ⟨array, gen, member, blocks, ms⟩ := l
  obtain ⟨oa, cap, rfl⟩ := hm.form
  simp only [Lab.val]
  generalize hR : rightB ⟨array, gen, member, blocks, ms⟩ = R at *
  clear hR
  by_cases hh : headB ⟨array, gen, member, blocks, ms⟩ = true
  · have hh' := hh
    simp only [headB, inB, Bool.and_eq_true, decide_eq_true_eq] at hh'
    obtain ⟨⟨a1, a2⟩, ⟨a3, a4⟩, ⟨a5, a6⟩, ⟨a7, a8⟩⟩ := hh'
    have HM := Lib.hid hm; clear hm
    have HD := Lib.hid (fun h => hdone h hh); clear hdone hno hh
    have HBAD := Lib.hid hbad; clear hbad
    go_enter Try.func18, Try.ntmps18
    go_wp2
    go_loopw [3, 4] (fun ow i wr => ∃ k : Nat, k ≤ ms.length ∧ i = .int .i64 k ∧ ow = .bool (hasOwn (ms.take k) member) ∧ Kept (w.alloc (Obj.cells #[.int .i64 array, .int .i64 gen, .int .i64 member, .int .i64 blocks, .slice oa ms.length cap] 24)) wr ∧ risesB (-1) (ms.take k) = true) (fun _ i _ => ms.length - (intOf i).toNat)
    case atStart => exact ⟨0, Nat.zero_le _, rfl, by simp [hasOwn], Kept.refl _, by simp [risesB]⟩
    case round =>
      obtain ⟨k, hk, rfl, rfl, hbel, hris⟩ := hrel
      have HR := Lib.hid hris; clear hris
      have hsz := hbel.size
      simp only [World.size_alloc] at hsz
      have hk0 : Kept w wr := (hB _).trans hbel
      have c2 : wr.cell? ⟨w.heap.size, 0 + 2, none⟩ = some (.int .i64 member) := hbel.cell' (by simp)
      have c2' : wr.cell? ⟨w.heap.size, 2, none⟩ = some (.int .i64 member) := hbel.cell' (by simp)
      have c4 : wr.cell? ⟨w.heap.size, 4, none⟩ = some (.slice oa ms.length cap) := hbel.cell' (by simp)
      by_cases hlt : k < ms.length
      · obtain ⟨b, off, cap', hsl, hm⟩ : ∃ b off cap', Value.slice oa ms.length cap = .slice (some ⟨b, off, none⟩) ms.length cap' ∧ MRow w b off ms := by
          rcases HM.out with ⟨h, _⟩ | h
          · have h' : ms = [] := h
            subst h'; simp at hlt
          · exact h
        cases hsl
        obtain ⟨m0, m1, m2⟩ := (hm.kept hk0) k hlt
        have HN := Lib.hid (hasOwn_next ms member k hlt)
        have HT := Lib.hid (risesB_next ms k hlt)
        have HB := Lib.hid (HBAD.out k hlt)
        have HE := Lib.hid (show Mem.mk ms[k].id ms[k].sec ms[k].st = ms[k] from rfl)
        generalize ms[k] = mk at *
        obtain ⟨id, sec, st⟩ := mk
        simp only at m0 m1 m2 HN HT
        have hka : Kept wr (wr.alloc (Obj.cells #[.int .i64 id, .int .i64 sec, .int .i64 st] 38)) := (Kept.refl _).alloc _
        have e2 := hka.cell' c2'
        have e4 := hka.cell' c4
        have HKA := Lib.hid hka; clear hka
        have HMR := Lib.hid hm; clear hm
        have HBel := Lib.hid hbel; clear hbel
        have HK0 := Lib.hid hk0; clear hk0
        generalize hasOwn (ms.take k) member = ow at *
        have HL0 := Lib.hid (fun h : k = 0 => show lastId ms k = -1 by rw [h]; exact lastId_zero ms)
        have hpre : 0 < k → ∃ x j, lastId ms k = x ∧ (k : Int) - 1 = (j : Nat) ∧ j < ms.length ∧ wr.cell? ⟨b, off + j * 3, none⟩ = some (.int .i64 x) := by
          intro hpos
          obtain ⟨j, rfl⟩ : ∃ j, k = j + 1 := ⟨k - 1, by omega⟩
          refine ⟨_, j, lastId_succ ms j (by omega), by omega, by omega, ?_⟩
          exact ((HMR.out.kept HK0.out) j (by omega)).1
        generalize lastId ms k = la at *
        go_upto_region 8 with fail
        by_cases q0 : id < 0
        · go_quiet (fail)
          go_wp2
          go_ret
          exact ⟨by rw [HB.out (mem_bad (.inl q0))]; rfl, HK0.out.trans (((Kept.refl _).alloc _).drewN _)⟩
        by_cases q1 : 31 < id
        · go_quiet (fail)
          go_wp2
          go_ret
          exact ⟨by rw [HB.out (mem_bad (.inr (.inl q1)))]; rfl, HK0.out.trans (((Kept.refl _).alloc _).drewN _)⟩
        by_cases hz : k = 0
        · have hL := HL0.out hz
          have hz1 : decide ((0 : Int) < k) = false := by simp; omega
          have hz2 : decide (0 < k) = false := by simp; omega
          clear hz hpre
          by_cases q3 : sec < 160
          · go_quiet (fail)
            go_wp2
            go_ret
            exact ⟨by rw [HB.out (mem_bad (.inr (.inr (.inr (.inl q3)))))]; rfl, HK0.out.trans (((Kept.refl _).alloc _).drewN _)⟩
          by_cases q4 : 4096 < sec
          · go_quiet (fail)
            go_wp2
            go_ret
            exact ⟨by rw [HB.out (mem_bad (.inr (.inr (.inr (.inr (.inl q4))))))]; rfl, HK0.out.trans (((Kept.refl _).alloc _).drewN _)⟩
          by_cases q5 : st < 0
          · go_quiet (fail)
            go_wp2
            go_ret
            exact ⟨by rw [HB.out (mem_bad (.inr (.inr (.inr (.inr (.inr (.inl q5)))))))]; rfl, HK0.out.trans (((Kept.refl _).alloc _).drewN _)⟩
          by_cases q6 : 2 < st
          · go_quiet (fail)
            go_wp2
            go_ret
            exact ⟨by rw [HB.out (mem_bad (.inr (.inr (.inr (.inr (.inr (.inr (q6))))))))]; rfl, HK0.out.trans (((Kept.refl _).alloc _).drewN _)⟩
          rcases ow with _ | _
          all_goals
            go_quiet (fail)
            go_wp2
            go_roundw
            case rel => exact ⟨k + 1, by omega, by go_num, by rw [HN.out]; simp, HBel.out.trans (((Kept.refl _).alloc _).drewN _), by rw [HT.out, HR.out, mem_good (by omega) (by omega) (by omega) (by omega) (by omega) (by omega) (by omega)]; rfl⟩
            case measure => simp [intOf]; omega
        · obtain ⟨x, j, hx, hkm, hjl, hpc⟩ := hpre (by omega)
          have ep := HKA.out.cell' hpc
          subst hx
          have hz1 : decide ((0 : Int) < k) = true := by simp; omega
          have hz2 : decide (0 < k) = true := by simp; omega
          clear hz hpre
          by_cases q2 : id ≤ la
          · go_quiet (fail)
            go_wp2
            go_ret
            exact ⟨by rw [HB.out (mem_bad (.inr (.inr (.inl q2))))]; rfl, HK0.out.trans (((Kept.refl _).alloc _).drewN _)⟩
          by_cases q3 : sec < 160
          · go_quiet (fail)
            go_wp2
            go_ret
            exact ⟨by rw [HB.out (mem_bad (.inr (.inr (.inr (.inl q3)))))]; rfl, HK0.out.trans (((Kept.refl _).alloc _).drewN _)⟩
          by_cases q4 : 4096 < sec
          · go_quiet (fail)
            go_wp2
            go_ret
            exact ⟨by rw [HB.out (mem_bad (.inr (.inr (.inr (.inr (.inl q4))))))]; rfl, HK0.out.trans (((Kept.refl _).alloc _).drewN _)⟩
          by_cases q5 : st < 0
          · go_quiet (fail)
            go_wp2
            go_ret
            exact ⟨by rw [HB.out (mem_bad (.inr (.inr (.inr (.inr (.inr (.inl q5)))))))]; rfl, HK0.out.trans (((Kept.refl _).alloc _).drewN _)⟩
          by_cases q6 : 2 < st
          · go_quiet (fail)
            go_wp2
            go_ret
            exact ⟨by rw [HB.out (mem_bad (.inr (.inr (.inr (.inr (.inr (.inr (q6))))))))]; rfl, HK0.out.trans (((Kept.refl _).alloc _).drewN _)⟩
          rcases ow with _ | _
          all_goals
            go_quiet (fail)
            go_wp2
            go_roundw
            case rel => exact ⟨k + 1, by omega, by go_num, by rw [HN.out]; simp, HBel.out.trans (((Kept.refl _).alloc _).drewN _), by rw [HT.out, HR.out, mem_good (by omega) (by omega) (by omega) (by omega) (by omega) (by omega) (by omega)]; rfl⟩
            case measure => simp [intOf]; omega
      · go_wp2
        go_ret
        have e1 : ms.take k = ms := by rw [List.take_of_length_le]; omega
        have hr := HR.out
        rw [e1] at hr
        exact ⟨by rw [HD.out hr, e1]; rfl, hk0⟩
  · simp only [Bool.not_eq_true] at hh
    have hR := hno hh
    subst hR
    have HH := Lib.hid hh; clear hh
    clear hbad hdone hno
    go_enter Try.func18, Try.ntmps18
    go_wp2
    all_goals first
      | (go_ret; exact ⟨rfl, hB _⟩)
      | (exfalso; have := HH.out; simp [headB, inB, *] at this; done)
      | (exfalso; have := HH.out; simp [headB, inB, *] at this; omega)
end Go.Proofs.Ytpnpconphpbcaaa
