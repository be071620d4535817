/- label.Right. -/
import Derived.Test.YtcbghpcohbgcjaaLabA
namespace Go.Proofs.Ytcbghpcohbgcjaa
open Go.RowKit
set_option linter.unusedVariables false

/-- a label, but for its members -/
structure Lab where
  array : Int
  gen : Int
  member : Int
  blocks : Int
  ms : List Mem

def Lab.val (l : Lab) (sl : Value) : Value := .agg #[.int .i64 l.array, .int .i64 l.gen, .int .i64 l.member, .int .i64 l.blocks, sl]

/-- members rise, from above 'last', and each may be -/
def risesB : Int → List Mem → Bool
  | _, [] => true
  | last, m :: ms => (mayB m && decide (last < m.id)) && risesB m.id ms
def headB (l : Lab) : Bool := inB l.array 0 4294967295 && (inB l.gen 1 4294967295 && (inB l.blocks 1 96 && inB l.ms.length 3 12))
def rightB (l : Lab) : Bool := headB l && (risesB (-1) l.ms && hasOwn l.ms l.member)

/-- behind k members: the last id -/
def lastId (ms : List Mem) (k : Nat) : Int := if h : k - 1 < ms.length then (if k = 0 then -1 else ms[k - 1].id) else -1
theorem lastId_zero (ms : List Mem) : lastId ms 0 = -1 := by unfold lastId; split <;> rfl
theorem lastId_succ (ms : List Mem) (k : Nat) (h : k < ms.length) : lastId ms (k + 1) = ms[k].id := by
  unfold lastId; rw [dif_pos (by simpa using h)]; simp

theorem risesB_snoc (ms : List Mem) : ∀ last (k : Nat) (h : k < ms.length), risesB last (ms.take (k + 1)) = (risesB last (ms.take k) && (mayB ms[k] && decide ((if k = 0 then last else (ms[k-1]'(by omega)).id) < ms[k].id))) := by
  induction ms with
  | nil => intro last k h; simp at h
  | cons m ms ih =>
    intro last k h
    cases k with
    | zero => simp [risesB]
    | succ k =>
      rw [List.take_succ_cons, List.take_succ_cons]
      simp only [risesB]
      rw [ih m.id k (by simpa using h)]
      simp only [List.getElem_cons_succ, Nat.add_sub_cancel]
      cases k with
      | zero => simp [Bool.and_assoc]
      | succ k => simp [Bool.and_assoc]

theorem risesB_next (ms : List Mem) (k : Nat) (h : k < ms.length) : risesB (-1) (ms.take (k + 1)) = (risesB (-1) (ms.take k) && (mayB ms[k] && decide (lastId ms k < ms[k].id))) := by
  rw [risesB_snoc ms (-1) k h]
  congr 3
  cases k with
  | zero => simp [lastId_zero]
  | succ k => simp [lastId_succ ms k (by omega)]

theorem risesB_stop (ms : List Mem) (k : Nat) (h : risesB (-1) (ms.take k) = false) : risesB (-1) ms = false := by
  suffices ∀ last, risesB last (ms.take k) = false → risesB last ms = false from this _ h
  clear h
  induction ms generalizing k with
  | nil => intro last h; simpa using h
  | cons m ms ih =>
    intro last h
    cases k with
    | zero => simp [risesB] at h
    | succ k =>
      simp only [List.take_succ_cons, risesB, Bool.and_eq_false_iff] at h ⊢
      rcases h with h | h
      · exact .inl h
      · exact .inr (ih _ _ h)

set_option maxHeartbeats 1000000 in
theorem label_Right (l : Lab) (sl : Value) (w : World) (hlen : l.ms.length ≤ 9223372036854775807) (hm : MSl w sl l.ms) :
    Calls Try.prog 78 #[l.val sl] w fun e w' => e = .returned (.bool (rightB l)) ∧ Kept w w' := by
  have hB : ∀ o, Kept w (w.alloc o) := fun o => (Kept.refl _).alloc o
  obtain ⟨array, gen, member, blocks, ms⟩ := l
  obtain ⟨cap, oa, rfl⟩ : ∃ cap oa, sl = .slice oa ms.length cap := by
    rcases hm with ⟨rfl, rfl⟩ | ⟨b, off, cap, rfl, _⟩
    · exact ⟨_, _, rfl⟩
    · exact ⟨_, _, rfl⟩
  simp only [Lab.val]
  by_cases hh : headB ⟨array, gen, member, blocks, ms⟩ = true
  · have hh' := hh
    simp only [headB, Bool.and_eq_true] at hh'
    obtain ⟨h1, h2, h3, h4⟩ := hh'
    have HM := Lib.hid hm; clear hm
    have HH := Lib.hid hh; clear hh
    go_enter Try.func78, Try.ntmps78
    go_wp2_with (go_at_call 101; refine (label_in _ _ _ _).mono ?_; rintro e w' ⟨rfl, rfl⟩)
    go_loopw [3, 32] (fun la i wr => ∃ k : Nat, k ≤ ms.length ∧ i = .int .i64 k ∧ la = .int .i64 (lastId ms k) ∧ Kept (w.alloc (Obj.cells #[.int .i64 array, .int .i64 gen, .int .i64 member, .int .i64 blocks, .slice oa ms.length cap] 71)) wr ∧ risesB (-1) (ms.take k) = true) (fun _ i _ => ms.length - (intOf i).toNat)
    case atStart => exact ⟨0, Nat.zero_le _, rfl, by rw [lastId_zero], Kept.refl _, by simp [risesB]⟩
    case round =>
      obtain ⟨k, hk, rfl, rfl, hbel, hris⟩ := hrel
      have HR := Lib.hid hris; clear hris
      have hsz := hbel.size
      simp only [World.size_alloc] at hsz
      have hk0 : Kept w wr := (hB _).trans hbel
      have c2 : wr.cell? ⟨w.heap.size, 0 + 2, none⟩ = some (.int .i64 member) := hbel.cell' (by simp)
      have c4 : wr.cell? ⟨w.heap.size, 4, none⟩ = some (.slice oa ms.length cap) := hbel.cell' (by simp)
      by_cases hlt : k < ms.length
      · obtain ⟨b, off, cap', hsl, hm⟩ : ∃ b off cap', Value.slice oa ms.length cap = .slice (some ⟨b, off, none⟩) ms.length cap' ∧ MRow w b off ms := by
          rcases HM.out with ⟨h, _⟩ | h
          · have h' : ms = [] := h
            subst h'; simp at hlt
          · exact h
        cases hsl
        obtain ⟨m0, m1, m2⟩ := (hm.kept hk0) k hlt
        have HL := lastId_succ ms k hlt
        have HT := risesB_next ms k hlt
        clear hm
        go_wp2_with (go_at_call 102; refine (label_may _ _ _ _).mono ?_; rintro e w' ⟨rfl, hb1⟩; have q1 := hb1.q)
        · go_ret
          refine ⟨?_, hk0.trans ((Kept.refl _).alloc _ |>.trans hb1)⟩
          have hno : ¬ lastId ms k < ms[k].id := by omega
          rw [show rightB ⟨array, gen, member, blocks, ms⟩ = false from by simp [rightB, risesB_stop ms (k + 1) (by simp [HT, hno])]]; rfl
        · go_roundw
          case rel =>
            refine ⟨k + 1, by omega, by go_num, by rw [HL], hbel.trans ((Kept.refl _).alloc _ |>.trans hb1), ?_⟩
            rw [HT, HR.out]; simp [*]
          case measure => simp [intOf]; omega
        · go_ret
          refine ⟨?_, hk0.trans ((Kept.refl _).alloc _ |>.trans hb1)⟩
          have hno : ¬ mayB ms[k] = true := by assumption
          rw [show rightB ⟨array, gen, member, blocks, ms⟩ = false from by simp [rightB, risesB_stop ms (k + 1) (by simp [HT, hno])]]; rfl
      · go_wp2_with (go_at_call 103; refine (label_containsF ms member _ _ _ _ hlen (HM.out.kept hk0) c2).mono ?_; rintro e w' ⟨rfl, hb1⟩)
        go_ret
        refine ⟨?_, hk0.trans hb1⟩
        have e1 : ms.take k = ms := by rw [List.take_of_length_le]; omega
        have hr := HR.out
        rw [e1] at hr
        rw [show rightB ⟨array, gen, member, blocks, ms⟩ = hasOwn ms member from by simp [rightB, HH.out, hr]]; rfl
  · simp only [Bool.not_eq_true] at hh
    have HH := Lib.hid hh; clear hh
    go_enter Try.func78, Try.ntmps78
    go_wp2_with (go_at_call 101; refine (label_in _ _ _ _).mono ?_; rintro e w' ⟨rfl, rfl⟩)
    rotate_left
    · exfalso; have := HH.out; simp [headB, *] at this; simp_all
    all_goals (go_ret; refine ⟨?_, hB _⟩; rw [show rightB ⟨array, gen, member, blocks, ms⟩ = false from by simp [rightB, HH.out]]; rfl)

end Go.Proofs.Ytcbghpcohbgcjaa
