/- FdA: several texts in one: LabA LabB LabC LabD LabE LabG LabM LabP LabF. -/
import Derived.Test.YtglplhmclfekfaaEA
import Derived.Deep.RegionHeld3
import Derived.Deep.DrawnRows
import Derived.Test.YtglplhmclfekfaaText
import Derived.Deep.RegionLaw
import Derived.Deep.QuietTactic
import Derived.BigQuiet
import Derived.Deep.DeepCutAuto
import Derived.ProofKit
import Derived.Deep.Slices
import Derived.Deep.Fields
import Derived.ChangeSame
/- label.in, label.may, label.Right. -/
namespace Go.Proofs.Ytglplhmclfekfaa
open Go.RowKit
set_option linter.unusedVariables false

def inB (n a b : Int) : Bool := decide (a ≤ n) && decide (n ≤ b)
theorem inB_false1 {n a b : Int} (h : n < a) : inB n a b = false := by simp [inB]; omega
theorem inB_eq {n a b : Int} (h : a ≤ n) : inB n a b = decide (n ≤ b) := by simp [inB]; omega

set_option maxHeartbeats 400000 in
theorem label_in (n a b : Int) (w : World) :
    Calls Try.prog 142 #[.int .i64 n, .int .i64 a, .int .i64 b] w fun e w' => e = .returned (.bool (inB n a b)) ∧ w = w' := by
  go_enter Try.func142, Try.ntmps142
  go_wp2
  · go_ret
    exact ⟨by rw [inB_eq (by assumption)]; rfl, rfl⟩
  · go_ret
    exact ⟨by rw [inB_false1 (by assumption)]; rfl, rfl⟩

/-- a member -/
structure Mem where
  id : Int
  sec : Int
  st : Int
def Mem.vals (m : Mem) : List Value := [.int .i64 m.id, .int .i64 m.sec, .int .i64 m.st]
def Mem.val (m : Mem) : Value := .agg #[.int .i64 m.id, .int .i64 m.sec, .int .i64 m.st]
def mayB (m : Mem) : Bool := inB m.id 0 31 && (inB m.sec 160 4096 && inB m.st 0 2)

set_option maxHeartbeats 400000 in
theorem label_may (x y z : Int) (w : World) :
    Calls Try.prog 143 #[.agg #[.int .i64 x, .int .i64 y, .int .i64 z]] w fun e w' => e = .returned (.bool (mayB ⟨x, y, z⟩)) ∧ Kept w w' := by
  have hB : ∀ o, Kept w (w.alloc o) := fun o => (Kept.refl _).alloc o
  go_enter Try.func143, Try.ntmps143
  go_wp2_with (go_at_call 142; refine (label_in _ _ _ _).mono ?_; rintro e w' ⟨rfl, rfl⟩)
  all_goals (go_ret; refine ⟨?_, hB _⟩; simp [mayB, *])

set_option maxHeartbeats 400000 in
theorem label_rightF (x y z own : Int) (b off : Nat) (w : World) (hb : w.cell? ⟨b, off + 2, none⟩ = some (.int .i64 own)) :
    Calls Try.prog 145 #[.agg #[.int .i64 x, .int .i64 y, .int .i64 z], .pointer (some ⟨b, off, none⟩)] w fun e w' => e = .returned (.bool (x == own)) ∧ Kept w w' := by
  have hB : ∀ o, Kept w (w.alloc o) := fun o => (Kept.refl _).alloc o
  have hlt := World.block_lt_of_cell? _ _ hb
  go_enter Try.func145, Try.ntmps145
  go_wp2
  go_ret
  exact ⟨rfl, hB _⟩

/-- index of the first with that id, or -1 -/
def idxOf (ms : List Mem) (own : Int) : Int := match ms.findIdx? (fun m => m.id == own) with | some k => k | none => -1
theorem idxOf_hit {ms : List Mem} {own : Int} {k : Nat} (hk : k < ms.length) (hno : ∀ i (h : i < ms.length), i < k → ms[i].id ≠ own) (h : ms[k].id = own) : idxOf ms own = k := by
  have : ms.findIdx? (fun m => m.id == own) = some k := by
    rw [List.findIdx?_eq_some_iff_getElem]
    exact ⟨hk, by simpa using h, fun j hj => by simpa using hno j (by omega) hj⟩
  simp [idxOf, this]
theorem idxOf_miss {ms : List Mem} {own : Int} (hno : ∀ i (h : i < ms.length), ms[i].id ≠ own) : idxOf ms own = -1 := by
  have : ms.findIdx? (fun m => m.id == own) = none := by
    rw [List.findIdx?_eq_none_iff]
    intro x hx
    obtain ⟨i, hi, rfl⟩ := List.getElem_of_mem hx
    simpa using hno i hi
  simp [idxOf, this]
def hasOwn (ms : List Mem) (own : Int) : Bool := ms.any fun m => m.id == own
theorem hasOwn_idx (ms : List Mem) (own : Int) : decide (0 ≤ idxOf ms own) = hasOwn ms own := by
  unfold idxOf hasOwn
  cases h : ms.findIdx? (fun m => m.id == own) with
  | none => rw [List.findIdx?_eq_none_iff] at h; simpa using h
  | some k =>
    rw [List.findIdx?_eq_some_iff_getElem] at h
    obtain ⟨hk, hp, _⟩ := h
    simp only [Int.natCast_nonneg, decide_true]
    symm; rw [List.any_eq_true]; exact ⟨_, List.getElem_mem hk, hp⟩

/-- the members' row from ⟨b, off⟩ on reads ms -/
def MRow (w : World) (b off : Nat) (ms : List Mem) : Prop :=
  ∀ i (h : i < ms.length), w.cell? ⟨b, off + i * 3, none⟩ = some (.int .i64 ms[i].id) ∧ w.cell? ⟨b, off + i * 3 + 1, none⟩ = some (.int .i64 ms[i].sec) ∧ w.cell? ⟨b, off + i * 3 + 2, none⟩ = some (.int .i64 ms[i].st)
theorem MRow.kept {w w' : World} {b off : Nat} {ms : List Mem} (h : MRow w b off ms) (hb : Kept w w') : MRow w' b off ms := fun i hi =>
  let ⟨h0, h1, h2⟩ := h i hi
  ⟨hb.cell' h0, hb.cell' h1, hb.cell' h2⟩
/-- a slice that reads ms: nil, or a row -/
def MSl (w : World) (v : Value) (ms : List Mem) : Prop :=
  (ms = [] ∧ v = .slice none 0 0) ∨ ∃ b off cap, v = .slice (some ⟨b, off, none⟩) ms.length cap ∧ MRow w b off ms
theorem MSl.kept {w w' : World} {v : Value} {ms : List Mem} (h : MSl w v ms) (hb : Kept w w') : MSl w' v ms := by
  rcases h with h | ⟨b, off, cap, rfl, h⟩
  · exact .inl h
  · exact .inr ⟨b, off, cap, rfl, h.kept hb⟩

set_option maxHeartbeats 800000 in
theorem label_indexF (ms : List Mem) (own : Int) (v : Value) (lb lo : Nat) (w : World) (hlen : ms.length ≤ 9223372036854775807)
    (hm : MSl w v ms) (hb : w.cell? ⟨lb, lo + 2, none⟩ = some (.int .i64 own)) :
    Calls Try.prog 165 #[v, .func (.func 145) #[] #[.pointer (some ⟨lb, lo, none⟩)]] w fun e w' => e = .returned (.int .i64 (idxOf ms own)) ∧ Kept w w' := by
  have hlb := World.block_lt_of_cell? _ _ hb
  rcases hm with ⟨rfl, rfl⟩ | ⟨b, off, cap, rfl, hm⟩
  · go_enter Try.func165, Try.ntmps165
    go_wp2
    refine wp_loop_once ?_
    go_wp2
    go_ret
    exact ⟨rfl, Kept.refl _⟩
  have HM := Lib.hid hm; clear hm
  go_enter Try.func165, Try.ntmps165
  go_wp2
  go_loopw [8] (fun i wr => ∃ k : Nat, k ≤ ms.length ∧ i = .int .i64 k ∧ Kept w wr ∧ ∀ i (h : i < ms.length), i < k → ms[i].id ≠ own) (fun i _ => ms.length - (intOf i).toNat)
  case atStart => exact ⟨0, Nat.zero_le _, rfl, Kept.refl _, fun _ _ h => by omega⟩
  case round =>
    obtain ⟨k, hk, rfl, hbel, hno⟩ := hrel
    have hsz := hbel.size
    replace hb := hbel.cell' hb
    have HN := Lib.hid hno; clear hno
    by_cases hlt : k < ms.length
    · obtain ⟨h0, h1, h2⟩ := (HM.out.kept hbel) k hlt
      by_cases hown : (ms[k].id == own) = true
      · go_wp2_with (go_at_call 145; refine (label_rightF _ _ _ own _ _ _ hb).mono ?_; rintro e w' ⟨rfl, hb1⟩)
        go_ret
        exact ⟨by rw [idxOf_hit hlt HN.out (by simpa using hown)]; rfl, hbel.trans hb1⟩
      · have hown' : (ms[k].id == own) = false := by simpa using hown
        clear hown
        go_wp2_with (go_at_call 145; refine (label_rightF _ _ _ own _ _ _ hb).mono ?_; rintro e w' ⟨rfl, hb1⟩)
        go_roundw
        case rel => exact ⟨k + 1, by omega, by go_num, hbel.trans hb1, fun i h hi => by
          rcases Nat.lt_succ_iff_lt_or_eq.1 hi with h' | rfl
          · exact HN.out i h h'
          · simpa using hown'⟩
        case measure => simp [intOf]; omega
    · go_wp2
      go_ret
      exact ⟨by rw [idxOf_miss (fun i h => HN.out i h (by omega))]; rfl, hbel⟩

set_option maxHeartbeats 400000 in
theorem label_containsF (ms : List Mem) (own : Int) (v : Value) (lb lo : Nat) (w : World) (hlen : ms.length ≤ 9223372036854775807)
    (hm : MSl w v ms) (hb : w.cell? ⟨lb, lo + 2, none⟩ = some (.int .i64 own)) :
    Calls Try.prog 144 #[v, .func (.func 145) #[] #[.pointer (some ⟨lb, lo, none⟩)]] w fun e w' => e = .returned (.bool (hasOwn ms own)) ∧ Kept w w' := by
  go_enter Try.func144, Try.ntmps144
  go_wp2_with (go_at_call 165; refine (label_indexF ms own v lb lo _ hlen hm hb).mono ?_; rintro e w' ⟨rfl, hb1⟩)
  go_ret
  exact ⟨by rw [← hasOwn_idx]; rfl, hb1⟩

end Go.Proofs.Ytglplhmclfekfaa
/- label.Right. -/
namespace Go.Proofs.Ytglplhmclfekfaa
open Go.RowKit
set_option linter.unusedVariables false

/-- a label, but for its members -/
structure Lab where
  array : Int
  gen : Int
  member : Int
  blocks : Int
  ms : List Mem

def Lab.val (l : Lab) (sl : Value) : Value := .agg #[.int .i64 l.array, .int .i64 l.gen, .int .i64 l.member, .int .i64 l.blocks, sl]

/-- members rise, from above 'last', and each may be -/
def risesB : Int → List Mem → Bool
  | _, [] => true
  | last, m :: ms => (mayB m && decide (last < m.id)) && risesB m.id ms
def headB (l : Lab) : Bool := inB l.array 0 4294967295 && (inB l.gen 1 4294967295 && (inB l.blocks 1 96 && inB l.ms.length 3 12))
def rightB (l : Lab) : Bool := headB l && (risesB (-1) l.ms && hasOwn l.ms l.member)

/-- behind k members: the last id -/
def lastId (ms : List Mem) (k : Nat) : Int := if h : k - 1 < ms.length then (if k = 0 then -1 else ms[k - 1].id) else -1
theorem lastId_zero (ms : List Mem) : lastId ms 0 = -1 := by unfold lastId; split <;> rfl
theorem lastId_succ (ms : List Mem) (k : Nat) (h : k < ms.length) : lastId ms (k + 1) = ms[k].id := by
  unfold lastId; rw [dif_pos (by simpa using h)]; simp

theorem risesB_snoc (ms : List Mem) : ∀ last (k : Nat) (h : k < ms.length), risesB last (ms.take (k + 1)) = (risesB last (ms.take k) && (mayB ms[k] && decide ((if k = 0 then last else (ms[k-1]'(by omega)).id) < ms[k].id))) := by
  induction ms with
  | nil => intro last k h; simp at h
  | cons m ms ih =>
    intro last k h
    cases k with
    | zero => simp [risesB]
    | succ k =>
      rw [List.take_succ_cons, List.take_succ_cons]
      simp only [risesB]
      rw [ih m.id k (by simpa using h)]
      simp only [List.getElem_cons_succ, Nat.add_sub_cancel]
      cases k with
      | zero => simp [Bool.and_assoc]
      | succ k => simp [Bool.and_assoc]

theorem risesB_next (ms : List Mem) (k : Nat) (h : k < ms.length) : risesB (-1) (ms.take (k + 1)) = (risesB (-1) (ms.take k) && (mayB ms[k] && decide (lastId ms k < ms[k].id))) := by
  rw [risesB_snoc ms (-1) k h]
  congr 3
  cases k with
  | zero => simp [lastId_zero]
  | succ k => simp [lastId_succ ms k (by omega)]

theorem risesB_stop (ms : List Mem) (k : Nat) (h : risesB (-1) (ms.take k) = false) : risesB (-1) ms = false := by
  suffices ∀ last, risesB last (ms.take k) = false → risesB last ms = false from this _ h
  clear h
  induction ms generalizing k with
  | nil => intro last h; simpa using h
  | cons m ms ih =>
    intro last h
    cases k with
    | zero => simp [risesB] at h
    | succ k =>
      simp only [List.take_succ_cons, risesB, Bool.and_eq_false_iff] at h ⊢
      rcases h with h | h
      · exact .inl h
      · exact .inr (ih _ _ h)

set_option maxHeartbeats 1000000 in
theorem label_Right (l : Lab) (sl : Value) (w : World) (hlen : l.ms.length ≤ 9223372036854775807) (hm : MSl w sl l.ms) :
    Calls Try.prog 114 #[l.val sl] w fun e w' => e = .returned (.bool (rightB l)) ∧ Kept w w' := by
  have hB : ∀ o, Kept w (w.alloc o) := fun o => (Kept.refl _).alloc o
  obtain ⟨array, gen, member, blocks, ms⟩ := l
  obtain ⟨cap, oa, rfl⟩ : ∃ cap oa, sl = .slice oa ms.length cap := by
    rcases hm with ⟨rfl, rfl⟩ | ⟨b, off, cap, rfl, _⟩
    · exact ⟨_, _, rfl⟩
    · exact ⟨_, _, rfl⟩
  simp only [Lab.val]
  by_cases hh : headB ⟨array, gen, member, blocks, ms⟩ = true
  · have hh' := hh
    simp only [headB, Bool.and_eq_true] at hh'
    obtain ⟨h1, h2, h3, h4⟩ := hh'
    have HM := Lib.hid hm; clear hm
    have HH := Lib.hid hh; clear hh
    go_enter Try.func114, Try.ntmps114
    go_wp2_with (go_at_call 142; refine (label_in _ _ _ _).mono ?_; rintro e w' ⟨rfl, rfl⟩)
    go_loopw [3, 32] (fun la i wr => ∃ k : Nat, k ≤ ms.length ∧ i = .int .i64 k ∧ la = .int .i64 (lastId ms k) ∧ Kept (w.alloc (Obj.cells #[.int .i64 array, .int .i64 gen, .int .i64 member, .int .i64 blocks, .slice oa ms.length cap] 80)) wr ∧ risesB (-1) (ms.take k) = true) (fun _ i _ => ms.length - (intOf i).toNat)
    case atStart => exact ⟨0, Nat.zero_le _, rfl, by rw [lastId_zero], Kept.refl _, by simp [risesB]⟩
    case round =>
      obtain ⟨k, hk, rfl, rfl, hbel, hris⟩ := hrel
      have HR := Lib.hid hris; clear hris
      have hsz := hbel.size
      simp only [World.size_alloc] at hsz
      have hk0 : Kept w wr := (hB _).trans hbel
      have c2 : wr.cell? ⟨w.heap.size, 0 + 2, none⟩ = some (.int .i64 member) := hbel.cell' (by simp)
      have c4 : wr.cell? ⟨w.heap.size, 4, none⟩ = some (.slice oa ms.length cap) := hbel.cell' (by simp)
      by_cases hlt : k < ms.length
      · obtain ⟨b, off, cap', hsl, hm⟩ : ∃ b off cap', Value.slice oa ms.length cap = .slice (some ⟨b, off, none⟩) ms.length cap' ∧ MRow w b off ms := by
          rcases HM.out with ⟨h, _⟩ | h
          · have h' : ms = [] := h
            subst h'; simp at hlt
          · exact h
        cases hsl
        obtain ⟨m0, m1, m2⟩ := (hm.kept hk0) k hlt
        have HL := lastId_succ ms k hlt
        have HT := risesB_next ms k hlt
        clear hm
        go_wp2_with (go_at_call 143; refine (label_may _ _ _ _).mono ?_; rintro e w' ⟨rfl, hb1⟩; have q1 := hb1.q)
        · go_ret
          refine ⟨?_, hk0.trans ((Kept.refl _).alloc _ |>.trans hb1)⟩
          have hno : ¬ lastId ms k < ms[k].id := by omega
          rw [show rightB ⟨array, gen, member, blocks, ms⟩ = false from by simp [rightB, risesB_stop ms (k + 1) (by simp [HT, hno])]]; rfl
        · go_roundw
          case rel =>
            refine ⟨k + 1, by omega, by go_num, by rw [HL], hbel.trans ((Kept.refl _).alloc _ |>.trans hb1), ?_⟩
            rw [HT, HR.out]; simp [*]
          case measure => simp [intOf]; omega
        · go_ret
          refine ⟨?_, hk0.trans ((Kept.refl _).alloc _ |>.trans hb1)⟩
          have hno : ¬ mayB ms[k] = true := by assumption
          rw [show rightB ⟨array, gen, member, blocks, ms⟩ = false from by simp [rightB, risesB_stop ms (k + 1) (by simp [HT, hno])]]; rfl
      · go_wp2_with (go_at_call 144; refine (label_containsF ms member _ _ _ _ hlen (HM.out.kept hk0) c2).mono ?_; rintro e w' ⟨rfl, hb1⟩)
        go_ret
        refine ⟨?_, hk0.trans hb1⟩
        have e1 : ms.take k = ms := by rw [List.take_of_length_le]; omega
        have hr := HR.out
        rw [e1] at hr
        rw [show rightB ⟨array, gen, member, blocks, ms⟩ = hasOwn ms member from by simp [rightB, HH.out, hr]]; rfl
  · simp only [Bool.not_eq_true] at hh
    have HH := Lib.hid hh; clear hh
    go_enter Try.func114, Try.ntmps114
    go_wp2_with (go_at_call 142; refine (label_in _ _ _ _).mono ?_; rintro e w' ⟨rfl, rfl⟩)
    rotate_left
    · exfalso; have := HH.out; simp [headB, *] at this; simp_all
    all_goals (go_ret; refine ⟨?_, hB _⟩; rw [show rightB ⟨array, gen, member, blocks, ms⟩ = false from by simp [rightB, HH.out]]; rfl)

end Go.Proofs.Ytglplhmclfekfaa
/- label.Put. -/
namespace Go.Proofs.Ytglplhmclfekfaa
open Go.RowKit
set_option linter.unusedVariables false

def Lab.flds (l : Lab) : List (Int × Int) := [(l.array, 4), (l.gen, 4), (l.member, 1), (l.blocks, 2), (l.ms.length, 1)]
def Mem.bytes (m : Mem) : List Int := beBytes m.id 1 ++ (beBytes m.sec 2 ++ beBytes m.st 1)
def fldBytes (f : List (Int × Int)) : List Int := f.flatMap fun p => beBytes p.1 p.2.toNat
def memBytes (ms : List Mem) : List Int := ms.flatMap Mem.bytes
def Lab.text (l : Lab) : List Int := [66, 87] ++ (fldBytes l.flds ++ memBytes l.ms)
def Lab.sec (l : Lab) : List Int := l.text ++ List.replicate (64 - l.text.length) 0

theorem Mem.bytes_length (m : Mem) : m.bytes.length = 4 := by simp [Mem.bytes, beBytes_length]
theorem memBytes_length (ms : List Mem) : (memBytes ms).length = 4 * ms.length := by
  induction ms with
  | nil => simp [memBytes]
  | cons m ms ih => simp only [memBytes, List.flatMap_cons, List.length_append, Mem.bytes_length, List.length_cons] at ih ⊢; omega
theorem Lab.text_length (l : Lab) : l.text.length = 14 + 4 * l.ms.length := by
  simp [Lab.text, fldBytes, Lab.flds, memBytes_length, beBytes_length]; omega
theorem fldBytes_next (f : List (Int × Int)) (k : Nat) (h : k < f.length) : fldBytes (f.take (k + 1)) = fldBytes (f.take k) ++ beBytes f[k].1 f[k].2.toNat := by
  unfold fldBytes; rw [List.take_succ_eq_append_getElem h, List.flatMap_append, List.flatMap_singleton]
theorem fldBytes_take (f : List (Int × Int)) (k : Nat) : (fldBytes (f.take k)).length ≤ (fldBytes f).length := by
  have : fldBytes f = fldBytes (f.take k) ++ fldBytes (f.drop k) := by
    unfold fldBytes; rw [← List.flatMap_append, List.take_append_drop]
  rw [this, List.length_append]; omega
theorem Lab.flds_len (l : Lab) : (fldBytes l.flds).length = 12 := by simp [fldBytes, Lab.flds, beBytes_length]
theorem memBytes_next (ms : List Mem) (k : Nat) (h : k < ms.length) : memBytes (ms.take (k + 1)) = memBytes (ms.take k) ++ ms[k].bytes := by
  unfold memBytes; rw [List.take_succ_eq_append_getElem h, List.flatMap_append, List.flatMap_singleton]
theorem splice_u8s (t : List Int) (h : t.length ≤ 64) : splice (u8s zeroB) 0 (u8s t) = u8s (t ++ List.replicate (64 - t.length) 0) := by
  have e : (u8s zeroB).drop t.length = u8s (List.replicate (64 - t.length) 0) := by
    rw [show u8s zeroB = List.replicate 64 (.int .u8 0) from by rw [u8s, zeroB, List.map_replicate], List.drop_replicate, u8s, List.map_replicate]
  rw [splice, List.take_zero, List.nil_append, Nat.zero_add, u8s_length, e, u8s_append]
theorem Lab.sec_length (l : Lab) (h : l.ms.length ≤ 12) : l.sec.length = 64 := by
  have := l.text_length
  simp [Lab.sec]; omega
theorem label_Right_t (l : Lab) (sl : Value) (w : World) (hm : MSl w sl l.ms) (hr : rightB l = true) :
    Calls Try.prog 114 #[l.val sl] w fun e w' => e = .returned (.bool true) ∧ Kept w w' := by
  refine (label_Right l sl w ?_ hm).mono fun e w' ⟨he, hk⟩ => ⟨by rw [he, hr], hk⟩
  simp only [rightB, headB, inB, Bool.and_eq_true, decide_eq_true_eq] at hr
  omega
theorem label_Right_f (l : Lab) (sl : Value) (w : World) (hlen : l.ms.length ≤ 9223372036854775807) (hm : MSl w sl l.ms) (hr : rightB l = false) :
    Calls Try.prog 114 #[l.val sl] w fun e w' => e = .returned (.bool false) ∧ Kept w w' := by
  exact (label_Right l sl w hlen hm).mono fun e w' ⟨he, hk⟩ => ⟨by rw [he, hr], hk⟩

set_option maxHeartbeats 1000000 in
set_option maxRecDepth 100000 in
theorem label_Put_no (l : Lab) (sl : Value) (w : World) (hlen : l.ms.length ≤ 9223372036854775807) (hm : MSl w sl l.ms) (hr : rightB l = false) :
    Calls Try.prog 111 #[l.val sl] w fun e w' => e = .returned (.tuple #[secV zeroB, .int .i64 1]) ∧ Kept w w' := by
  have hB : ∀ o, Kept w (w.alloc o) := fun o => (Kept.refl _).alloc o
  have hR := fun (W : World) (hk : Kept w W) => label_Right_f l sl W hlen (hm.kept hk) hr
  have HR := Lib.hid hR; clear hR
  clear hr hm
  obtain ⟨array, gen, member, blocks, ms⟩ := l
  simp only [Lab.val] at HR ⊢
  go_enter Try.func111, Try.ntmps111
  go_wp2_with (first | (refine wpList_alloc_abs rfl 34 rfl (u8s zeroB) zero_sec ?_; intro w1 hz1 hs1 hn1 hk1; have q1 := hk1.q; have hk1' := (hB _).trans hk1) | (go_at_call 114; refine (HR.out _ hk1').mono ?_; rintro e w2 ⟨rfl, hk2⟩; have hz2 := Lib.hid (hk2.block hz1.out); rw [World.size_alloc] at hz2) | (refine wpList_load_agg rfl _ rfl ty_sec (w.heap.size + 1) 0 rfl (u8s zeroB) (by simpa using Cells.of_block hz2.out) (by simp [u8s_length, zeroB_length]) ?_) | (refine wpList_store_agg rfl _ _ rfl ty_sec (w.heap.size + 1) 0 rfl (u8s zeroB) rfl (by simp [u8s_length, zeroB_length]) (u8s_one _) (u8s zeroB) 34 hz2.out (by simp [u8s_length, zeroB_length]) ?_; intro w3 hw3))
  replace hw3 := hw3.all rfl
  have hkw : Kept w w3 := hw3.kept (hk1'.trans hk2) (by omega)
  refine bodyPost_ret (results_sec rfl _ _ (w.heap.size + 1) zeroB rfl hw3.cells zeroB_length) rfl ⟨rfl, hkw⟩

theorem risesB_mem (ms : List Mem) : ∀ last, risesB last ms = true → ∀ m ∈ ms, mayB m = true := by
  induction ms with
  | nil => intro _ _ m hm; cases hm
  | cons x ms ih =>
    intro last h m hm
    simp only [risesB, Bool.and_eq_true] at h
    rcases List.mem_cons.1 hm with rfl | hm
    · exact h.1.1
    · exact ih _ h.2 m hm
theorem Lab.mem (l : Lab) (h : rightB l = true) : ∀ m ∈ l.ms, mayPut m.id 1 = true ∧ mayPut m.sec 2 = true ∧ mayPut m.st 1 = true := by
  simp only [rightB, Bool.and_eq_true] at h
  intro m hm
  have := risesB_mem _ _ h.2.1 m hm
  simp only [mayB, inB, Bool.and_eq_true, decide_eq_true_eq] at this
  simp only [mayPut_iff, show (8 * 1 : Int).toNat = 8 from rfl, show (8 * 2 : Int).toNat = 16 from rfl]
  omega
theorem Lab.fld (l : Lab) (h : rightB l = true) : ∀ p ∈ l.flds, mayPut p.1 p.2 = true := by
  have hown : 0 ≤ l.member ∧ l.member ≤ 31 := by
    simp only [rightB, Bool.and_eq_true, hasOwn, List.any_eq_true, beq_iff_eq] at h
    obtain ⟨_, hr, m, hm, he⟩ := h
    have := risesB_mem _ _ hr m hm
    simp only [mayB, inB, Bool.and_eq_true, decide_eq_true_eq] at this
    omega
  simp only [rightB, headB, inB, Bool.and_eq_true, decide_eq_true_eq] at h
  intro p hp
  simp only [Lab.flds, List.mem_cons, List.not_mem_nil, or_false] at hp
  rcases hp with rfl | rfl | rfl | rfl | rfl <;> simp only [mayPut_iff, show (8 * 1 : Int).toNat = 8 from rfl, show (8 * 2 : Int).toNat = 16 from rfl, show (8 * 4 : Int).toNat = 32 from rfl] <;> omega

attribute [local go_sem ↓] Go.wp_at_zero Go.wp_at_succ
set_option maxHeartbeats 2000000 in
set_option maxRecDepth 100000 in
theorem label_Put_ok (l : Lab) (sl : Value) (w : World) (hm : MSl w sl l.ms) (hr : rightB l = true) :
    Calls Try.prog 111 #[l.val sl] w fun e w' => e = .returned (.tuple #[secV l.sec, .int .i64 0]) ∧ Kept w w' := by
  have hB : ∀ o, Kept w (w.alloc o) := fun o => (Kept.refl _).alloc o
  have hR := fun (W : World) (hk : Kept w W) => label_Right_t l sl W (hm.kept hk) hr
  have hF := l.fld hr
  have hM := l.mem hr
  have HF := Lib.hid hF; clear hF
  have hN : l.ms.length ≤ 12 := by
    simp only [rightB, headB, inB, Bool.and_eq_true, decide_eq_true_eq] at hr
    omega
  have HMm := Lib.hid hM; clear hM
  have HR := Lib.hid hR; clear hR
  have HS := Lib.hid hm; clear hm
  clear hr
  obtain ⟨array, gen, member, blocks, ms⟩ := l
  obtain ⟨cap, oa, rfl⟩ : ∃ cap oa, sl = .slice oa ms.length cap := by
    rcases HS.out with ⟨rfl, rfl⟩ | ⟨b, off, cap, rfl, _⟩
    · exact ⟨_, _, rfl⟩
    · exact ⟨_, _, rfl⟩
  simp only [Lab.val] at HR ⊢
  have kc := conv_const
  go_enter Try.func111, Try.ntmps111
  go_wp2_with (first | (refine wpList_alloc_abs rfl 34 rfl (u8s zeroB) zero_sec ?_; intro w1 hz1 hs1 hn1 hk1; have q1 := hk1.q; have hk1' := (hB _).trans hk1; rw [World.size_alloc] at hn1 hz1 hs1; have hs1' : w.heap.size < w1.heap.size := (by omega)) | (go_at_call 114; refine (HR.out _ hk1').mono ?_; rintro e w2 ⟨rfl, hk2⟩; have q2 := hk2.q; have hz2 := Lib.hid (hk2.block hz1.out); have hs2 : w.heap.size + 1 < w2.heap.size := (by have := hk2.size; have := hn1.out; omega); have hs2' : w.heap.size < w2.heap.size := (by omega)))
  have hk2' : Kept w w2 := hk1'.trans hk2
  go_loopw [4, 33] (fun b i wr => ∃ k : Nat, k ≤ 5 ∧ i = .int .i64 k ∧ App wr w.heap.size 5 1 b ((([66, 87] ++ fldBytes ((Lab.flds ⟨array, gen, member, blocks, ms⟩).take k)) : List Int).length) (u8s ([66, 87] ++ fldBytes ((Lab.flds ⟨array, gen, member, blocks, ms⟩).take k))) ∧
    Cells wr (w2.heap.size + 1) 0 ((Lab.flds ⟨array, gen, member, blocks, ms⟩).flatMap fun p => [.int .i64 p.1, .int .i64 p.2]) ∧ Kept w2 wr) (fun _ i _ => 5 - (intOf i).toNat)
  case atStart =>
    refine ⟨0, by omega, rfl, ?_, ?_, ((Kept.refl _).alloc _).alloc _⟩
    · refine App.full (c := 2) (Src.of_cells (xs := u8s [66, 87]) ?_ rfl (by decide))
      exact Cells.kept (Cells.of_block (heap_alloc_new w2 _)) ((Kept.refl _).alloc _)
    · have := Cells.of_block (heap_alloc_new (w2.alloc (Obj.cells #[.int .u8 66, .int .u8 87] 5 (2, 3))) (Obj.cells #[.int .i64 array, .int .i64 4, .int .i64 gen, .int .i64 4, .int .i64 member, .int .i64 1, .int .i64 blocks, .int .i64 2, .int .i64 ms.length, .int .i64 1] 181))
      rw [World.size_alloc] at this
      exact this
  case round =>
    obtain ⟨k, hk, rfl, happ, hc, hbel⟩ := hrel
    have HC := Lib.hid hc; clear hc
    have HA := Lib.hid happ; clear happ
    have hsz := hbel.size
    have hkw : Kept w wr := hk2'.trans hbel
    by_cases hlt : k < 5
    · have hlf : k < (Lab.flds ⟨array, gen, member, blocks, ms⟩).length := hlt
      have hm := HF.out _ (List.getElem_mem hlf)
      have hT := fldBytes_next _ k hlf
      have c0 := HC.out.flat 2 (by simp) k 0 hlf _ rfl
      have c1 := HC.out.flat 2 (by simp) k 1 hlf _ rfl
      simp only [Nat.zero_add, Nat.add_zero] at c0 c1
      have hL : (fldBytes ((Lab.flds ⟨array, gen, member, blocks, ms⟩).take k)).length ≤ 100 := by
        have := fldBytes_take (Lab.flds ⟨array, gen, member, blocks, ms⟩) k
        rw [Lab.flds_len] at this; omega
      have HT := Lib.hid hT; clear hT
      generalize (Lab.flds ⟨array, gen, member, blocks, ms⟩)[k] = p at *
      obtain ⟨v, wd⟩ := p
      simp only at c0 c1 hm HT
      have HMv := Lib.hid hm; clear hm
      go_wp2_with (go_at_call 139; refine (pack_Put _ _ _ _ _ ((Src.of_app HA.out).kept ((Kept.refl _).alloc _)) (by simp; omega) HMv.out).mono ?_; rintro e w3 ⟨sv', rfl, hown, hk3⟩)
      go_roundw
      case rel =>
        have hk3' := (Kept.refl wr).alloc _ |>.trans hk3
        refine ⟨k + 1, by omega, by go_num, ?_, HC.out.kept hk3', hbel.trans hk3'⟩
        rw [HT.out, ← List.append_assoc]
        exact .inl (ownsRow_base hown (by simp; have := hkw.size; omega))
      case measure => simp [intOf]; omega
    · have e5 : (Lab.flds ⟨array, gen, member, blocks, ms⟩).take k = Lab.flds ⟨array, gen, member, blocks, ms⟩ := by
        have : k = 5 := by omega
        subst this; rfl
      rw [e5] at HA
      clear e5
      have q3 := hbel.q
      have hs3 : w.heap.size < wr.heap.size := by omega
      go_wp2
      clear HC q1 q2 q3
      obtain ⟨wa, rfl⟩ : ∃ wa, wa = wr := ⟨_, rfl⟩
      go_loopw [4, 47] (fun b i wr => ∃ k : Nat, k ≤ ms.length ∧ i = .int .i64 k ∧ App wr w.heap.size 5 1 b (([66, 87] ++ (fldBytes (Lab.flds ⟨array, gen, member, blocks, ms⟩) ++ memBytes (ms.take k)) : List Int).length) (u8s ([66, 87] ++ (fldBytes (Lab.flds ⟨array, gen, member, blocks, ms⟩) ++ memBytes (ms.take k)))) ∧
        Kept wa wr) (fun _ i _ => ms.length - (intOf i).toNat)
      case atStart => exact ⟨0, by omega, rfl, by simpa [memBytes] using HA.out, Kept.refl _⟩
      case round =>
        obtain ⟨k, hk, rfl, happ, hbel2⟩ := hrel
        have HB := Lib.hid happ; clear happ
        have hsz2 := hbel2.size
        have hkw2 : Kept w wr := hkw.trans hbel2
        by_cases hlt2 : k < ms.length
        · obtain ⟨b, off, cap', hsl, hm⟩ : ∃ b off cap', Value.slice oa ms.length cap = .slice (some ⟨b, off, none⟩) ms.length cap' ∧ MRow w b off ms := by
            rcases HS.out with ⟨h, _⟩ | h
            · have h' : ms = [] := h
              subst h'; simp at hlt2
            · exact h
          cases hsl
          obtain ⟨m0, m1, m2⟩ := (hm.kept hkw2) k hlt2
          obtain ⟨p0, p1, p2⟩ := HMm.out _ (List.getElem_mem hlt2)
          have HT := Lib.hid (memBytes_next ms k hlt2)
          have hlen : ([66, 87] ++ (fldBytes (Lab.flds ⟨array, gen, member, blocks, ms⟩) ++ memBytes (ms.take k)) : List Int).length ≤ 100 := by
            have h1 := Lab.flds_len ⟨array, gen, member, blocks, ms⟩
            have h2 := memBytes_length (ms.take k)
            have h3 : (ms.take k).length ≤ k := List.length_take_le _ _
            have h4 : ms.length ≤ 12 := hN
            simp only [List.length_append, h1, h2, List.length_cons, List.length_nil]; omega
          have HLn := Lib.hid hlen; clear hlen
          generalize hTd : [66, 87] ++ (fldBytes (Lab.flds ⟨array, gen, member, blocks, ms⟩) ++ memBytes (ms.take k)) = T at *
          have HTd := Lib.hid hTd; clear hTd
          clear hm
          generalize ms[k] = m at *
          obtain ⟨mi, mse, mst⟩ := m
          simp only at m0 m1 m2 p0 p1 p2
          have P0 := Lib.hid p0; clear p0
          have P1 := Lib.hid p1; clear p1
          have P2 := Lib.hid p2; clear p2
          go_wp2
          go_region_held3 (fun w' => w'.cell? ⟨wr.heap.size, 0, none⟩ = some (.int .i64 mi) ∧ w'.cell? ⟨wr.heap.size, 1, none⟩ = some (.int .i64 mse) ∧ w'.cell? ⟨wr.heap.size, 2, none⟩ = some (.int .i64 mst))
            (go_keep)
            (first
              | (go_at_call 139; have _g := hown2; refine (pack_Put sv2 _ mst 1 _ (Src.of_app (.inl hown2)) (by have := HLn.out; rw [List.length_append, List.length_append, beBytes_length, beBytes_length]; omega) P2.out).mono ?_; rintro e w5 ⟨sv3, rfl, hown3, hk5⟩; have q5 := hk5.q)
              | (go_at_call 139; have _g := hown1; refine (pack_Put sv1 _ mse 2 _ (Src.of_app (.inl hown1)) (by have := HLn.out; rw [List.length_append, beBytes_length]; omega) P1.out).mono ?_; rintro e w4 ⟨sv2, rfl, hown2, hk4⟩; have q4 := hk4.q; have s4 : wr.heap.size < w4.heap.size := (by have := hk4.size; omega))
              | (go_at_call 139; with_reducible refine (pack_Put u4 _ mi 1 _ ((Src.of_app HB.out).kept (((Kept.refl _).alloc _).drew)) (by have := HLn.out; omega) P0.out).mono ?_; rintro e w3 ⟨sv1, rfl, hown1, hk3⟩; have q3 := hk3.q; have s3 : wr.heap.size < w3.heap.size := (by have := hk3.size; simp at this; omega)))
          go_wp2
          go_roundw
          case rel =>
            have k3 := ((Kept.refl wr).alloc _).drew.trans hk3 |>.trans hk4 |>.trans hk5
            refine ⟨k + 1, by omega, by go_num, ?_, hbel2.trans k3⟩
            have e : [66, 87] ++ (fldBytes (Lab.flds ⟨array, gen, member, blocks, ms⟩) ++ memBytes (ms.take (k + 1))) = T ++ beBytes mi (Int.toNat 1) ++ beBytes mse (Int.toNat 2) ++ beBytes mst (Int.toNat 1) := by
              rw [HT.out, ← HTd.out]; simp [Mem.bytes]
            rw [e]
            exact .inl (ownsRow_base hown3 (by have := hkw2.size; have := hk4.size; omega))
          case measure => simp [intOf]; omega
        · have e1 : ms.take k = ms := by rw [List.take_of_length_le]; omega
          rw [e1] at HB
          clear e1
          have hz5 := Lib.hid ((hbel.trans hbel2).block hz2.out)
          obtain ⟨hl4, ax, c4, rfl, hc4, hno4, hcl4⟩ := Src.of_app HB.out
          have HL4 := Lib.hid hl4; clear hl4
          have HNo := Lib.hid hno4; clear hno4
          have HCl := Lib.hid hcl4; clear hcl4
          have hcc := Lib.hid hc4; clear hc4
          have HTx : Hid (([66, 87] ++ (fldBytes (Lab.flds ⟨array, gen, member, blocks, ms⟩) ++ memBytes ms) : List Int) = (Lab.mk array gen member blocks ms).text) := show _ = _ from rfl
          rw [HTx.out] at HL4 HNo HCl hcc HB
          have hTl := Lib.hid (Lab.text_length (Lab.mk array gen member blocks ms))
          rw [HTx.out]
          clear HTx
          have hsp : Hid (splice (u8s zeroB) 0 (u8s (Lab.mk array gen member blocks ms).text) = u8s (Lab.mk array gen member blocks ms).sec) := splice_u8s _ (by rw [hTl.out]; have : ms.length ≤ 12 := hN; simp only; omega)
          have hsl : Hid ((Lab.mk array gen member blocks ms).sec.length = 64) := Lab.sec_length _ hN
          generalize hse : (Lab.mk array gen member blocks ms).sec = sec at *
          have HSe := Lib.hid hse; clear hse
          generalize (Lab.mk array gen member blocks ms).text = tx at *
          have htx : tx.length ≤ 62 := by rw [hTl.out]; have : ms.length ≤ 12 := hN; simp only; omega
          have htx0 : 0 < tx.length := by rw [hTl.out]; omega
          have hcs : (u8s tx).length = Nat.min tx.length 64 := by rw [u8s_length]; exact (Nat.min_eq_left (by omega)).symm
          have HCs := Lib.hid hcs; clear hcs
          have hpos : ∃ ad, ax = some ad ∧ ∀ j v, (u8s tx)[j]? = some v → wr.cell? (ad.add j) = some v := by
            cases ax with
            | none => have := (HNo.out rfl).1; omega
            | some ad => exact ⟨ad, rfl, HCl.out ad rfl⟩
          have HPs := Lib.hid hpos; clear hpos
          go_wp2_with (first | (refine wpList_copy_splice rfl (.tmp 62) (.tmp 63) 158 158 (by rfl) 5 Try.underlying158 (by kernel_rfl) (some ⟨w.heap.size + 1, 0, none⟩) ax 64 64 tx.length c4 (by rfl) (by rfl) (w.heap.size + 1) 0 (u8s zeroB) 34 hz5.out (u8s tx) HCs.out (fun _ => ⟨rfl, HPs.out⟩) (by rw [u8s_length, u8s_length, zeroB_length]; omega) (u8s_one _) w.heap.size w hkw2 (by omega) ?_; intro w6 hz6 hk6; rw [hsp.out] at hz6; have hk6' : Kept w w6 := hk6) | (refine wpList_load_agg rfl _ rfl ty_sec (w.heap.size + 1) 0 rfl (u8s sec) (by simpa using Cells.of_block hz6.out) (by rw [u8s_length, hsl.out]) ?_) | (refine wpList_store_agg rfl _ _ rfl ty_sec (w.heap.size + 1) 0 rfl (u8s sec) rfl (by rw [u8s_length, hsl.out]) (u8s_one _) (u8s sec) 34 hz6.out (by rw [u8s_length, hsl.out]; omega) ?_; intro w7 hw7))
          replace hw7 := hw7.all rfl
          have hkw : Kept w w7 := hw7.kept hk6' (by omega)
          refine bodyPost_ret (results_sec rfl _ _ (w.heap.size + 1) sec rfl hw7.cells hsl.out) rfl ⟨by rw [HSe.out]; rfl, hkw⟩

end Go.Proofs.Ytglplhmclfekfaa
/- label.Of. -/
namespace Go.Proofs.Ytglplhmclfekfaa
open Go.RowKit
set_option linter.unusedVariables false
set_option linter.unusedSimpArgs false

def getB (bs : List Int) (at_ width : Nat) : Int := beVal ((bs.drop at_).take width)
theorem u8s_drop (l : List Int) (k : Nat) : u8s (l.drop k) = (u8s l).drop k := by simp [u8s]
theorem Cells.drop {w : World} {b off : Nat} {xs : List Value} (h : Cells w b off xs) (k : Nat) : Cells w b (off + k) (xs.drop k) := by
  intro j hj
  have := h (k + j) (by rw [List.length_drop] at hj; omega)
  rw [List.getElem_drop, ← this]
  congr 2; omega

set_option maxHeartbeats 400000 in
set_option maxRecDepth 100000 in
theorem label_OfF (bs : List Int) (a n : Nat) (b : Nat) (w : World) (hb : ∀ x ∈ bs, IsByte x) (hl : bs.length = 64) (hc : Cells w b 0 (u8s bs)) (h1 : 1 ≤ n) (h6 : n ≤ 6) (han : a + n ≤ 64) :
    Calls Try.prog 140 #[.int .i64 a, .int .i64 n, .pointer (some ⟨b, 0, none⟩)] w fun e w' => e = .returned (.int .i64 (getB bs a n)) ∧ w = w' := by
  have HC := Lib.hid hc; clear hc
  have HL := Lib.hid hl; clear hl
  have HB := Lib.hid hb; clear hb
  have hsl := fun w => run_sliceAt_from (P := Try.prog) w 34 5 64 (by kernel_rfl) (by kernel_rfl) b 0 a (by omega)
  simp only [Nat.zero_add] at hsl
  go_enter Try.func140, Try.ntmps140
  go_wp2_with (go_at_call 141; refine (pack_Get b a (64 - a) (64 - a) (bs.drop a) n _ (fun x hx => HB.out x (List.mem_of_mem_drop hx)) (by rw [u8s_drop]; simpa using HC.out.drop a) (by rw [List.length_drop, HL.out]) (Nat.le_refl _) (by omega) (by omega) (by omega) (by omega)).mono ?_; rintro e w' ⟨rfl, rfl⟩)
  go_ret
  exact ⟨rfl, rfl⟩

theorem label_OfI (bs : List Int) (a n : Int) (b : Nat) (w : World) (hb : ∀ x ∈ bs, IsByte x) (hl : bs.length = 64) (hc : Cells w b 0 (u8s bs)) (h0 : 0 ≤ a) (h1 : 1 ≤ n) (h6 : n ≤ 6) (han : a + n ≤ 64) :
    Calls Try.prog 140 #[.int .i64 a, .int .i64 n, .pointer (some ⟨b, 0, none⟩)] w fun e w' => e = .returned (.int .i64 (getB bs a.toNat n.toNat)) ∧ w = w' := by
  obtain ⟨A, rfl⟩ := Int.eq_ofNat_of_zero_le h0
  obtain ⟨N, rfl⟩ := Int.eq_ofNat_of_zero_le (show 0 ≤ n by omega)
  exact label_OfF bs A N b w hb hl hc (by omega) (by omega) (by omega)

def memAt (bs : List Int) (i : Nat) : Mem := ⟨getB bs (14 + 4 * i) 1, getB bs (15 + 4 * i) 2, getB bs (17 + 4 * i) 1⟩
def parseMs (bs : List Int) (n : Nat) : List Mem := (List.range n).map (memAt bs)
def parse (bs : List Int) : Lab := ⟨getB bs 2 4, getB bs 6 4, getB bs 10 1, getB bs 11 2, parseMs bs (bs.getD 13 0).toNat⟩
def ofHead (bs : List Int) : Bool := (bs.take 2 == [66, 87]) && decide (bs.getD 13 0 ≤ 12)
def ofOk (bs : List Int) : Bool := ofHead bs && (rightB (parse bs) && ((parse bs).sec == bs))
def Lab.zero : Lab := ⟨0, 0, 0, 0, []⟩
/-- What Of tells. -/
def OfRes (bs : List Int) (w : World) (e : Ending) (w' : World) : Prop :=
  Kept w w' ∧ ((ofOk bs = true ∧ ∃ sl, e = .returned (.tuple #[(parse bs).val sl, .int .i64 0]) ∧ MSl w' sl (parse bs).ms) ∨ (ofOk bs = false ∧ e = .returned (.tuple #[Lab.zero.val (.slice none 0 0), .int .i64 2])))
/-- the same, and the label's members lie in a block that is new -/
def OfOwn (bs : List Int) (w : World) (e : Ending) (w' : World) : Prop :=
  Kept w w' ∧ ((ofOk bs = true ∧ ∃ sl, e = .returned (.tuple #[(parse bs).val sl, .int .i64 0]) ∧ MSl w' sl (parse bs).ms ∧ ∀ b, sl.ownBlock = some b → w.heap.size ≤ b) ∨ (ofOk bs = false ∧ e = .returned (.tuple #[Lab.zero.val (.slice none 0 0), .int .i64 2])))
theorem OfOwn.res {bs : List Int} {w : World} {e : Ending} {w' : World} (h : OfOwn bs w e w') : OfRes bs w e w' := ⟨h.1, h.2.imp (fun ⟨h1, sl, h2, h3, _⟩ => ⟨h1, sl, h2, h3⟩) id⟩
theorem parseMs_next (bs : List Int) (k : Nat) : parseMs bs (k + 1) = parseMs bs k ++ [memAt bs k] := by simp [parseMs, List.range_succ]
theorem parseMs_length (bs : List Int) (n : Nat) : (parseMs bs n).length = n := by simp [parseMs]
/-- a label's variable read back -/
theorem results_lab {fn : Func} {p q : Tmp} (h : fn.results = #[.cell p 80, .tmp q]) (tmps : Array Value) (w : World) (b : Nat) (l : Lab) (sl : Value)
    (hp : tmps.getD p undef = .pointer (some ⟨b, 0, none⟩)) (hc : Cells w b 0 [.int .i64 l.array, .int .i64 l.gen, .int .i64 l.member, .int .i64 l.blocks, sl]) :
    (results fn tmps).run Try.prog w = .ok (.tuple #[l.val sl, tmps.getD q undef]) w := by
  have hp' : tmps[p]?.getD undef = .pointer (some ⟨b, 0, none⟩) := by simpa using hp
  have hd : ∃ d, Try.prog.underlying 80 = some d ∧ d.isRow = true := ⟨_, Try.underlying80, rfl⟩
  obtain ⟨d, hd1, hd2⟩ := hd
  have hr := run_loadVar_mid (P := Try.prog) w b 0 80 _ d (rangeAt_of_cells hc) hd1 hd2 (by kernel_rfl)
  simp [results, h, hp', asAddr, hr, Lab.val]

theorem conv2 (W : World) (b c : Nat) (x0 x1 : Int) (h0 : W.cell? ⟨b, 0, none⟩ = some (.int .u8 x0)) (h1 : W.cell? ⟨b, 1, none⟩ = some (.int .u8 x1)) :
    (convert 158 9 (.slice (some ⟨b, 0, none⟩) 2 c)).run Try.prog W = .ok (.string ⟨#[UInt8.ofNat x0.toNat, UInt8.ofNat x1.toNat]⟩) W := by
  rw [run_convert_bytes_string (P := Try.prog) W 158 9 5 (some ⟨b, 0, none⟩) 2 c Try.underlying158 Try.underlying5 Try.underlying9]
  rw [run_bytesToString W ⟨b, 0, none⟩ 2 c [x0, x1]]
  · rfl
  · refine run_loadCells_list (P := Try.prog) W ⟨b, 0, none⟩ [.int .u8 x0, .int .u8 x1] fun j v hv => ?_
    match j, hv with
    | 0, hv => simp at hv; subst hv; exact h0
    | 1, hv => simp at hv; subst hv; exact h1
    | _ + 2, hv => simp at hv

theorem byte_getD {bs : List Int} (hb : ∀ x ∈ bs, IsByte x) (k : Nat) (hk : k < bs.length) : ∃ x, bs.getD k 0 = x ∧ 0 ≤ x ∧ x ≤ 255 ∧ (u8s bs)[k]? = some (.int .u8 x) := by
  have h := hb (bs[k]'hk) (List.getElem_mem hk)
  have e : bs.getD k 0 = bs[k]'hk := by rw [List.getD_eq_getElem?_getD, List.getElem?_eq_getElem hk]; rfl
  exact ⟨_, rfl, by rw [e]; exact h.1, by rw [e]; exact h.2, getD_u8s bs k hk⟩
theorem take2 (bs : List Int) (h : 2 ≤ bs.length) : bs.take 2 = [bs.getD 0 0, bs.getD 1 0] := by
  match bs, h with
  | a :: b :: l, _ => simp
theorem ofNat_byte {x : Int} (h0 : 0 ≤ x) (h1 : x ≤ 255) (k : Nat) (hk : k ≤ 255) : UInt8.ofNat x.toNat = UInt8.ofNat k ↔ x = k := by
  rw [← UInt8.toNat_inj, UInt8.toNat_ofNat', UInt8.toNat_ofNat']
  omega

set_option maxHeartbeats 1000000 in
set_option maxRecDepth 100000 in
theorem label_Of_no (bs : List Int) (w : World) (hb : ∀ x ∈ bs, IsByte x) (hl : bs.length = 64) (hh : ofHead bs = false) :
    Calls Try.prog 113 #[secV bs] w (OfOwn bs w) := by
  have hB : ∀ o, Kept w (w.alloc o) := fun o => (Kept.refl _).alloc o
  have hno : ofOk bs = false := by simp [ofOk, hh]
  have HNO := Lib.hid hno; clear hno
  simp only [secV]
  obtain ⟨x13, e13, b13a, b13b, h13⟩ := byte_getD hb 13 (by omega)
  obtain ⟨x0, e0, b0a, b0b, h0⟩ := byte_getD hb 0 (by omega)
  obtain ⟨x1, e1, b1a, b1b, h1⟩ := byte_getD hb 1 (by omega)
  have hhd : (x0 == 66 && x1 == 87 && decide (x13 ≤ 12)) = false := by
    rw [← hh, ofHead, take2 bs (by omega), e13, e0, e1]; simp [Bool.beq_eq_decide_eq]
  have hcv := fun W => conv2 W w.heap.size 64 x0 x1
  have hkB : ∀ o1 o2, Kept w ((w.alloc o1).alloc o2) := fun o1 o2 => ((Kept.refl _).alloc o1).alloc o2
  clear hb hl hh e13 e0 e1
  by_cases hx : x0 = 66 ∧ x1 = 87
  · obtain ⟨rfl, rfl⟩ := hx
    have h12 : 12 < x13 := by simpa using hhd
    clear hhd
    go_enter Try.func113, Try.ntmps113
    go_wp2_with (fail)
    refine bodyPost_ret (results_lab rfl _ _ (w.heap.size + 1) Lab.zero (.slice none 0 0) rfl ?_) rfl ?_
    · exact Cells.new (by simp) rfl
    · exact ⟨hkB _ _, .inr ⟨HNO.out, rfl⟩⟩
  · have hneg : ¬ (UInt8.ofNat x0.toNat = 66 ∧ UInt8.ofNat x1.toNat = 87) := by
      have e0 := ofNat_byte b0a b0b 66 (by decide)
      have e1 := ofNat_byte b1a b1b 87 (by decide)
      intro h; exact hx ⟨e0.1 h.1, e1.1 h.2⟩
    have hneg : (!UInt8.ofNat x0.toNat == 66 || !UInt8.ofNat x1.toNat == 87) = true := by
      rw [Bool.or_eq_true]; simp only [Bool.not_eq_true', beq_eq_false_iff_ne]
      by_cases h : UInt8.ofNat x0.toNat = 66
      · exact .inr fun h' => hneg ⟨h, h'⟩
      · exact .inl h
    clear hhd hx
    go_enter Try.func113, Try.ntmps113
    go_wp2_with (fail)
    refine bodyPost_ret (results_lab rfl _ _ (w.heap.size + 1) Lab.zero (.slice none 0 0) rfl ?_) rfl ?_
    · exact Cells.new (by simp) rfl
    · exact ⟨hkB _ _, .inr ⟨HNO.out, rfl⟩⟩

theorem ty_mems : ElemT Try.prog 78 160 3 24 := by
  obtain ⟨i, h1, h2, h3, h4⟩ := info_parts (P := Try.prog) (e := 160) (z := .agg #[.int .i64 0, .int .i64 0, .int .i64 0]) (size := 3) (bytes := 24) (by kernel_rfl)
  exact ⟨by kernel_rfl, ⟨i, _, h1, h2, h3, h4, by rfl⟩, by decide⟩
def mvals (ms : List Mem) : List Value := ms.flatMap Mem.vals
theorem mvals_length (ms : List Mem) : (mvals ms).length = ms.length * 3 := by
  induction ms with
  | nil => rfl
  | cons m ms ih =>
    have e : mvals (m :: ms) = m.vals ++ mvals ms := rfl
    have e2 : m.vals.length = 3 := rfl
    rw [e, List.length_append, ih, e2, List.length_cons]; omega
theorem mvals_append (a b : List Mem) : mvals (a ++ b) = mvals a ++ mvals b := by simp [mvals]
theorem mvals_one (ms : List Mem) : ∀ u ∈ mvals ms, u.oneCell' = true := by
  intro u hu
  simp only [mvals, List.mem_flatMap, Mem.vals] at hu
  obtain ⟨m, _, h⟩ := hu
  simp at h
  rcases h with rfl | rfl | rfl <;> rfl
theorem MRow.of_cells {w : World} {b off : Nat} {ms : List Mem} (h : Cells w b off (mvals ms)) : MRow w b off ms := fun i hi =>
  ⟨h.flat 3 (fun _ _ => rfl) i 0 hi _ rfl, h.flat 3 (fun _ _ => rfl) i 1 hi _ rfl, h.flat 3 (fun _ _ => rfl) i 2 hi _ rfl⟩
theorem MSl.of_owns {w : World} {base e : Nat} {v : Value} {ms : List Mem} (h : w.ownsRow base e 3 v ms.length (mvals ms)) : MSl w v ms := by
  rcases owns_form h with ⟨rfl, h0, _⟩ | ⟨g, cap, rfl, _, _, _, hc⟩
  · exact .inl ⟨List.eq_nil_of_length_eq_zero h0, rfl⟩
  · exact .inr ⟨g, 0, cap, rfl, MRow.of_cells hc⟩

theorem ownsRow_wrote {w w1 : World} {g : Nat} {cs : List Value} {t : TypeId} (h : Wrote w w1 g cs t) {base e size n : Nat} {v : Value} {xs : List Value} (ho : w.ownsRow base e size v n xs) (hg : g < base) : w1.ownsRow base e size v n xs := by
  refine ⟨ho.1, ?_⟩
  rcases ho.2 with h2 | ⟨g', cap, cur, hv, hb, hh, r⟩
  · exact .inl h2
  · exact .inr ⟨g', cap, cur, hv, hb, by rw [h.oth g' (by omega)]; exact hh, r⟩

theorem ownsRow_wrote_up {w w1 : World} {g : Nat} {cs : List Value} {t : TypeId} (h : Wrote w w1 g cs t) {base e size n : Nat} {v : Value} {xs : List Value} (ho : w.ownsRow base e size v n xs)
    (hg : ∀ g' cap, v = .slice (some ⟨g', 0, none⟩) n cap → g' ≠ g) : w1.ownsRow base e size v n xs := by
  refine ⟨ho.1, ?_⟩
  rcases ho.2 with h2 | ⟨g', cap, cur, hv, hb, hh, r⟩
  · exact .inl h2
  · exact .inr ⟨g', cap, cur, hv, hb, by rw [h.oth g' (hg g' cap hv)]; exact hh, r⟩

theorem ty_lab : AggT Try.prog 80 5 := ⟨⟨_, Try.underlying80, rfl⟩, by kernel_rfl⟩
theorem lab_one (l : Lab) (sl : Value) (h : sl.oneCell' = true) : ∀ v ∈ [Value.int .i64 l.array, .int .i64 l.gen, .int .i64 l.member, .int .i64 l.blocks, sl], v.oneCell' = true := by
  intro v hv
  simp only [List.mem_cons, List.not_mem_nil, or_false] at hv
  rcases hv with rfl | rfl | rfl | rfl | rfl <;> first | rfl | exact h
theorem MSl.one {w : World} {v : Value} {ms : List Mem} (h : MSl w v ms) : v.oneCell' = true := by
  rcases h with ⟨_, rfl⟩ | ⟨b, off, cap, rfl, _⟩ <;> rfl

attribute [local go_sem ↓] Go.wp_at_zero Go.wp_at_succ
set_option maxHeartbeats 2000000 in
set_option maxRecDepth 100000 in
theorem label_Of_head (bs : List Int) (w : World) (hb : ∀ x ∈ bs, IsByte x) (hl : bs.length = 64) (hh : ofHead bs = true) :
    Calls Try.prog 113 #[secV bs] w (OfOwn bs w) := by
  simp only [secV]
  obtain ⟨x13, e13, b13a, b13b, h13⟩ := byte_getD hb 13 (by omega)
  obtain ⟨x0, e0, b0a, b0b, h0⟩ := byte_getD hb 0 (by omega)
  obtain ⟨x1, e1, b1a, b1b, h1⟩ := byte_getD hb 1 (by omega)
  have hhd : (x0 == 66 && x1 == 87 && decide (x13 ≤ 12)) = true := by
    rw [← hh, ofHead, take2 bs (by omega), e13, e0, e1]; simp [Bool.beq_eq_decide_eq]
  simp only [Bool.and_eq_true, beq_iff_eq, decide_eq_true_eq] at hhd
  obtain ⟨⟨rfl, rfl⟩, hn⟩ := hhd
  have hcv := fun W => conv2 W w.heap.size 64 66 87
  have HB := Lib.hid hb; clear hb
  have HL := Lib.hid hl; clear hl
  have E13 := Lib.hid e13; clear e13
  have HH := Lib.hid hh; clear hh
  clear e0 e1
  obtain ⟨n, rfl⟩ := Int.eq_ofNat_of_zero_le b13a
  go_enter Try.func113, Try.ntmps113
  go_wp2_with (go_at_call 140; refine (label_OfI bs _ _ w.heap.size _ HB.out HL.out (Cells.kept (Cells.new rfl rfl) ((Kept.refl _).alloc _)) (by omega) (by omega) (by omega) (by omega)).mono ?_; rintro e w' ⟨rfl, rfl⟩)
  go_loopw [7] (fun a wr => ∃ k : Nat, ∃ sl, k ≤ n ∧ a = .int .i64 (14 + 4 * (k : Int)) ∧ Kept w wr ∧ w.heap.size + 3 ≤ wr.heap.size ∧
    wr.heap[w.heap.size]? = some (.cells (u8s bs).toArray 34 (0, 0)) ∧
    wr.heap[w.heap.size + 1]? = some (.cells #[.int .i64 0, .int .i64 0, .int .i64 0, .int .i64 0, .slice none 0 0] 80 (0, 0)) ∧
    wr.heap[w.heap.size + 1 + 1]? = some (.cells #[.int .i64 (getB bs 2 4), .int .i64 (getB bs 6 4), .int .i64 (getB bs 10 1), .int .i64 (getB bs 11 2), sl] 80 (0, 0)) ∧
    wr.ownsRow (w.heap.size + 3) 160 3 sl k (mvals (parseMs bs k))) (fun a _ => (100 - intOf a).toNat)
  case atStart =>
    refine ⟨0, .slice none 0 0, by omega, by simp, (((Kept.refl _).alloc _).alloc _).alloc _, by simp, ?_, ?_, ?_, World.ownsRow_nil _ _ _ _⟩
    · exact (((Kept.refl (w.alloc _)).alloc _).alloc _).block (heap_alloc_new w _)
    · have := ((Kept.refl ((w.alloc (Obj.cells (u8s bs).toArray 34)).alloc _)).alloc (Obj.cells #[.int .i64 (getB bs 2 4), .int .i64 (getB bs 6 4), .int .i64 (getB bs 10 1), .int .i64 (getB bs 11 2), .slice none 0 0] 80)).block (heap_alloc_new (w.alloc (Obj.cells (u8s bs).toArray 34)) (Obj.cells #[.int .i64 0, .int .i64 0, .int .i64 0, .int .i64 0, .slice none 0 0] 80))
      rw [World.size_alloc] at this
      exact this
    · have := heap_alloc_new ((w.alloc (Obj.cells (u8s bs).toArray 34)).alloc (Obj.cells #[.int .i64 0, .int .i64 0, .int .i64 0, .int .i64 0, .slice none 0 0] 80)) (Obj.cells #[.int .i64 (getB bs 2 4), .int .i64 (getB bs 6 4), .int .i64 (getB bs 10 1), .int .i64 (getB bs 11 2), .slice none 0 0] 80)
      rw [World.size_alloc, World.size_alloc] at this
      exact this
  case round =>
    obtain ⟨k, sl, hk, rfl, hkw, hsz, hzs, hz0, hz1, hown⟩ := hrel
    have hcs : Cells wr w.heap.size 0 (u8s bs) := by simpa using Cells.of_block hzs
    have HCS := Lib.hid hcs; clear hcs
    have HZS := Lib.hid hzs; clear hzs
    have HZ0 := Lib.hid hz0; clear hz0
    have HZ1 := Lib.hid hz1; clear hz1
    have HO := Lib.hid hown; clear hown
    have hs1 : w.heap.size + 1 + 1 < wr.heap.size := by omega
    have c4 : wr.cell? ⟨w.heap.size + 1 + 1, 4, none⟩ = some sl := by rw [cell_of_row _ _ _ _ _ _ HZ1.out]; rfl
    by_cases hlt : k < n
    · have w1 : IntKind.i64.wrap (14 + 4 * (k : Int) + 1) = 14 + 4 * (k : Int) + 1 := IntWalk.i64_in _ (by omega)
      have w3 : IntKind.i64.wrap (14 + 4 * (k : Int) + 3) = 14 + 4 * (k : Int) + 3 := IntWalk.i64_in _ (by omega)
      have hA := fun o => ownsRow_kept HO.out (((Kept.refl wr).alloc o).drew)
      have HA := Lib.hid hA; clear hA
      have hS := fun (a b c : Int) (t : Nat) => Src.of_cells (n := 1) (c := 1) (size := 3) (Cells.kept (Cells.new (w := wr) (c := #[.int .i64 a, .int .i64 b, .int .i64 c]) (t := t) (fr := (0, 0)) rfl rfl) ((Kept.refl _).drew)) rfl (Nat.le_refl _)
      have HSr := Lib.hid hS; clear hS
      have hZ : ∀ o w', Below (w.heap.size + 3) ((wr.alloc o).drew) w' → w'.heap[w.heap.size + 1 + 1]? = some (.cells #[.int .i64 (getB bs 2 4), .int .i64 (getB bs 6 4), .int .i64 (getB bs 10 1), .int .i64 (getB bs 11 2), sl] 80 (0, 0)) := by
        intro o w' h
        rw [h.block _ (by omega)]
        exact (((Kept.refl wr).alloc o).drew).block HZ1.out
      have hZ4 : ∀ o w', Below (w.heap.size + 3) ((wr.alloc o).drew) w' → w'.cell? ⟨w.heap.size + 1 + 1, 4, none⟩ = some sl ∧ w'.frozen? ⟨w.heap.size + 1 + 1, 4, none⟩ = false := fun o w' h =>
        ⟨(cell_of_row _ _ _ _ _ _ (hZ o w' h)).trans rfl, frozen_of_row _ _ _ _ _ (hZ o w' h)⟩
      have HZ := Lib.hid hZ; clear hZ
      have HZ4 := Lib.hid hZ4; clear hZ4
      have HW : Hid (w.heap.size + 3 ≤ wr.heap.size) := hsz
      go_wp2
      clear hcv h13 h0 h1
      have hS : wr.drew.cell? ⟨w.heap.size + 1 + 1, 4, none⟩ = some sl := by simpa using c4
      have hS1 : ∀ o, (wr.alloc o).drew.cell? ⟨w.heap.size + 1 + 1, 4, none⟩ = some sl := fun o => (((Kept.refl wr).alloc o).drew).cell' c4
      refine wp_region_calm ?_
      refine wp_region_E (fun w' => w'.cell? ⟨w.heap.size + 1 + 1, 4, none⟩ = some sl) 17 (by kernel_rfl) ?_
      refine wpAnyE_take (i := 0) (v := ?_) (listed' := #[true, false, false, false, false, false, false, false, false, false, false, false, false, false, false, false, false, false]) (by rfl) (by kernel_rfl) (by kernel_rfl) calm_put hS (by rfl) ?_ ?_
      rotate_left
      · intro W hW; clear hW; go_simp; try (with_reducible rfl)
      simp only [Act.put, List.setIfInBounds_toArray, List.set_cons_zero, List.set_cons_succ]
      refine wpAnyE_take (i := 1) (v := ?_) (listed' := #[true, true, false, false, false, false, false, false, false, false, false, false, false, false, false, false, false, false]) (by rfl) (by kernel_rfl) (by kernel_rfl) calm_put hS (by rfl) ?_ ?_
      rotate_left
      · intro W hW; have hW' : W.cell? ⟨w.heap.size + 1 + 1, 4, none⟩ = some sl := hW; clear hW; go_simp; try (with_reducible rfl)
      simp only [Act.put, List.setIfInBounds_toArray, List.set_cons_zero, List.set_cons_succ]
      refine wpAnyE_take (i := 2) (v := ?_) (listed' := #[true, true, true, false, false, false, false, false, false, false, false, false, false, false, false, false, false, false]) (by rfl) (by kernel_rfl) (by kernel_rfl) calm_put hS (by rfl) ?_ ?_
      rotate_left
      · intro W hW; clear hW; go_simp; try (with_reducible rfl)
      simp only [Act.put, List.setIfInBounds_toArray, List.set_cons_zero, List.set_cons_succ]
      refine wpAnyE_take (i := 3) (v := ?_) (listed' := #[true, true, true, true, false, false, false, false, false, false, false, false, false, false, false, false, false, false]) (by rfl) (by kernel_rfl) (by kernel_rfl) calm_put hS (by rfl) ?_ ?_
      rotate_left
      · intro W hW; clear hW; go_simp; try (with_reducible rfl)
      simp only [Act.put, List.setIfInBounds_toArray, List.set_cons_zero, List.set_cons_succ]
      refine wpAnyE_take (i := 5) (v := ?_) (listed' := #[true, true, true, true, false, true, false, false, false, false, false, false, false, false, false, false, false, false]) (by rfl) (by kernel_rfl) (by kernel_rfl) calm_put hS (by rfl) ?_ ?_
      rotate_left
      · intro W hW; clear hW; go_simp; try (with_reducible rfl)
      simp only [Act.put, List.setIfInBounds_toArray, List.set_cons_zero, List.set_cons_succ]
      refine wpAnyE_take (i := 6) (v := ?_) (listed' := #[true, true, true, true, false, true, true, false, false, false, false, false, false, false, false, false, false, false]) (by rfl) (by kernel_rfl) (by kernel_rfl) calm_put hS (by rfl) ?_ ?_
      rotate_left
      · intro W hW; clear hW; go_simp; try (with_reducible rfl)
      simp only [Act.put, List.setIfInBounds_toArray, List.set_cons_zero, List.set_cons_succ]
      refine wpAnyE_take (i := 7) (v := ?_) (listed' := #[true, true, true, true, false, true, true, true, false, false, false, false, false, false, false, false, false, false]) (by rfl) (by kernel_rfl) (by kernel_rfl) calm_put hS (by rfl) ?_ ?_
      rotate_left
      · intro W hW; clear hW; go_simp; try (with_reducible rfl)
      simp only [Act.put, List.setIfInBounds_toArray, List.set_cons_zero, List.set_cons_succ]
      refine wpAnyE_take (i := 9) (v := ?_) (listed' := #[true, true, true, true, false, true, true, true, false, true, false, false, false, false, false, false, false, false]) (by rfl) (by kernel_rfl) (by kernel_rfl) calm_put hS (by rfl) ?_ ?_
      rotate_left
      · intro W hW; clear hW; go_simp; try (with_reducible rfl)
      simp only [Act.put, List.setIfInBounds_toArray, List.set_cons_zero, List.set_cons_succ]
      refine wpAnyE_take (i := 10) (v := ?_) (listed' := #[true, true, true, true, false, true, true, true, false, true, true, false, false, false, false, false, false, false]) (by rfl) (by kernel_rfl) (by kernel_rfl) calm_put hS (by rfl) ?_ ?_
      rotate_left
      · intro W hW; clear hW; go_simp; try (with_reducible rfl)
      simp only [Act.put, List.setIfInBounds_toArray, List.set_cons_zero, List.set_cons_succ]
      refine wpAnyE_take (i := 11) (v := ?_) (listed' := #[true, true, true, true, false, true, true, true, false, true, true, true, false, false, false, false, false, false]) (by rfl) (by kernel_rfl) (by kernel_rfl) calm_put hS (by rfl) ?_ ?_
      rotate_left
      · intro W hW; clear hW; go_simp; try (with_reducible rfl)
      simp only [Act.put, List.setIfInBounds_toArray, List.set_cons_zero, List.set_cons_succ]
      refine wpAnyE_one (i := 4) (listed' := #[true, true, true, true, true, true, true, true, false, true, true, true, false, false, false, false, false, false]) (by rfl) (by kernel_rfl) (by kernel_rfl) (by rfl) (fun K hK => ?_)
      go_wp2_with (go_at_call 140; refine (label_OfI bs _ _ w.heap.size _ HB.out HL.out (HCS.out.kept (Kept.refl _).drew) (by omega) (by omega) (by omega) (by omega)).mono ?_; rintro e w' ⟨rfl, rfl⟩)
      refine hK _ _ (fun _ => hS) ?_; clear hK K
      refine wpAnyE_one (i := 8) (listed' := #[true, true, true, true, true, true, true, true, true, true, true, true, false, false, false, false, false, false]) (by rfl) (by kernel_rfl) (by kernel_rfl) (by rfl) (fun K hK => ?_)
      go_wp2_with (go_at_call 140; refine (label_OfI bs _ _ w.heap.size _ HB.out HL.out (HCS.out.kept (Kept.refl _).drew) (by omega) (by omega) (by omega) (by omega)).mono ?_; rintro e w' ⟨rfl, rfl⟩)
      refine hK _ _ (fun _ => hS) ?_; clear hK K
      refine wpAnyE_one (i := 12) (listed' := #[true, true, true, true, true, true, true, true, true, true, true, true, true, false, false, false, false, false]) (by rfl) (by kernel_rfl) (by kernel_rfl) (by rfl) (fun K hK => ?_)
      go_wp2_with (go_at_call 140; refine (label_OfI bs _ _ w.heap.size _ HB.out HL.out (HCS.out.kept (Kept.refl _).drew) (by omega) (by omega) (by omega) (by omega)).mono ?_; rintro e w' ⟨rfl, rfl⟩)
      refine hK _ _ (fun _ => hS) ?_; clear hK K
      refine wpAnyE_take (i := 13) (v := ?_) (listed' := #[true, true, true, true, true, true, true, true, true, true, true, true, true, true, false, false, false, false]) (by rfl) (by kernel_rfl) (by kernel_rfl) calm_put hS (by rfl) ?_ ?_
      rotate_left
      · intro W hW; clear hW; go_simp; try (with_reducible rfl)
      simp only [Act.put, List.setIfInBounds_toArray, List.set_cons_zero, List.set_cons_succ]
      refine wpAnyE_one (i := 14) (listed' := #[true, true, true, true, true, true, true, true, true, true, true, true, true, true, true, false, false, false]) (by rfl) (by kernel_rfl) (by kernel_rfl) (by rfl) (fun K hK => ?_)
      go_wp2
      refine hK _ _ (fun _ => hS1 _) ?_; clear hK K
      refine wpAnyE_one (i := 15) (listed' := #[true, true, true, true, true, true, true, true, true, true, true, true, true, true, true, true, false, false]) (by rfl) (by kernel_rfl) (by kernel_rfl) (by rfl) (fun K hK => ?_)
      refine wp_append_app _ _ (by rfl) ty_mems (w.heap.size + 3) sl k (mvals (parseMs bs k)) (by rfl) (.inl (HA.out _)) _ 1 _ (by rfl) (HSr.out _ _ _ _) (by intro u hu; simp at hu; rcases hu with rfl | rfl | rfl <;> rfl) (by simp only [maxLen]; omega) (by omega) (by simp; omega) ?_
      intro v' w' _ _ hbw hown'
      obtain ⟨d4, f4⟩ := HZ4.out _ _ hbw
      have ho1 := hown' (.inl (by omega))
      clear hown'
      obtain ⟨g, cp, rfl, _, _⟩ := ho1.form (by omega)
      have HO' := Lib.hid ho1
      clear ho1
      refine hK _ _ (fun _ => d4) ?_; clear hK K
      refine wpAnyE_take (i := 16) (v := ?_) (listed' := #[true, true, true, true, true, true, true, true, true, true, true, true, true, true, true, true, true, false]) (by rfl) (by kernel_rfl) (by kernel_rfl) calm_put d4 (by rfl) ?_ ?_
      rotate_left
      · intro W hW; clear hW; go_simp; try (with_reducible rfl)
      simp only [Act.put, List.setIfInBounds_toArray, List.set_cons_zero, List.set_cons_succ]
      refine wpAnyE_one (i := 17) (listed' := #[true, true, true, true, true, true, true, true, true, true, true, true, true, true, true, true, true, true]) (by rfl) (by kernel_rfl) (by kernel_rfl) (by rfl) (fun K hK => ?_)
      go_wp2
      refine hK _ _ (fun h => absurd rfl h) ?_; clear hK K
      refine wpAnyE_done (by kernel_rfl) ?_ _
      refine calm_normal ?_
      go_wp2
      go_roundw
      case measure => simp [intOf]; omega
      have z : Kept w w' := ((hkw.trans ((Kept.refl wr).alloc _)).drew).below (by omega) hbw
      have hzw := HZ.out _ _ hbw
      have k3 : ∀ j, j < w.heap.size + 3 → w'.heap[j]? = wr.heap[j]? := fun j hj => by
        rw [hbw.block j hj]
        exact (((Kept.refl wr).alloc _).drew).block_eq (by omega)
      have hkl : w.heap.size + 3 ≤ w'.heap.size := by omega
      refine ⟨k + 1, _, by omega, by go_num, z.setCell (by simp; omega) _, by simpa using hkl, ?_, ?_, heap_setCell_same w' _ 4 _ _ _ hzw, ?_⟩
      · rw [heap_setCell_other _ _ _ _ (by simp; omega), k3 _ (by omega)]; exact HZS.out
      · rw [heap_setCell_other _ _ _ _ (by simp), k3 _ (by omega)]; exact HZ0.out
      · refine ownsRow_setCell_below ?_ (by simp) _
        rw [parseMs_next, mvals_append]
        have e : mvals [memAt bs k] = [.int .i64 (getB bs (14 + 4 * k) 1), .int .i64 (getB bs (14 + 4 * k + 1) 2), .int .i64 (getB bs (14 + 4 * k + 3) 1)] := by
          simp only [mvals, memAt, Mem.vals, List.flatMap_cons, List.flatMap_nil, List.append_nil]
          rw [show 15 + 4 * k = 14 + 4 * k + 1 from by omega, show 17 + 4 * k = 14 + 4 * k + 3 from by omega]
        rw [e]
        exact HO'.out
    · have hkn : k = n := by omega
      have hP : parse bs = ⟨getB bs 2 4, getB bs 6 4, getB bs 10 1, getB bs 11 2, parseMs bs k⟩ := by
        rw [parse, E13.out, hkn]; simp
      have hms : MSl wr sl (parseMs bs k) := MSl.of_owns (by rw [parseMs_length]; exact HO.out)
      have HP := Lib.hid hP; clear hP
      have HMS := Lib.hid hms; clear hms
      have hs2 : w.heap.size < wr.heap.size := by omega
      have hs3 : w.heap.size + 1 < wr.heap.size := by omega
      have hv : (Lab.mk (getB bs 2 4) (getB bs 6 4) (getB bs 10 1) (getB bs 11 2) (parseMs bs k)).val sl = .agg #[.int .i64 (getB bs 2 4), .int .i64 (getB bs 6 4), .int .i64 (getB bs 10 1), .int .i64 (getB bs 11 2), sl] := rfl
      have c0 : wr.cell? ⟨w.heap.size + 1 + 1, 0, none⟩ = some (.int .i64 (getB bs 2 4)) := by rw [cell_of_row _ _ _ _ _ _ HZ1.out]; rfl
      have c1 : wr.cell? ⟨w.heap.size + 1 + 1, 1, none⟩ = some (.int .i64 (getB bs 6 4)) := by rw [cell_of_row _ _ _ _ _ _ HZ1.out]; rfl
      have c2 : wr.cell? ⟨w.heap.size + 1 + 1, 2, none⟩ = some (.int .i64 (getB bs 10 1)) := by rw [cell_of_row _ _ _ _ _ _ HZ1.out]; rfl
      have c3 : wr.cell? ⟨w.heap.size + 1 + 1, 3, none⟩ = some (.int .i64 (getB bs 11 2)) := by rw [cell_of_row _ _ _ _ _ _ HZ1.out]; rfl
      have hl5 : ∀ l : List Value, l.length = 5 → 0 + 5 ≤ l.length := fun l h => by omega
      have heqg := eqg_sec
      have arms : True := trivial
      by_cases hr : rightB (parse bs) = true
      · have hput := label_Put_ok (parse bs) sl wr (by rw [HP.out]; exact HMS.out) hr
        have hsl := Lab.sec_length (parse bs) (by rw [HP.out]; simp [parseMs_length]; omega)
        rw [HP.out, hv, ← HP.out] at hput
        simp only [secV] at hput
        have HPut := Lib.hid hput; clear hput
        have hok : ofOk bs = ((parse bs).sec == bs) := by simp [ofOk, HH.out, hr]
        have HOk := Lib.hid hok; clear hok
        have HONE := Lib.hid (lab_one ⟨getB bs 2 4, getB bs 6 4, getB bs 10 1, getB bs 11 2, parseMs bs k⟩ sl HMS.out.one)
        clear hr hv hcv h13 h0 h1 hkn
        generalize (parse bs).sec = sec at *
        have hq := run_equal_secA sec bs hsl HL.out
        have HSL := Lib.hid hsl; clear hsl
        by_cases hse : (sec == bs) = true
        · go_wp2_with (first | (go_at_call 111; refine HPut.out.mono ?_; rintro e w2 ⟨rfl, hk2⟩; have q2 := hk2.q; have hs4 := hk2.size; have hs5 : w.heap.size + 1 + 1 < w2.heap.size := (by omega)) | (refine wpList_alloc_abs rfl 34 rfl (u8s zeroB) zero_sec ?_; intro w3 hz3 hs3' hn3 hk3; have q3 := hk3.q) | (refine wpList_store_agg rfl _ _ rfl ty_sec w2.heap.size 0 rfl (u8s sec) rfl (by rw [u8s_length, HSL.out]) (u8s_one _) (u8s zeroB) 34 hz3.out (by simp [u8s_length, zeroB_length]) ?_; intro w4 hw4; have hz4 := (hw4.oth (w.heap.size + 1) (by omega)).trans (hk3.block (hk2.block HZ0.out)); have hz5 := (hw4.oth (w.heap.size + 1 + 1) (by omega)).trans (hk3.block (hk2.block HZ1.out)); have hz6 := (hw4.oth w.heap.size (by omega)).trans (hk3.block (hk2.block HZS.out)); have hw5 := hw4.all (by rw [u8s_length, u8s_length, HSL.out, zeroB_length]); have HZ4 := Lib.hid hz4; have HZ5 := Lib.hid hz5; have HZ6 := Lib.hid hz6; clear hz4 hz5 hz6) | (refine wpList_load_aggW _ rfl ty_sec w2.heap.size 0 rfl (u8s sec) hw5.cells (by rw [u8s_length, HSL.out]) (by first | rfl | go_simp) ?_) | (refine wpList_load_aggW _ rfl ty_sec w.heap.size 0 rfl (u8s bs) (by simpa using Cells.of_block HZ6.out) (by rw [u8s_length, HL.out]) (by first | rfl | go_simp) ?_) | (refine wpList_load_agg rfl _ rfl ty_lab (w.heap.size + 1 + 1) 0 rfl [.int .i64 (getB bs 2 4), .int .i64 (getB bs 6 4), .int .i64 (getB bs 10 1), .int .i64 (getB bs 11 2), sl] (by simpa using Cells.of_block HZ5.out) rfl ?_) | (refine wpList_store_agg rfl _ _ rfl ty_lab (w.heap.size + 1) 0 rfl [.int .i64 (getB bs 2 4), .int .i64 (getB bs 6 4), .int .i64 (getB bs 10 1), .int .i64 (getB bs 11 2), sl] rfl rfl HONE.out [.int .i64 0, .int .i64 0, .int .i64 0, .int .i64 0, .slice none 0 0] 80 HZ4.out (by decide) ?_; intro w6 hw6))
          replace hw6 := hw6.all rfl
          have hkf : Kept w w6 := hw6.kept (hw4.kept ((hkw.trans hk2).trans hk3) (by omega)) (by omega)
          refine bodyPost_ret (results_lab rfl _ _ (w.heap.size + 1) ⟨getB bs 2 4, getB bs 6 4, getB bs 10 1, getB bs 11 2, parseMs bs k⟩ sl rfl hw6.cells) rfl ?_
          refine ⟨hkf, .inl ⟨by rw [HOk.out]; exact hse, sl, by rw [HP.out]; rfl, ?_⟩⟩
          have HLT : Hid (∀ g' cap, sl = .slice (some ⟨g', 0, none⟩) k cap → ∀ w2 : World, wr.heap.size ≤ w2.heap.size → g' ≠ w2.heap.size) := Lib.hid (fun g' cap e w2 h => by
            rcases owns_form HO.out with ⟨rfl, _⟩ | ⟨g, cp, rfl, _, hg, _⟩
            · cases e
            · cases e; omega)
          have ho2 := ownsRow_kept (ownsRow_kept HO.out hk2) hk3
          have ho3 := ownsRow_wrote hw6 (ownsRow_wrote_up hw4 ho2 (fun g' cap e => HLT.out g' cap e w2 hs4)) (by omega)
          rw [HP.out]
          refine ⟨MSl.of_owns (by rw [parseMs_length]; exact ho3), fun b hb => ?_⟩
          rcases owns_form ho3 with ⟨rfl, _⟩ | ⟨g, cp, rfl, hge, _⟩
          · simp [Value.ownBlock] at hb
          · simp only [Value.ownBlock, Option.some.injEq] at hb; omega
        · go_wp2_with (first | (go_at_call 111; refine HPut.out.mono ?_; rintro e w2 ⟨rfl, hk2⟩; have q2 := hk2.q; have hs4 := hk2.size; have hs5 : w.heap.size + 1 + 1 < w2.heap.size := (by omega)) | (refine wpList_alloc_abs rfl 34 rfl (u8s zeroB) zero_sec ?_; intro w3 hz3 hs3' hn3 hk3; have q3 := hk3.q) | (refine wpList_store_agg rfl _ _ rfl ty_sec w2.heap.size 0 rfl (u8s sec) rfl (by rw [u8s_length, HSL.out]) (u8s_one _) (u8s zeroB) 34 hz3.out (by simp [u8s_length, zeroB_length]) ?_; intro w4 hw4; have hz4 := (hw4.oth (w.heap.size + 1) (by omega)).trans (hk3.block (hk2.block HZ0.out)); have hz5 := (hw4.oth (w.heap.size + 1 + 1) (by omega)).trans (hk3.block (hk2.block HZ1.out)); have hz6 := (hw4.oth w.heap.size (by omega)).trans (hk3.block (hk2.block HZS.out)); have hw5 := hw4.all (by rw [u8s_length, u8s_length, HSL.out, zeroB_length]); have HZ4 := Lib.hid hz4; have HZ5 := Lib.hid hz5; have HZ6 := Lib.hid hz6; clear hz4 hz5 hz6) | (refine wpList_load_aggW _ rfl ty_sec w2.heap.size 0 rfl (u8s sec) hw5.cells (by rw [u8s_length, HSL.out]) (by first | rfl | go_simp) ?_) | (refine wpList_load_aggW _ rfl ty_sec w.heap.size 0 rfl (u8s bs) (by simpa using Cells.of_block HZ6.out) (by rw [u8s_length, HL.out]) (by first | rfl | go_simp) ?_) | (refine wpList_store_agg rfl _ _ rfl ty_lab (w.heap.size + 1) 0 rfl [.int .i64 0, .int .i64 0, .int .i64 0, .int .i64 0, .slice none 0 0] rfl rfl (lab_one Lab.zero (.slice none 0 0) rfl) [.int .i64 0, .int .i64 0, .int .i64 0, .int .i64 0, .slice none 0 0] 80 HZ4.out (by decide) ?_; intro w6 hw6))
          replace hw6 := hw6.all rfl
          have hkf : Kept w w6 := hw6.kept (hw4.kept ((hkw.trans hk2).trans hk3) (by omega)) (by omega)
          refine bodyPost_ret (results_lab rfl _ _ (w.heap.size + 1) Lab.zero (.slice none 0 0) rfl hw6.cells) rfl ?_
          exact ⟨hkf, .inr ⟨by rw [HOk.out]; simpa using hse, rfl⟩⟩
      · have hr' : rightB (parse bs) = false := by simpa using hr
        have hput := label_Put_no (parse bs) sl wr (by rw [HP.out]; simp [parseMs_length]; omega) (by rw [HP.out]; exact HMS.out) hr'
        rw [HP.out, hv] at hput
        have HPut := Lib.hid hput; clear hput
        have hno : ofOk bs = false := by simp [ofOk, hr']
        have HNO := Lib.hid hno; clear hno
        clear hr hr' hv hcv h13 h0 h1 hkn
        go_wp2_with (first | (go_at_call 111; refine HPut.out.mono ?_; rintro e w2 ⟨rfl, hk2⟩; have q2 := hk2.q; have hs4 := hk2.size) | (refine wpList_alloc_abs rfl 34 rfl (u8s zeroB) zero_sec ?_; intro w3 hz3 hs3' hn3 hk3; have q3 := hk3.q) | (refine wpList_store_agg rfl _ _ rfl ty_sec w2.heap.size 0 rfl (u8s zeroB) rfl (by simp [u8s_length, zeroB_length]) (u8s_one _) (u8s zeroB) 34 hz3.out (by simp [u8s_length, zeroB_length]) ?_; intro w4 hw4; have hz4 := (hw4.oth (w.heap.size + 1) (by omega)).trans (hk3.block (hk2.block HZ0.out))) | (refine wpList_store_agg rfl _ _ rfl ty_lab (w.heap.size + 1) 0 rfl _ rfl rfl (lab_one Lab.zero (.slice none 0 0) rfl) [.int .i64 0, .int .i64 0, .int .i64 0, .int .i64 0, .slice none 0 0] 80 hz4 (by decide) ?_; intro w5 hw5))
        replace hw5 := hw5.all rfl
        have hkf : Kept w w5 := hw5.kept (hw4.kept ((hkw.trans hk2).trans hk3) (by omega)) (by omega)
        refine bodyPost_ret (results_lab rfl _ _ (w.heap.size + 1) Lab.zero (.slice none 0 0) rfl hw5.cells) rfl ?_
        exact ⟨hkf, .inr ⟨HNO.out, rfl⟩⟩

/-- Of, of any sector. -/
theorem label_Of_own (bs : List Int) (w : World) (hb : ∀ x ∈ bs, IsByte x) (hl : bs.length = 64) : Calls Try.prog 113 #[secV bs] w (OfOwn bs w) := by
  cases hh : ofHead bs with
  | true => exact label_Of_head bs w hb hl hh
  | false => exact label_Of_no bs w hb hl hh
theorem label_Of (bs : List Int) (w : World) (hb : ∀ x ∈ bs, IsByte x) (hl : bs.length = 64) : Calls Try.prog 113 #[secV bs] w (OfRes bs w) := (label_Of_own bs w hb hl).mono fun e w' h => h.res

end Go.Proofs.Ytglplhmclfekfaa
/- The law's own helpers: plain, shown, cut. -/
namespace Go.Proofs.Ytglplhmclfekfaa
open Go.RowKit
set_option linter.unusedVariables false
set_option linter.unusedSimpArgs false

section
variable {P : Program} {ops : Array Oper} {rest : List Oper} {o o1 o2 : Oper} {a : Act} {w : World} {Q : Exit → Act → World → Prop}
/-- 'var x T = y': made and set in one. -/
theorem wpList_new_agg (hg1 : o1.guard = none) (hg2 : o2.guard = none) {T n : Nat} (x y : Operand) (ho1 : o1.op = .alloc T) (ho2 : o2.op = .store T x y) (hT : AggT P T n)
    (zs : List Value) (hz : ∀ w, (zeroValue T).run P w = .ok (.agg zs.toArray) w) (hzl : zs.length = n)
    (xs : List Value) (hy : (a.put o1.dst (.pointer (some ⟨w.heap.size, 0, none⟩))).eval y = .agg xs.toArray) (hl : xs.length = n) (h1 : ∀ v ∈ xs, v.oneCell' = true)
    (hx : (a.put o1.dst (.pointer (some ⟨w.heap.size, 0, none⟩))).eval x = .pointer (some ⟨w.heap.size, 0, none⟩))
    (h : ∀ w1, Hid (w1.heap[w.heap.size]? = some (.cells xs.toArray T (0, 0))) → w.heap.size < w1.heap.size → Kept w w1 → wpList P ops Q rest ((a.put o1.dst (.pointer (some ⟨w.heap.size, 0, none⟩))).put o2.dst undef) w1) : wpList P ops Q (o1 :: o2 :: rest) a w := by
  refine wpList_alloc_abs hg1 T ho1 zs hz ?_
  intro w1 hz1 hs1 hn1 hk1
  refine wpList_store_agg hg2 x y ho2 hT w.heap.size 0 hx xs hy hl h1 zs T hz1.out (by omega) ?_
  intro w2 hw2
  replace hw2 := hw2.all (by omega)
  exact h w2 (Lib.hid hw2.blk) (by rw [hw2.size]; exact hs1) (hw2.kept hk1 (Nat.le_refl _))
/-- 'T{}' -/
theorem wpList_build_zero (hgd : o.guard = none) {T : Nat} (ho : o.op = .build T #[]) (v : Value) (hr : ∀ w, (Instr.build T #[]).run P w = .ok v w)
    (h : wpList P ops Q rest (a.put o.dst v) w) : wpList P ops Q (o :: rest) a w := by
  refine wpList_plain hgd fun K hK => ?_
  unfold Oper.wp execOp
  simp only [ho, List.map_toArray, List.map_nil, Sem.run_bind, hr, Result.andThen_ok, Sem.run_pure]
  exact hK _ _ h
/-- One cell is set; the world a letter. -/
theorem wpList_store_one (hgd : o.guard = none) {T : Nat} (x y : Operand) (ho : o.op = .store T x y) (hT : (P.info? T).map (·.size) = some 1)
    (b off : Nat) (hx : a.eval x = .pointer (some ⟨b, off, none⟩)) (v : Value) (hy : a.eval y = v) (hv : v.cells = #[v]) (h1 : v.oneCell' = true)
    (cur : List Value) (t : TypeId) (hb : w.heap[b]? = some (.cells cur.toArray t (0, 0))) (hfit : off + 1 ≤ cur.length)
    (h : ∀ w1, Wrote w w1 b (splice cur off [v]) t → wpList P ops Q rest (a.put o.dst undef) w1) : wpList P ops Q (o :: rest) a w := by
  refine wpList_plain hgd fun K hK => ?_
  have hst := run_storeCells_at P b off t [v] 0 cur.toArray w hb (by simpa using hfit) (by simpa using h1)
  cases hq : P.info? T with
  | none => simp [hq] at hT
  | some i =>
    have hi : i.size = 1 := by simpa [hq] using hT
    unfold Oper.wp execOp
    simp only [ho, hx, hy, Instr.storeAt, Instr.sureAddr, Sem.run_bind, Sem.run_pure, Result.andThen_ok, storeVar, sizeOf, typeInfo, run_program, hq, hv, hi, List.size_toArray, List.length_cons, List.length_nil, Nat.zero_add, ne_eq, not_true_eq_false, if_false, show (#[v] : Array Value).size = 1 from rfl, show (#[v] : Array Value) = [v].toArray from rfl, hst]
    refine hK _ _ (h _ ⟨?_, ?_, ?_, rfl, rfl, rfl⟩)
    · rw [setRow_heap w b _ _ t _ hb]
      simp [splice]
    · intro k hk; exact setRow_other w b k _ hk
    · simp
end
theorem MSl.form {w : World} {v : Value} {ms : List Mem} (h : MSl w v ms) : ∃ oa cap, v = .slice oa ms.length cap := by
  rcases h with ⟨rfl, rfl⟩ | ⟨b, off, cap, rfl, _⟩
  · exact ⟨_, _, rfl⟩
  · exact ⟨_, _, rfl⟩
theorem zero_lab : ∀ w, (zeroValue 80).run Try.prog w = .ok (.agg [Value.int .i64 0, .int .i64 0, .int .i64 0, .int .i64 0, .slice none 0 0].toArray) w := fun w => by
  have h1 : (Try.prog.info? 80).map (·.zero) = some (some (.agg [Value.int .i64 0, .int .i64 0, .int .i64 0, .int .i64 0, .slice none 0 0].toArray)) := by kernel_rfl
  cases hi : Try.prog.info? 80 with
  | none => simp [hi] at h1
  | some i =>
    have hz : i.zero = some (.agg [Value.int .i64 0, .int .i64 0, .int .i64 0, .int .i64 0, .slice none 0 0].toArray) := by simpa [hi] using h1
    simp [zeroValue, typeInfo, hi, hz]
theorem label_Of_yes (bs : List Int) (w : World) (hb : ∀ x ∈ bs, IsByte x) (hl : bs.length = 64) (hok : ofOk bs = true) :
    Calls Try.prog 113 #[secV bs] w fun e w' => ∃ sl, e = .returned (.tuple #[(parse bs).val sl, .int .i64 0]) ∧ MSl w' sl (parse bs).ms ∧ Kept w w' :=
  (label_Of bs w hb hl).mono fun e w' ⟨hk, h⟩ => by
    rcases h with ⟨_, sl, he, hm⟩ | ⟨hf, _⟩
    · exact ⟨sl, he, hm, hk⟩
    · rw [hok] at hf; cases hf
theorem label_Of_bad (bs : List Int) (w : World) (hb : ∀ x ∈ bs, IsByte x) (hl : bs.length = 64) (hok : ofOk bs = false) :
    Calls Try.prog 113 #[secV bs] w fun e w' => e = .returned (.tuple #[Lab.zero.val (.slice none 0 0), .int .i64 2]) ∧ Kept w w' :=
  (label_Of bs w hb hl).mono fun e w' ⟨hk, h⟩ => by
    rcases h with ⟨hf, _⟩ | ⟨_, he⟩
    · rw [hok] at hf; cases hf
    · exact ⟨he, hk⟩

/-- a function whose result is a label's variable -/
theorem results_lab1 {fn : Func} {p : Tmp} (h : fn.results = #[.cell p 80]) (tmps : Array Value) (w : World) (b : Nat) (l : Lab) (sl : Value)
    (hp : tmps.getD p undef = .pointer (some ⟨b, 0, none⟩)) (hc : Cells w b 0 [.int .i64 l.array, .int .i64 l.gen, .int .i64 l.member, .int .i64 l.blocks, sl]) :
    (results fn tmps).run Try.prog w = .ok (l.val sl) w := by
  have hp' : tmps[p]?.getD undef = .pointer (some ⟨b, 0, none⟩) := by simpa using hp
  have hd : ∃ d, Try.prog.underlying 80 = some d ∧ d.isRow = true := ⟨_, Try.underlying80, rfl⟩
  obtain ⟨d, hd1, hd2⟩ := hd
  have hr := run_loadVar_mid (P := Try.prog) w b 0 80 _ d (rangeAt_of_cells hc) hd1 hd2 (by kernel_rfl)
  simp [results, h, hp', asAddr, hr, Lab.val]

def plainMs : List Mem := [⟨0, 200, 0⟩, ⟨1, 300, 0⟩, ⟨2, 160, 2⟩]
def plainL (gen member : Int) : Lab := ⟨9, gen, member, 16, plainMs⟩

attribute [local go_sem ↓] Go.wp_at_zero Go.wp_at_succ
set_option maxHeartbeats 1000000 in
set_option maxRecDepth 100000 in
theorem law_plain (gen member : Int) (w : World) :
    Calls Try.prog 112 #[.int .i64 gen, .int .i64 member] w fun e w' => ∃ sl, e = .returned ((plainL gen member).val sl) ∧ MSl w' sl plainMs ∧ Kept w w' := by
  go_enter Try.func112, Try.ntmps112
  go_wp2_with (refine wpList_store_agg rfl _ _ rfl ty_lab w.heap.size 0 rfl [.int .i64 9, .int .i64 gen, .int .i64 member, .int .i64 16, .slice (some ⟨w.heap.size + 1, 0, none⟩) 3 3] rfl rfl (lab_one (plainL gen member) _ rfl) [.int .i64 0, .int .i64 0, .int .i64 0, .int .i64 0, .slice none 0 0] 80 (((Kept.refl _).alloc _).block (heap_alloc_new w _)) (by decide) ?_; intro w1 hw1)
  replace hw1 := hw1.all rfl
  refine bodyPost_ret (results_lab1 rfl _ _ w.heap.size (plainL gen member) (.slice (some ⟨w.heap.size + 1, 0, none⟩) 3 3) rfl hw1.cells) rfl ?_
  refine ⟨_, rfl, .inr ⟨w.heap.size + 1, 0, 3, rfl, ?_⟩, hw1.kept (((Kept.refl _).alloc _).alloc _) (by omega)⟩
  refine MRow.of_cells ?_
  have h2 := heap_alloc_new (w.alloc (Obj.cells #[.int .i64 0, .int .i64 0, .int .i64 0, .int .i64 0, .slice none 0 0] 80)) (Obj.cells (mvals plainMs).toArray 160)
  rw [World.size_alloc] at h2
  exact Cells.of_block (by rw [hw1.oth (w.heap.size + 1) (by omega)]; exact h2)

theorem plain_right : rightB (plainL 1 1) = true := by decide
theorem plain_sec : ∀ x ∈ (plainL 1 1).sec, IsByte x := by simp only [IsByte]; decide
theorem plain_back : parse (plainL 1 1).sec = plainL 1 1 := by rfl
theorem plain_ok : ofOk (plainL 1 1).sec = true := by decide
theorem zero_no : ofOk zeroB = false := by decide

def Lab.vals (l : Lab) (sl : Value) : List Value := [.int .i64 l.array, .int .i64 l.gen, .int .i64 l.member, .int .i64 l.blocks, sl]
theorem build_sec (W : World) : (Instr.build 34 #[]).run Try.prog W = .ok (secV zeroB) W := run_build W 34 #[] (u8s zeroB).toArray (by kernel_rfl)
theorem zero_bytes : ∀ x ∈ zeroB, IsByte x := by simp only [IsByte]; decide

theorem shown_facts {w2 w3 w4 w5 w6 w7 : World} {r : List Int} {mb mo mc : Nat} (hz3 : Hid (w3.heap[w2.heap.size]? = some (.cells (u8s (66 :: 87 :: r)).toArray 34 (0, 0)))) (hk4 : Kept w3 w4)
    (hr4 : MRow w4 mb mo (plainL 1 1).ms) (hz5 : Hid (w5.heap[w4.heap.size]? = some (.cells (Lab.vals (plainL 1 1) (.slice (some ⟨mb, mo, none⟩) 3 mc)).toArray 80 (0, 0)))) (hk5 : Kept w4 w5) (hk6 : Kept w5 w6) (hk7 : Kept w6 w7) :
    Hid (Cells w7 w4.heap.size 0 (Lab.vals (plainL 1 1) (.slice (some ⟨mb, mo, none⟩) 3 mc))) ∧ Hid (MRow w7 mb mo plainMs) ∧ w7.cell? ⟨w2.heap.size, 0, none⟩ = some (.int .u8 66) ∧ w7.cell? ⟨w2.heap.size, 1, none⟩ = some (.int .u8 87) ∧
    w7.cell? ⟨w4.heap.size, 1, none⟩ = some (.int .i64 1) ∧ w7.cell? ⟨w4.heap.size, 4, none⟩ = some (.slice (some ⟨mb, mo, none⟩) 3 mc) ∧ w7.cell? ⟨mb, mo + 7, none⟩ = some (.int .i64 160) ∧ w7.cell? ⟨mb, mo + 6 + 1, none⟩ = some (.int .i64 160) := by
  have K57 := hk6.trans hk7
  have K47 := hk5.trans K57
  have K37 := hk4.trans K47
  have h3 := Cells.kept (Cells.of_block hz3.out) K37
  have h5 := Cells.kept (Cells.of_block hz5.out) K57
  have hm := K47.cell' (hr4 2 (by simp [plainL, plainMs])).2.1
  exact ⟨Lib.hid h5, Lib.hid (hr4.kept K47), h3 0 (by simp [u8s_length]), h3 1 (by simp [u8s_length]), h5 1 (by simp [Lab.vals]), h5 4 (by simp [Lab.vals]), hm, hm⟩

set_option maxHeartbeats 400000 in
set_option maxRecDepth 100000 in
theorem law_shown (w : World) : Calls Try.prog 42 #[] w fun e w' => e = .returned (.bool true) ∧ Kept w w' := by
  have hPl := law_plain 1 1
  have hPut := fun sl (W : World) (hm : MSl W sl plainMs) => label_Put_ok (plainL 1 1) sl W hm plain_right
  have hOf := fun (W : World) => label_Of_yes (plainL 1 1).sec W plain_sec (Lab.sec_length _ (by decide)) plain_ok
  have hZ := fun (W : World) => label_Of_bad zeroB W zero_bytes zeroB_length zero_no
  have hR := fun sl (W : World) (hm : MSl W sl plainMs) => label_Right (plainL 1 1) sl W (by decide) hm
  have hcv := fun (W : World) b => conv2 W b 64 66 87
  rw [plain_right] at hR
  rw [plain_back] at hOf
  have hsl := Lab.sec_length (plainL 1 1) (by decide)
  have hsh : ∃ r, (plainL 1 1).sec = 66 :: 87 :: r := ⟨_, rfl⟩
  have HPut := Lib.hid hPut; clear hPut
  have HOf := Lib.hid hOf; clear hOf
  have HSL := Lib.hid hsl; clear hsl
  generalize (plainL 1 1).sec = sec at *
  obtain ⟨r, rfl⟩ := hsh
  go_enter Try.func42, Try.ntmps42
  go_wp2_with (first
    | (go_at_call 112; refine (hPl _).mono ?_; rintro e w1 ⟨sl, rfl, hm1, hk1⟩; have q1 := hk1.q)
    | (go_at_call 111; refine (HPut.out sl _ hm1).mono ?_; rintro e w2 ⟨rfl, hk2⟩; have q2 := hk2.q)
    | (refine wpList_new_agg rfl rfl _ _ rfl rfl ty_sec (u8s zeroB) zero_sec (by simp [u8s_length, zeroB_length]) (u8s (66 :: 87 :: r)) rfl (by rw [u8s_length, HSL.out]) (u8s_one _) rfl ?_; intro w3 hz3 hs3 hk3; have q3 := hk3.q)
    | (refine wpList_load_agg rfl _ rfl ty_sec w2.heap.size 0 rfl (u8s (66 :: 87 :: r)) (by simpa using Cells.of_block hz3.out) (by rw [u8s_length, HSL.out]) ?_)
    | (go_at_call 113; refine (HOf.out _).mono ?_; rintro e w4 ⟨sl4, rfl, hm4, hk4⟩; obtain ⟨h, _⟩ | ⟨mb, mo, mc, rfl, hr4⟩ := hm4; (· exact absurd h (by simp [plainL, plainMs])); have q4 := hk4.q)
    | (refine wpList_new_agg rfl rfl _ _ rfl rfl ty_lab [.int .i64 0, .int .i64 0, .int .i64 0, .int .i64 0, .slice none 0 0] zero_lab rfl (Lab.vals (plainL 1 1) (.slice (some ⟨mb, mo, none⟩) 3 mc)) rfl rfl (lab_one _ _ rfl) rfl ?_; intro w5 hz5 hs5 hk5; have q5 := hk5.q; refine ?roundEnd))
  case roundEnd =>
  go_wp2_with (first
    | (refine wpList_build_zero rfl rfl (secV zeroB) build_sec ?_)
    | (go_at_call 113; refine (hZ _).mono ?_; rintro e w6 ⟨rfl, hk6⟩; have q6 := hk6.q)
    | (refine wpList_new_agg rfl rfl _ _ rfl rfl ty_lab [.int .i64 0, .int .i64 0, .int .i64 0, .int .i64 0, .slice none 0 0] zero_lab rfl (Lab.vals Lab.zero (.slice none 0 0)) rfl rfl (lab_one _ _ rfl) rfl ?_; intro w7 hz7 hs7 hk7
       obtain ⟨KL, hr7, c0, c1, d1, d4, m2, m3⟩ := shown_facts hz3 hk4 hr4 hz5 hk5 hk6 hk7
       clear q1 q2 q3 q4 q5 q6)
    | (refine wpList_load_aggW _ rfl ty_lab w4.heap.size 0 rfl (Lab.vals (plainL 1 1) (.slice (some ⟨mb, mo, none⟩) 3 mc)) KL.out rfl (by first | rfl | go_simp) ?_)
    | (go_at_call 114; refine (hR (.slice (some ⟨mb, mo, none⟩) 3 mc) _ (.inr ⟨mb, mo, mc, rfl, hr7.out⟩)).mono ?_; rintro e w8 ⟨rfl, hk8⟩))
  go_ret
  exact ⟨rfl, hk1.trans (hk2.trans (hk3.trans (hk4.trans (hk5.trans (hk6.trans (hk7.trans hk8))))))⟩

end Go.Proofs.Ytglplhmclfekfaa
/- The document's SameMembers and Same, of what is the same. -/
namespace Go.Proofs.Ytglplhmclfekfaa
open Go.RowKit
set_option linter.unusedVariables false
set_option linter.unusedSimpArgs false

attribute [local go_sem ↓] Go.wp_at_zero Go.wp_at_succ
set_option maxHeartbeats 2000000 in
set_option maxRecDepth 100000 in
theorem same_members (ms : List Mem) (s1 s2 : Value) (w : World) (hlen : ms.length ≤ 9223372036854775807) (h1 : MSl w s1 ms) (h2 : MSl w s2 ms) :
    Calls Try.prog 121 #[s1, s2] w fun e w' => e = .returned (.bool true) ∧ Kept w w' := by
  obtain ⟨o1, c1, rfl⟩ := h1.form
  obtain ⟨o2, c2, rfl⟩ := h2.form
  have H1 := Lib.hid h1; clear h1
  have H2 := Lib.hid h2; clear h2
  go_enter Try.func121, Try.ntmps121
  go_wp2
  go_loopw [5] (fun i wr => ∃ k : Nat, k ≤ ms.length ∧ i = .int .i64 k ∧ Kept w wr) (fun i _ => ms.length - (intOf i).toNat)
  case atStart => exact ⟨0, Nat.zero_le _, rfl, Kept.refl _⟩
  case round =>
    obtain ⟨k, hk, rfl, hkr⟩ := hrel
    have hsz := hkr.size
    by_cases hlt : k < ms.length
    · obtain ⟨b1, off1, cap1, hsl, hm⟩ : ∃ b off cap', Value.slice o1 ms.length c1 = .slice (some ⟨b, off, none⟩) ms.length cap' ∧ MRow w b off ms := by
        rcases H1.out with ⟨h, _⟩ | h
        · have h' : ms = [] := h
          subst h'; simp at hlt
        · exact h
      cases hsl
      obtain ⟨b2, off2, cap2, hsl, hn⟩ : ∃ b off cap', Value.slice o2 ms.length c2 = .slice (some ⟨b, off, none⟩) ms.length cap' ∧ MRow w b off ms := by
        rcases H2.out with ⟨h, _⟩ | h
        · have h' : ms = [] := h
          subst h'; simp at hlt
        · exact h
      cases hsl
      obtain ⟨m0, m1, m2⟩ := (hm.kept hkr) k hlt
      obtain ⟨n0, n1, n2⟩ := (hn.kept hkr) k hlt
      clear hm hn
      generalize ms[k].id = x at *
      generalize ms[k].sec = y at *
      generalize ms[k].st = z at *
      go_upto_region 6 with fail
      go_quiet (fail)
      go_wp2
      go_roundw
      case rel => exact ⟨k + 1, by omega, by go_num, hkr.drewN _⟩
      case measure => simp [intOf]; omega
    · go_wp2
      go_ret
      exact ⟨rfl, hkr⟩

set_option maxHeartbeats 2000000 in
set_option maxRecDepth 100000 in
theorem same_labels (l : Lab) (s1 s2 : Value) (w : World) (hlen : l.ms.length ≤ 9223372036854775807) (h1 : MSl w s1 l.ms) (h2 : MSl w s2 l.ms) :
    Calls Try.prog 53 #[l.val s1, l.val s2] w fun e w' => e = .returned (.bool true) ∧ Kept w w' := by
  obtain ⟨array, gen, member, blocks, ms⟩ := l
  simp only [Lab.val]
  have hS := fun (W : World) (hk : Kept w W) => same_members ms s1 s2 W hlen (h1.kept hk) (h2.kept hk)
  have HS := Lib.hid hS; clear hS
  obtain ⟨o1, c1, rfl⟩ := h1.form
  obtain ⟨o2, c2, rfl⟩ := h2.form
  clear h1 h2
  go_enter Try.func53, Try.ntmps53
  go_wp2_with (go_at_call 121; refine (HS.out _ (((Kept.refl w).alloc _).alloc _)).mono ?_; rintro e w2 ⟨rfl, hk2⟩)
  go_ret
  exact ⟨rfl, (((Kept.refl w).alloc _).alloc _).trans hk2⟩

end Go.Proofs.Ytglplhmclfekfaa
/- LabelMembers: the walk. -/
namespace Go.Proofs.Ytglplhmclfekfaa
open Go.RowKit
set_option linter.unusedVariables false
set_option linter.unusedSimpArgs false

/-- a slice of members that came in -/
def MSrc (w : World) (sl : Value) (ms : List Mem) : Prop :=
  (∃ oa cap, sl = .slice oa 0 cap ∧ ms = [] ∧ (oa = none → cap = 0)) ∨ ∃ b off cap, sl = .slice (some ⟨b, off, none⟩) ms.length cap ∧ ms.length ≤ cap ∧ cap ≤ maxLen ∧ Cells w b off (mvals ms)

theorem Cells.take {w : World} {b off : Nat} {xs : List Value} (h : Cells w b off xs) (n : Nat) : Cells w b off (xs.take n) := by
  intro j hj
  rw [List.getElem_take]
  exact h j (by simp at hj; omega)
theorem mvals_take (ms : List Mem) : ∀ n, mvals (ms.take n) = (mvals ms).take (n * 3) := by
  induction ms with
  | nil => intro n; simp [mvals]
  | cons m ms ih =>
    intro n
    cases n with
    | zero => simp [mvals]
    | succ n =>
      rw [List.take_succ_cons]
      have := ih n
      simp only [mvals, List.flatMap_cons] at this ⊢
      rw [this, show (n + 1) * 3 = m.vals.length + n * 3 from by simp [Mem.vals]; omega, List.take_length_add_append]
/-- the first n of them, as a slice -/
theorem MSrc.src {w : World} {b off cap n : Nat} {ms : List Mem} (hc : Cells w b off (mvals ms)) (hn : n ≤ ms.length) (hcap : ms.length ≤ cap) : Src w 3 (.slice (some ⟨b, off, none⟩) n cap) (ms.take n).length (mvals (ms.take n)) := by
  rw [show (ms.take n).length = n from by simp; omega]
  refine Src.of_cells ?_ ?_ (by omega)
  · rw [mvals_take]; exact hc.take _
  · rw [mvals_length]; simp; omega

theorem Src.zero {w : World} {size c : Nat} {ax : Option Addr} (h : ax = none → c = 0) : Src w size (.slice ax 0 c) 0 [] := ⟨by simp, ax, c, rfl, Nat.zero_le _, fun e => ⟨rfl, h e⟩, fun b hb j u hu => by simp at hu⟩

section
variable {ops : Array Oper} {rest : List Oper} {o : Oper} {a : Act} {w : World} {Q : Exit → Act → World → Prop}
/-- append([]Member{}, l...) -/
theorem wpList_append_fresh (hgd : o.guard = none) (s x : Operand)
    (ho : o.op = .call { callee := .builtin .append, args := #[s, x], argTypes := #[78, 78] }) (g : Nat) (hs : a.eval s = .slice (some ⟨g, 0, none⟩) 0 0)
    (xv : Value) (hxe : a.eval x = xv) (ms : List Mem) (hx : Src w 3 xv ms.length (mvals ms)) (hlen : ms.length ≤ 1000)
    (h : ∀ v' w', MSl w' v' ms → Kept w w' → wpList Try.prog ops Q rest (a.put o.dst v') w') : wpList Try.prog ops Q (o :: rest) a w := by
  by_cases h0 : ms = []
  · subst h0
    obtain ⟨_, ax, c, rfl, _⟩ := hx
    exact wpList_append_zero w hgd s x ho ty_mems (some ⟨g, 0, none⟩) ax 0 c hs hxe (by decide) (h _ _ (.inr ⟨g, 0, 0, rfl, fun i hi => by simp at hi⟩) (Kept.refl _))
  · have hp : 0 < ms.length := List.length_pos_iff.2 h0
    refine wpList_append_app w hgd s x ho ty_mems w.heap.size _ 0 [] hs (.inr ⟨rfl, _, rfl, by simp, by simp⟩) xv ms.length (mvals ms) hxe hx (mvals_one ms) (by simp only [maxLen]; omega) (by omega) (Nat.le_refl _) ?_
    intro v' w' _ _ hbw hown
    have ho := hown (.inl hp)
    rw [Nat.zero_add, List.nil_append] at ho
    exact h v' w' (MSl.of_owns ho) hbw
end

theorem hasOwn_next (ms : List Mem) (own : Int) (k : Nat) (h : k < ms.length) : hasOwn (ms.take (k + 1)) own = (hasOwn (ms.take k) own || (ms[k].id == own)) := by
  unfold hasOwn; rw [List.take_succ_eq_append_getElem h, List.any_append]; simp

attribute [local go_sem ↓] Go.wp_at_zero Go.wp_at_succ
--
--
--
--
--
--
--
--
--
--
--
--
--
--
--
--
--
--
--
--
--
--
--
--
--
--
--
--
--
--
--
--
--
--
--
--
--
--
--
--
--
--
--
--
--
--
--
--
--
--
--
--
--
--
--
--
--
--
--
--
--
--
--
--
--
--
--
--
--
--
--
--
--
--
--
--
--
--
--
--
--
--
--
--
--
--
--
--
--
--
--
--
--
--
--
--
--
--
--
--
--
--
--
--
--
--
--
--
--
--
--
--
--
--
--
--
--
--
--
--
--
--
--
--
--
--
--
--
--
--
--
--
--
--
--
--
--
--
--
--
--
--
--
--
--
--
--
--
--
--
--
--
--
--
--
--
--
--
--
--
--
--
--
--
--
--
--
--
--
--
--
--
--
--
--
--
--
--
--
--
--
--
--
--
--
--
--
--
--
--
--
--
--
--
--
--
--
--
--
--
--
--
--
--
--
--
--
--
--
--
--
--
--
--
--
--
--
--
--
--
--
--
--
--
--
--
--
--
--
--
--
--
--
--
--
--
--
--
--
--
--
--
theorem mvals_cells {w : World} {b off : Nat} {ms : List Mem} (h : ∀ i (hi : i < ms.length), w.cell? ⟨b, off + i * 3 + 0, none⟩ = some (.int .i64 ms[i].id) ∧ w.cell? ⟨b, off + i * 3 + 1, none⟩ = some (.int .i64 ms[i].sec) ∧ w.cell? ⟨b, off + i * 3 + 2, none⟩ = some (.int .i64 ms[i].st)) :
    Cells w b off (mvals ms) := by
  intro j hj
  have hl := mvals_length ms
  have hi : j / 3 < ms.length := by omega
  have hr : j % 3 < 3 := Nat.mod_lt _ (by decide)
  have hj' : j / 3 * 3 + j % 3 = j := Nat.div_add_mod' j 3
  have e := flatMap_at ms Mem.vals 3 (fun _ _ => rfl) (j / 3) (j % 3) hi hr
  obtain ⟨h0, h1, h2⟩ := h (j / 3) hi
  rw [hj'] at e
  have e2 : (mvals ms)[j]? = some (mvals ms)[j] := List.getElem?_eq_getElem hj
  have e3 : some (mvals ms)[j] = (ms[j / 3].vals)[j % 3]? := e2.symm.trans e
  have hc : j % 3 = 0 ∨ j % 3 = 1 ∨ j % 3 = 2 := by omega
  rcases hc with hc | hc | hc
  · rw [e3, hc, show off + j = off + j / 3 * 3 + 0 from by omega, h0]; rfl
  · rw [e3, hc, show off + j = off + j / 3 * 3 + 1 from by omega, h1]; rfl
  · rw [e3, hc, show off + j = off + j / 3 * 3 + 2 from by omega, h2]; rfl

set_option maxRecDepth 100000 in
/-- MEMBERS THAT COME IN AS AN ARGUMENT -/
theorem open_mems {H : Type} {enc : TypeId × Value → H} {w : World} {base : Nat} {spare : Nat → Bool} {held : Bool} {fuel : Nat} {v : Value} {x : DataW H × List MemPlace}
    (h : DataW.trod enc Try.prog w base spare held fuel 78 [v] = some x) : ∃ ms, MSrc w v ms := by
  rcases Go.Deep.open_slice Try.underlying78 h with ⟨hcs, _⟩ | ⟨a, len, cap, m, n, D, Pl, hcs, _, hl, hmx, hm, _, hi⟩
  · simp at hcs; exact ⟨[], .inl ⟨none, 0, hcs, rfl, fun _ => rfl⟩⟩
  simp at hcs
  subst hcs
  have hlm : len ≤ m := by rw [hm]; split <;> omega
  have hC : Try.prog.cellsOf 160 = 3 := by kernel_rfl
  have hC1 : Try.prog.cellsOf 3 = 1 := by kernel_rfl
  have key : ∀ i, ∃ y : Mem, i < len → w.cell? ((a.add (i * 3)).add 0) = some (.int .i64 y.id) ∧ w.cell? ((a.add (i * 3)).add 1) = some (.int .i64 y.sec) ∧ w.cell? ((a.add (i * 3)).add 2) = some (.int .i64 y.st) := by
    intro i
    by_cases hil : i < len
    · obtain ⟨cs', hc, ht⟩ := hi i (by omega)
      rw [hC] at hc
      obtain ⟨_, hcl, hat⟩ := World.cells?_some hc
      obtain ⟨xs, n', _, _, _, hxl, hf⟩ := DataW.trod_struct Try.underlying160 ht
      replace hxl : xs.length = 3 := hxl
      rcases cs' with _ | ⟨c0, _ | ⟨c1, _ | ⟨c2, _ | ⟨c3, r⟩⟩⟩⟩ <;> simp at hcl
      have f0 : DataW.trod enc Try.prog w base spare held n' 3 ((([c0, c1, c2] : List Value).drop 0).take (Try.prog.cellsOf 3)) = xs[0]? := hf 0 _ rfl
      have f1 : DataW.trod enc Try.prog w base spare held n' 3 ((([c0, c1, c2] : List Value).drop 1).take (Try.prog.cellsOf 3)) = xs[1]? := hf 1 _ rfl
      have f2 : DataW.trod enc Try.prog w base spare held n' 3 ((([c0, c1, c2] : List Value).drop 2).take (Try.prog.cellsOf 3)) = xs[2]? := hf 2 _ rfl
      rw [hC1, List.getElem?_eq_getElem (by omega)] at f0 f1 f2
      obtain ⟨z0, hz0, _, _⟩ := DataW.trod_int Try.underlying3 f0
      obtain ⟨z1, hz1, _, _⟩ := DataW.trod_int Try.underlying3 f1
      obtain ⟨z2, hz2, _, _⟩ := DataW.trod_int Try.underlying3 f2
      simp at hz0 hz1 hz2
      subst hz0 hz1 hz2
      exact ⟨⟨z0, z1, z2⟩, fun _ => ⟨hat 0 (by omega), hat 1 (by omega), hat 2 (by omega)⟩⟩
    · exact ⟨⟨0, 0, 0⟩, fun h' => absurd h' hil⟩
  obtain ⟨f, hf⟩ := Classical.axiomOfChoice key
  by_cases h0 : len = 0
  · subst h0; exact ⟨[], .inl ⟨_, _, rfl, rfl, by simp⟩⟩
  · obtain ⟨b, off, spot⟩ := a
    have hsp := World.cell?_spot (hf 0 (by omega)).1
    have hspot : spot = none := by simpa [Addr.add] using hsp
    subst hspot
    refine ⟨(List.range len).map f, .inr ⟨b, off, cap, by simp, by simpa using hl, hmx, mvals_cells fun i hi => ?_⟩⟩
    have hi' : i < len := by simpa using hi
    have := hf i hi'
    simp only [Addr.add_mid] at this
    simpa using this

end Go.Proofs.Ytglplhmclfekfaa
/- The plain law: a right label's sector is read as that label. -/
namespace Go.Proofs.Ytglplhmclfekfaa
open Go.RowKit
set_option linter.unusedVariables false
set_option linter.unusedSimpArgs false

theorem beVal1 (v : Int) (h0 : 0 ≤ v) (h : v < 256) : beVal (beBytes v 1) = v := by simp [beVal, beBytes]; omega
theorem beVal2 (v : Int) (h0 : 0 ≤ v) (h : v < 65536) : beVal (beBytes v 2) = v := by simp [beVal, beBytes]; omega
theorem beVal4 (v : Int) (h0 : 0 ≤ v) (h : v < 4294967296) : beVal (beBytes v 4) = v := by simp [beVal, beBytes]; omega
theorem beBytes_byte (v : Int) (n : Nat) : ∀ x ∈ beBytes v n, IsByte x := by
  induction n with
  | zero => intro x hx; simp [beBytes] at hx
  | succ n ih =>
    intro x hx
    simp only [beBytes, List.mem_cons] at hx
    rcases hx with rfl | hx
    · simp only [IsByte]; omega
    · exact ih x hx
theorem getB_mid (bs pre mid post : List Int) (k n : Nat) (e : bs = pre ++ (mid ++ post)) (hk : pre.length = k) (hn : mid.length = n) : getB bs k n = beVal mid := by
  subst e hk hn
  simp [getB, List.drop_append, List.take_append]

def Lab.pre (l : Lab) : List Int := [66, 87] ++ fldBytes l.flds
theorem Lab.pre_length (l : Lab) : l.pre.length = 14 := by simp [Lab.pre, Lab.flds_len]
theorem Lab.sec_pre (l : Lab) : l.sec = l.pre ++ (memBytes l.ms ++ List.replicate (64 - l.text.length) 0) := by
  simp [Lab.sec, Lab.text, Lab.pre, List.append_assoc]
theorem memBytes_append (a b : List Mem) : memBytes (a ++ b) = memBytes a ++ memBytes b := by simp [memBytes]
theorem memBytes_at (ms : List Mem) (i : Nat) (h : i < ms.length) : memBytes ms = memBytes (ms.take i) ++ (ms[i].bytes ++ memBytes (ms.drop (i + 1))) := by
  have e : ms = ms.take i ++ (ms[i] :: ms.drop (i + 1)) := by
    rw [← List.drop_eq_getElem_cons h, List.take_append_drop]
  have e2 : memBytes (ms[i] :: ms.drop (i + 1)) = ms[i].bytes ++ memBytes (ms.drop (i + 1)) := by simp only [memBytes, List.flatMap_cons]
  rw [← e2, ← memBytes_append, ← e]
theorem lab_sec_mem (l : Lab) (i : Nat) (h : i < l.ms.length) : ∃ post, l.sec = (l.pre ++ memBytes (l.ms.take i)) ++ (l.ms[i].bytes ++ post) := by
  rw [l.sec_pre, memBytes_at l.ms i h]
  exact ⟨memBytes (l.ms.drop (i + 1)) ++ List.replicate (64 - l.text.length) 0, by simp only [List.append_assoc]⟩
theorem sec_bytes (l : Lab) : ∀ x ∈ l.sec, IsByte x := by
  intro x hx
  simp only [Lab.sec, Lab.text, List.mem_append, List.mem_replicate] at hx
  rcases hx with (hx | hx | hx) | ⟨_, rfl⟩
  · simp at hx; rcases hx with rfl | rfl <;> simp [IsByte]
  · simp only [fldBytes, List.mem_flatMap] at hx
    obtain ⟨p, _, hx⟩ := hx
    exact beBytes_byte _ _ x hx
  · simp only [memBytes, List.mem_flatMap, Mem.bytes, List.mem_append] at hx
    obtain ⟨m, _, hx⟩ := hx
    rcases hx with hx | hx | hx <;> exact beBytes_byte _ _ x hx
  · simp [IsByte]

theorem parse_sec (l : Lab) (hr : rightB l = true) : parse l.sec = l := by
  have hf := l.fld hr
  have hm := l.mem hr
  have hn : l.ms.length ≤ 12 := by
    simp only [rightB, headB, inB, Bool.and_eq_true, decide_eq_true_eq] at hr; omega
  simp only [mayPut_iff, Lab.flds, List.mem_cons, List.not_mem_nil, or_false, forall_eq_or_imp, forall_eq] at hf
  simp only [mayPut_iff] at hm
  simp only [show (8 * 4 : Int).toNat = 32 from rfl, show (8 * 2 : Int).toNat = 16 from rfl, show (8 * 1 : Int).toNat = 8 from rfl, Int.reducePow] at hf hm
  obtain ⟨⟨_, _, a0, a1⟩, ⟨_, _, g0, g1⟩, ⟨_, _, m0, m1⟩, ⟨_, _, b0, b1⟩, _, _, l0, l1⟩ := hf
  obtain ⟨R, hS⟩ : ∃ R, l.sec = [66, 87] ++ (beBytes l.array 4 ++ (beBytes l.gen 4 ++ (beBytes l.member 1 ++ (beBytes l.blocks 2 ++ (beBytes l.ms.length 1 ++ R))))) :=
    ⟨memBytes l.ms ++ List.replicate (64 - l.text.length) 0, by
      rw [l.sec_pre, Lab.pre, fldBytes, Lab.flds]
      simp only [List.flatMap_cons, List.flatMap_nil, List.append_nil, List.append_assoc]
      rfl⟩
  have e1 : getB l.sec 2 4 = l.array := (getB_mid _ [66, 87] (beBytes l.array 4) _ 2 4 hS rfl (beBytes_length _ _)).trans (beVal4 _ a0 (by omega))
  have e2 : getB l.sec 6 4 = l.gen := (getB_mid _ ([66, 87] ++ beBytes l.array 4) (beBytes l.gen 4) _ 6 4 (by rw [hS]; simp only [List.append_assoc]; rfl) (by simp [beBytes_length]) (beBytes_length _ _)).trans (beVal4 _ g0 (by omega))
  have e3 : getB l.sec 10 1 = l.member := (getB_mid _ ([66, 87] ++ (beBytes l.array 4 ++ beBytes l.gen 4)) (beBytes l.member 1) _ 10 1 (by rw [hS]; simp only [List.append_assoc]; rfl) (by simp [beBytes_length]) (beBytes_length _ _)).trans (beVal1 _ m0 (by omega))
  have e4 : getB l.sec 11 2 = l.blocks := (getB_mid _ ([66, 87] ++ (beBytes l.array 4 ++ (beBytes l.gen 4 ++ beBytes l.member 1))) (beBytes l.blocks 2) _ 11 2 (by rw [hS]; simp only [List.append_assoc]; rfl) (by simp [beBytes_length]) (beBytes_length _ _)).trans (beVal2 _ b0 (by omega))
  have e5 : l.sec.getD 13 0 = l.ms.length := by
    rw [hS]; simp [beBytes]; omega
  have e6 : parseMs l.sec l.ms.length = l.ms := by
    refine List.ext_getElem (parseMs_length _ _) fun i hi hi' => ?_
    obtain ⟨post, hp⟩ := lab_sec_mem l i hi'
    have hb := hm _ (List.getElem_mem hi')
    obtain ⟨⟨_, _, i0, i1⟩, ⟨_, _, s0, s1⟩, _, _, t0, t1⟩ := hb
    have hlen : (l.pre ++ memBytes (l.ms.take i)).length = 14 + 4 * i := by
      rw [List.length_append, l.pre_length, memBytes_length, List.length_take]; omega
    have f1 : getB l.sec (14 + 4 * i) 1 = l.ms[i].id := (getB_mid _ (l.pre ++ memBytes (l.ms.take i)) (beBytes l.ms[i].id 1) (beBytes l.ms[i].sec 2 ++ (beBytes l.ms[i].st 1 ++ post)) _ 1 (by rw [hp]; simp only [Mem.bytes, List.append_assoc]) hlen (beBytes_length _ _)).trans (beVal1 _ i0 (by omega))
    have f2 : getB l.sec (15 + 4 * i) 2 = l.ms[i].sec := (getB_mid _ (l.pre ++ memBytes (l.ms.take i) ++ beBytes l.ms[i].id 1) (beBytes l.ms[i].sec 2) (beBytes l.ms[i].st 1 ++ post) _ 2 (by rw [hp]; simp only [Mem.bytes, List.append_assoc]) (by rw [List.length_append, hlen, beBytes_length]; omega) (beBytes_length _ _)).trans (beVal2 _ s0 (by omega))
    have f3 : getB l.sec (17 + 4 * i) 1 = l.ms[i].st := (getB_mid _ (l.pre ++ memBytes (l.ms.take i) ++ beBytes l.ms[i].id 1 ++ beBytes l.ms[i].sec 2) (beBytes l.ms[i].st 1) post _ 1 (by rw [hp]; simp only [Mem.bytes, List.append_assoc]) (by rw [List.length_append, List.length_append, hlen, beBytes_length, beBytes_length]; omega) (beBytes_length _ _)).trans (beVal1 _ t0 (by omega))
    simp only [parseMs, List.getElem_map, List.getElem_range, memAt, f1, f2, f3]
  rw [parse, e1, e2, e3, e4, e5, Int.toNat_natCast, e6]

theorem sec_ok (l : Lab) (hr : rightB l = true) : ofOk l.sec = true := by
  have hn : l.ms.length ≤ 12 := by
    simp only [rightB, headB, inB, Bool.and_eq_true, decide_eq_true_eq] at hr; omega
  have hh : ofHead l.sec = true := by
    have hp := parse_sec l hr
    have h13 : (l.sec.getD 13 0) ≤ 12 := by
      have hl : (parse l.sec).ms.length = (l.sec.getD 13 0).toNat := by simp [parse, parseMs_length]
      rw [hp] at hl; omega
    have h2 : l.sec.take 2 = [66, 87] := by rw [l.sec_pre]; simp [Lab.pre]
    simp only [ofHead, h2, h13]; rfl
  simp [ofOk, hh, parse_sec l hr, hr]

end Go.Proofs.Ytglplhmclfekfaa
/- The label laws' cut; the document's Same. -/
namespace Go.Proofs.Ytglplhmclfekfaa
open Go.RowKit
set_option linter.unusedVariables false
set_option linter.unusedSimpArgs false

theorem ownsRow_same {w w1 : World} {base e size n : Nat} {v : Value} {xs : List Value} (h : ∀ k, base ≤ k → w1.heap[k]? = w.heap[k]?) (ho : w.ownsRow base e size v n xs) : w1.ownsRow base e size v n xs := by
  refine ⟨ho.1, ?_⟩
  rcases ho.2 with h2 | ⟨g', cap, cur, hv, hb, hh, r⟩
  · exact .inl h2
  · exact .inr ⟨g', cap, cur, hv, hb, by rw [h g' hb]; exact hh, r⟩

section
variable {ops : Array Oper} {rest : List Oper} {o : Oper} {a : Act} {w : World} {Q : Exit → Act → World → Prop}
/-- append([]Member{}, l...): what comes out outlives a write to what was there. -/
theorem wpList_append_fresh' (hgd : o.guard = none) (s x : Operand)
    (ho : o.op = .call { callee := .builtin .append, args := #[s, x], argTypes := #[78, 78] }) (g : Nat) (hs : a.eval s = .slice (some ⟨g, 0, none⟩) 0 0)
    (xv : Value) (hxe : a.eval x = xv) (ms : List Mem) (hx : Src w 3 xv ms.length (mvals ms)) (hlen : ms.length ≤ 1000)
    (h : ∀ v' w', MSl w' v' ms → Kept w w' → (∀ W : World, (∀ k, w.heap.size ≤ k → W.heap[k]? = w'.heap[k]?) → MSl W v' ms) → wpList Try.prog ops Q rest (a.put o.dst v') w') : wpList Try.prog ops Q (o :: rest) a w := by
  by_cases h0 : ms = []
  · subst h0
    obtain ⟨_, ax, c, rfl, _⟩ := hx
    have hm : ∀ W, MSl W (.slice (some ⟨g, 0, none⟩) 0 0) [] := fun W => .inr ⟨g, 0, 0, rfl, fun i hi => by simp at hi⟩
    exact wpList_append_zero w hgd s x ho ty_mems (some ⟨g, 0, none⟩) ax 0 c hs hxe (by decide) (h _ _ (hm _) (Kept.refl _) (fun _ _ => hm _))
  · have hp : 0 < ms.length := List.length_pos_iff.2 h0
    refine wpList_append_app w hgd s x ho ty_mems w.heap.size _ 0 [] hs (.inr ⟨rfl, _, rfl, by simp, by simp⟩) xv ms.length (mvals ms) hxe hx (mvals_one ms) (by simp only [maxLen]; omega) (by omega) (Nat.le_refl _) ?_
    intro v' w' _ _ hbw hown
    have ho := hown (.inl hp)
    rw [Nat.zero_add, List.nil_append] at ho
    exact h v' w' (MSl.of_owns ho) hbw (fun W hW => MSl.of_owns (ownsRow_same hW ho))
end

def Lab.cut (l : Lab) : Lab := ⟨l.array, l.gen, l.member, l.blocks, l.ms.take 20⟩
theorem size_slices : (Try.prog.info? 78).map (·.size) = some 1 := by kernel_rfl

attribute [local go_sem ↓] Go.wp_at_zero Go.wp_at_succ
set_option maxHeartbeats 2000000 in
set_option maxRecDepth 100000 in
theorem law_cut (l : Lab) (oa0 : Option Addr) (n0 cap0 : Nat) (w : World) (hs : MSrc w (.slice oa0 n0 cap0) l.ms) :
    Calls Try.prog 48 #[l.val (.slice oa0 n0 cap0)] w fun e w' => ∃ sl, e = .returned (l.cut.val sl) ∧ MSl w' sl (l.ms.take 20) ∧ Kept w w' ∧ ∀ W : World, (∀ k, w.heap.size ≤ k → W.heap[k]? = w'.heap[k]?) → MSl W sl (l.ms.take 20) := by
  obtain ⟨array, gen, member, blocks, ms0⟩ := l
  simp only [Lab.val, Lab.cut] at hs ⊢
  have HSRC := Lib.hid hs; clear hs
  go_enter Try.func48, Try.ntmps48
  go_upto_region 1 with fail
  go_cut [] (fun wc => ∃ sl, wc.heap[w.heap.size]? = some (.cells #[.int .i64 array, .int .i64 gen, .int .i64 member, .int .i64 blocks, sl] 80 (0, 0)) ∧
    wc.heap[w.heap.size + 1]? = some (.cells #[.int .i64 0, .int .i64 0, .int .i64 0, .int .i64 0, .slice none 0 0] 80 (0, 0)) ∧ MSl wc sl (ms0.take 20) ∧ Kept w wc ∧
    ∀ W : World, (∀ k, w.heap.size + 2 ≤ k → W.heap[k]? = wc.heap[k]?) → MSl W sl (ms0.take 20))
  case first =>
    have HB := Lib.hid (fun (c : Value) (W : World) (hk : Kept (((w.alloc (.cells #[.int .i64 array, .int .i64 gen, .int .i64 member, .int .i64 blocks, c] 80)).alloc (.cells #[.int .i64 0, .int .i64 0, .int .i64 0, .int .i64 0, .slice none 0 0] 80)).alloc (.cells #[] 160)) W) =>
      hk.block (((((Kept.refl (w.alloc (.cells #[.int .i64 array, .int .i64 gen, .int .i64 member, .int .i64 blocks, c] 80))).alloc _).alloc _).block (heap_alloc_new w _))))
    have HZ := Lib.hid (fun (c : Value) (W : World) (hk : Kept (((w.alloc (.cells #[.int .i64 array, .int .i64 gen, .int .i64 member, .int .i64 blocks, c] 80)).alloc (.cells #[.int .i64 0, .int .i64 0, .int .i64 0, .int .i64 0, .slice none 0 0] 80)).alloc (.cells #[] 160)) W) => by
      have := hk.block (((Kept.refl ((w.alloc (.cells #[.int .i64 array, .int .i64 gen, .int .i64 member, .int .i64 blocks, c] 80)).alloc (.cells #[.int .i64 0, .int .i64 0, .int .i64 0, .int .i64 0, .slice none 0 0] 80))).alloc (.cells #[] 160)).block (heap_alloc_new (w.alloc (.cells #[.int .i64 array, .int .i64 gen, .int .i64 member, .int .i64 blocks, c] 80)) _))
      rw [World.size_alloc] at this
      exact this)
    obtain ⟨oa1, cap1, h, rfl, hn⟩ | ⟨b, off, cap, h, hcap, hmax, hc⟩ := HSRC.out
    · cases h
      obtain rfl | ⟨ad, rfl⟩ : oa0 = none ∨ ∃ ad, oa0 = some ad := by cases oa0 <;> simp
      · obtain rfl := hn rfl
        go_wp2_with (first
          | (refine wpList_append_fresh' rfl _ _ (by rfl) (w.heap.size + 1 + 1) rfl _ rfl [] Src.nil (by simp; try omega) ?_; intro v' w2 hm2 hk2 hst; obtain ⟨oa2, cap2, rfl⟩ := hm2.form; have hb2 := Lib.hid (HB.out _ w2 hk2); have hb3 := Lib.hid (HZ.out _ w2 hk2); have hs2 := hk2.size)
          | (refine wpList_store_one rfl _ _ rfl size_slices w.heap.size 4 rfl _ rfl rfl rfl [.int .i64 array, .int .i64 gen, .int .i64 member, .int .i64 blocks, .slice none 0 0] 80 hb2.out (by simp) ?_; intro w4 hw4))
        go_meet
        case rel =>
          simp only [World.size_alloc] at hs2 hst
          exact ⟨_, hw4.blk, (hw4.oth (w.heap.size + 1) (by omega)).trans hb3.out, hst _ (fun k hk => hw4.oth k (by omega)), hw4.kept (((((Kept.refl w).alloc _).alloc _).alloc _).trans hk2) (Nat.le_refl _), fun W hW => hst W (fun k hk => (hW k (by omega)).trans (hw4.oth k (by omega)))⟩
      · go_wp2_with (first
          | (refine wpList_append_fresh' rfl _ _ (by rfl) (w.heap.size + 1 + 1) rfl _ rfl [] (Src.zero (ax := some ad) (c := cap0) (by simp)) (by simp; try omega) ?_; intro v' w2 hm2 hk2 hst; obtain ⟨oa2, cap2, rfl⟩ := hm2.form; have hb2 := Lib.hid (HB.out _ w2 hk2); have hb3 := Lib.hid (HZ.out _ w2 hk2); have hs2 := hk2.size)
          | (refine wpList_store_one rfl _ _ rfl size_slices w.heap.size 4 rfl _ rfl rfl rfl [.int .i64 array, .int .i64 gen, .int .i64 member, .int .i64 blocks, .slice (some ad) 0 cap0] 80 hb2.out (by simp) ?_; intro w4 hw4))
        go_meet
        case rel =>
          simp only [World.size_alloc] at hs2 hst
          exact ⟨_, hw4.blk, (hw4.oth (w.heap.size + 1) (by omega)).trans hb3.out, hst _ (fun k hk => hw4.oth k (by omega)), hw4.kept (((((Kept.refl w).alloc _).alloc _).alloc _).trans hk2) (Nat.le_refl _), fun W hW => hst W (fun k hk => (hW k (by omega)).trans (hw4.oth k (by omega)))⟩
    cases h
    simp only [maxLen] at hmax
    have hS := fun n hn => MSrc.src (n := n) hc hn hcap
    have HS := Lib.hid hS; clear hS
    clear hc HSRC
    by_cases h20 : ms0.length ≤ 20
    · go_wp2_with (first
        | (refine wpList_append_fresh' rfl _ _ (by rfl) (w.heap.size + 1 + 1) rfl _ rfl (ms0.take ms0.length) ((HS.out _ (Nat.le_refl _)).kept ((((Kept.refl w).alloc _).alloc _).alloc _)) (by simp; try omega) ?_; intro v' w2 hm2 hk2 hst; obtain ⟨oa2, cap2, rfl⟩ := hm2.form; have hb2 := Lib.hid (HB.out _ w2 hk2); have hb3 := Lib.hid (HZ.out _ w2 hk2); have hs2 := hk2.size)
        | (refine wpList_store_one rfl _ _ rfl size_slices w.heap.size 4 rfl _ rfl rfl rfl [.int .i64 array, .int .i64 gen, .int .i64 member, .int .i64 blocks,   .slice (some ⟨b, off, none⟩) ms0.length cap0] 80 hb2.out (by simp) ?_; intro w4 hw4))
      go_meet
      case rel =>
        simp only [World.size_alloc] at hs2 hst
        rw [List.take_of_length_le h20]
        simp only [List.take_length] at hst
        exact ⟨_, hw4.blk, (hw4.oth (w.heap.size + 1) (by omega)).trans hb3.out, hst _ (fun k hk => hw4.oth k (by omega)), hw4.kept (((((Kept.refl w).alloc _).alloc _).alloc _).trans hk2) (Nat.le_refl _), fun W hW => hst W (fun k hk => (hW k (by omega)).trans (hw4.oth k (by omega)))⟩
    · go_wp2_with (first
        | (refine wpList_append_fresh' rfl _ _ (by rfl) (w.heap.size + 1 + 1) rfl _ rfl (ms0.take 20) ((HS.out 20 (by omega)).kept ((((Kept.refl w).alloc _).alloc _).alloc _)) (by simp; try omega) ?_; intro v' w2 hm2 hk2 hst; obtain ⟨oa2, cap2, rfl⟩ := hm2.form; have hb2 := Lib.hid (HB.out _ w2 hk2); have hb3 := Lib.hid (HZ.out _ w2 hk2); have hs2 := hk2.size)
        | (refine wpList_store_one rfl _ _ rfl size_slices w.heap.size 4 rfl _ rfl rfl rfl [.int .i64 array, .int .i64 gen, .int .i64 member, .int .i64 blocks,   .slice (some ⟨b, off, none⟩) ms0.length cap0] 80 hb2.out (by simp) ?_; intro w4 hw4))
      go_meet
      case rel =>
        simp only [World.size_alloc] at hs2 hst
        simp only [List.length_take] at hst
        exact ⟨_, hw4.blk, (hw4.oth (w.heap.size + 1) (by omega)).trans hb3.out, hst _ (fun k hk => hw4.oth k (by omega)), hw4.kept (((((Kept.refl w).alloc _).alloc _).alloc _).trans hk2) (Nat.le_refl _), fun W hW => hst W (fun k hk => (hW k (by omega)).trans (hw4.oth k (by omega)))⟩
  case rest =>
    obtain ⟨sl, h0, h1, hm, hk, hstay⟩ := hcut
    have H0 := Lib.hid h0; clear h0
    have H1 := Lib.hid h1; clear h1
    have HM := Lib.hid hm; clear hm
    have HST := Lib.hid hstay; clear hstay
    have HONE := Lib.hid (lab_one ⟨array, gen, member, blocks, []⟩ sl HM.out.one)
    go_wp2_with (first
      | (refine wpList_load_agg rfl _ rfl ty_lab w.heap.size 0 rfl [.int .i64 array, .int .i64 gen, .int .i64 member, .int .i64 blocks, sl] (by simpa using Cells.of_block H0.out) rfl ?_)
      | (refine wpList_store_agg rfl _ _ rfl ty_lab (w.heap.size + 1) 0 rfl [.int .i64 array, .int .i64 gen, .int .i64 member, .int .i64 blocks, sl] rfl rfl HONE.out [.int .i64 0, .int .i64 0, .int .i64 0, .int .i64 0, .slice none 0 0] 80 H1.out (by decide) ?_; intro w6 hw6))
    replace hw6 := hw6.all rfl
    refine bodyPost_ret (results_lab1 rfl _ _ (w.heap.size + 1) ⟨array, gen, member, blocks, ms0.take 20⟩ sl rfl hw6.cells) rfl ?_
    exact ⟨sl, rfl, HST.out w6 (fun k hk => hw6.oth k (by omega)), hw6.kept hk (by omega), fun W hW => HST.out W (fun k hk => (hW k (by omega)).trans (hw6.oth k (by omega)))⟩

end Go.Proofs.Ytglplhmclfekfaa
