/- label.in, label.may, label.Right. -/
import Derived.Test.YtcbghpcohbgcjaaBase
namespace Go.Proofs.Ytcbghpcohbgcjaa
open Go.RowKit
set_option linter.unusedVariables false

def inB (n a b : Int) : Bool := decide (a ≤ n) && decide (n ≤ b)
theorem inB_false1 {n a b : Int} (h : n < a) : inB n a b = false := by simp [inB]; omega
theorem inB_eq {n a b : Int} (h : a ≤ n) : inB n a b = decide (n ≤ b) := by simp [inB]; omega

set_option maxHeartbeats 400000 in
theorem label_in (n a b : Int) (w : World) :
    Calls Try.prog 101 #[.int .i64 n, .int .i64 a, .int .i64 b] w fun e w' => e = .returned (.bool (inB n a b)) ∧ w = w' := by
  go_enter Try.func101, Try.ntmps101
  go_wp2
  · go_ret
    exact ⟨by rw [inB_eq (by assumption)]; rfl, rfl⟩
  · go_ret
    exact ⟨by rw [inB_false1 (by assumption)]; rfl, rfl⟩

/-- a member -/
structure Mem where
  id : Int
  sec : Int
  st : Int
def Mem.vals (m : Mem) : List Value := [.int .i64 m.id, .int .i64 m.sec, .int .i64 m.st]
def Mem.val (m : Mem) : Value := .agg #[.int .i64 m.id, .int .i64 m.sec, .int .i64 m.st]
def mayB (m : Mem) : Bool := inB m.id 0 31 && (inB m.sec 160 4096 && inB m.st 0 2)

set_option maxHeartbeats 400000 in
theorem label_may (x y z : Int) (w : World) :
    Calls Try.prog 102 #[.agg #[.int .i64 x, .int .i64 y, .int .i64 z]] w fun e w' => e = .returned (.bool (mayB ⟨x, y, z⟩)) ∧ Kept w w' := by
  have hB : ∀ o, Kept w (w.alloc o) := fun o => (Kept.refl _).alloc o
  go_enter Try.func102, Try.ntmps102
  go_wp2_with (go_at_call 101; refine (label_in _ _ _ _).mono ?_; rintro e w' ⟨rfl, rfl⟩)
  all_goals (go_ret; refine ⟨?_, hB _⟩; simp [mayB, *])

set_option maxHeartbeats 400000 in
theorem label_rightF (x y z own : Int) (b off : Nat) (w : World) (hb : w.cell? ⟨b, off + 2, none⟩ = some (.int .i64 own)) :
    Calls Try.prog 104 #[.agg #[.int .i64 x, .int .i64 y, .int .i64 z], .pointer (some ⟨b, off, none⟩)] w fun e w' => e = .returned (.bool (x == own)) ∧ Kept w w' := by
  have hB : ∀ o, Kept w (w.alloc o) := fun o => (Kept.refl _).alloc o
  have hlt := World.block_lt_of_cell? _ _ hb
  go_enter Try.func104, Try.ntmps104
  go_wp2
  go_ret
  exact ⟨rfl, hB _⟩

/-- index of the first with that id, or -1 -/
def idxOf (ms : List Mem) (own : Int) : Int := match ms.findIdx? (fun m => m.id == own) with | some k => k | none => -1
theorem idxOf_hit {ms : List Mem} {own : Int} {k : Nat} (hk : k < ms.length) (hno : ∀ i (h : i < ms.length), i < k → ms[i].id ≠ own) (h : ms[k].id = own) : idxOf ms own = k := by
  have : ms.findIdx? (fun m => m.id == own) = some k := by
    rw [List.findIdx?_eq_some_iff_getElem]
    exact ⟨hk, by simpa using h, fun j hj => by simpa using hno j (by omega) hj⟩
  simp [idxOf, this]
theorem idxOf_miss {ms : List Mem} {own : Int} (hno : ∀ i (h : i < ms.length), ms[i].id ≠ own) : idxOf ms own = -1 := by
  have : ms.findIdx? (fun m => m.id == own) = none := by
    rw [List.findIdx?_eq_none_iff]
    intro x hx
    obtain ⟨i, hi, rfl⟩ := List.getElem_of_mem hx
    simpa using hno i hi
  simp [idxOf, this]
def hasOwn (ms : List Mem) (own : Int) : Bool := ms.any fun m => m.id == own
theorem hasOwn_idx (ms : List Mem) (own : Int) : decide (0 ≤ idxOf ms own) = hasOwn ms own := by
  unfold idxOf hasOwn
  cases h : ms.findIdx? (fun m => m.id == own) with
  | none => rw [List.findIdx?_eq_none_iff] at h; simpa using h
  | some k =>
    rw [List.findIdx?_eq_some_iff_getElem] at h
    obtain ⟨hk, hp, _⟩ := h
    simp only [Int.natCast_nonneg, decide_true]
    symm; rw [List.any_eq_true]; exact ⟨_, List.getElem_mem hk, hp⟩

/-- the members' row from ⟨b, off⟩ on reads ms -/
def MRow (w : World) (b off : Nat) (ms : List Mem) : Prop :=
  ∀ i (h : i < ms.length), w.cell? ⟨b, off + i * 3, none⟩ = some (.int .i64 ms[i].id) ∧ w.cell? ⟨b, off + i * 3 + 1, none⟩ = some (.int .i64 ms[i].sec) ∧ w.cell? ⟨b, off + i * 3 + 2, none⟩ = some (.int .i64 ms[i].st)
theorem MRow.kept {w w' : World} {b off : Nat} {ms : List Mem} (h : MRow w b off ms) (hb : Kept w w') : MRow w' b off ms := fun i hi =>
  let ⟨h0, h1, h2⟩ := h i hi
  ⟨hb.cell' h0, hb.cell' h1, hb.cell' h2⟩
/-- a slice that reads ms: nil, or a row -/
def MSl (w : World) (v : Value) (ms : List Mem) : Prop :=
  (ms = [] ∧ v = .slice none 0 0) ∨ ∃ b off cap, v = .slice (some ⟨b, off, none⟩) ms.length cap ∧ MRow w b off ms
theorem MSl.kept {w w' : World} {v : Value} {ms : List Mem} (h : MSl w v ms) (hb : Kept w w') : MSl w' v ms := by
  rcases h with h | ⟨b, off, cap, rfl, h⟩
  · exact .inl h
  · exact .inr ⟨b, off, cap, rfl, h.kept hb⟩

set_option maxHeartbeats 800000 in
theorem label_indexF (ms : List Mem) (own : Int) (v : Value) (lb lo : Nat) (w : World) (hlen : ms.length ≤ 9223372036854775807)
    (hm : MSl w v ms) (hb : w.cell? ⟨lb, lo + 2, none⟩ = some (.int .i64 own)) :
    Calls Try.prog 123 #[v, .func (.func 104) #[] #[.pointer (some ⟨lb, lo, none⟩)]] w fun e w' => e = .returned (.int .i64 (idxOf ms own)) ∧ Kept w w' := by
  have hlb := World.block_lt_of_cell? _ _ hb
  rcases hm with ⟨rfl, rfl⟩ | ⟨b, off, cap, rfl, hm⟩
  · go_enter Try.func123, Try.ntmps123
    go_wp2
    refine wp_loop_once ?_
    go_wp2
    go_ret
    exact ⟨rfl, Kept.refl _⟩
  have HM := Lib.hid hm; clear hm
  go_enter Try.func123, Try.ntmps123
  go_wp2
  go_loopw [8] (fun i wr => ∃ k : Nat, k ≤ ms.length ∧ i = .int .i64 k ∧ Kept w wr ∧ ∀ i (h : i < ms.length), i < k → ms[i].id ≠ own) (fun i _ => ms.length - (intOf i).toNat)
  case atStart => exact ⟨0, Nat.zero_le _, rfl, Kept.refl _, fun _ _ h => by omega⟩
  case round =>
    obtain ⟨k, hk, rfl, hbel, hno⟩ := hrel
    have hsz := hbel.size
    replace hb := hbel.cell' hb
    have HN := Lib.hid hno; clear hno
    by_cases hlt : k < ms.length
    · obtain ⟨h0, h1, h2⟩ := (HM.out.kept hbel) k hlt
      by_cases hown : (ms[k].id == own) = true
      · go_wp2_with (go_at_call 104; refine (label_rightF _ _ _ own _ _ _ hb).mono ?_; rintro e w' ⟨rfl, hb1⟩)
        go_ret
        exact ⟨by rw [idxOf_hit hlt HN.out (by simpa using hown)]; rfl, hbel.trans hb1⟩
      · have hown' : (ms[k].id == own) = false := by simpa using hown
        clear hown
        go_wp2_with (go_at_call 104; refine (label_rightF _ _ _ own _ _ _ hb).mono ?_; rintro e w' ⟨rfl, hb1⟩)
        go_roundw
        case rel => exact ⟨k + 1, by omega, by go_num, hbel.trans hb1, fun i h hi => by
          rcases Nat.lt_succ_iff_lt_or_eq.1 hi with h' | rfl
          · exact HN.out i h h'
          · simpa using hown'⟩
        case measure => simp [intOf]; omega
    · go_wp2
      go_ret
      exact ⟨by rw [idxOf_miss (fun i h => HN.out i h (by omega))]; rfl, hbel⟩

set_option maxHeartbeats 400000 in
theorem label_containsF (ms : List Mem) (own : Int) (v : Value) (lb lo : Nat) (w : World) (hlen : ms.length ≤ 9223372036854775807)
    (hm : MSl w v ms) (hb : w.cell? ⟨lb, lo + 2, none⟩ = some (.int .i64 own)) :
    Calls Try.prog 103 #[v, .func (.func 104) #[] #[.pointer (some ⟨lb, lo, none⟩)]] w fun e w' => e = .returned (.bool (hasOwn ms own)) ∧ Kept w w' := by
  go_enter Try.func103, Try.ntmps103
  go_wp2_with (go_at_call 123; refine (label_indexF ms own v lb lo _ hlen hm hb).mono ?_; rintro e w' ⟨rfl, hb1⟩)
  go_ret
  exact ⟨by rw [← hasOwn_idx]; rfl, hb1⟩

end Go.Proofs.Ytcbghpcohbgcjaa
