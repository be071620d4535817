/- UsageHoles: what the table and the law's own array say of one another. -/
import Derived.Test.YtpnpconphpbcaaaUmo
namespace Go.Proofs.Ytpnpconphpbcaaa
open Go.RowKit Go.ChangeMaps Go.MapKept
set_option linter.unusedVariables false
set_option linter.unusedSimpArgs false

def bools (l : List Bool) : List Value := l.map Value.bool
theorem bools_length (l : List Bool) : (bools l).length = l.length := by simp [bools]
theorem bools_set (l : List Bool) (i : Nat) (x : Bool) : (bools l).set i (.bool x) = bools (l.set i x) := by simp [bools, List.map_set]
def noB (n : Nat) : List Bool := List.replicate n false
theorem noB_length (n : Nat) : (noB n).length = n := by simp [noB]
theorem size_bool : (Try.prog.info? 4).map (·.size) = some 1 := by kernel_rfl
theorem zero_128 : ∀ w, (zeroValue 48).run Try.prog w = .ok (.agg (bools (noB 128)).toArray) w := fun w => by
  have h1 : (Try.prog.info? 48).map (·.zero) = some (some (.agg (bools (noB 128)).toArray)) := by kernel_rfl
  cases hi : Try.prog.info? 48 with
  | none => simp [hi] at h1
  | some i =>
    have hz : i.zero = some (.agg (bools (noB 128)).toArray) := by simpa [hi] using h1
    simp [zeroValue, typeInfo, hi, hz]
/-- the law's array of bools in block B -/
def BRow (w : World) (B : Nat) (t : TypeId) (lv : List Bool) : Prop := w.heap[B]? = some (.cells (bools lv).toArray t (0, 0))
theorem BRow.at {w : World} {B : Nat} {t : TypeId} {lv : List Bool} (h : BRow w B t lv) {i : Nat} (hi : i < lv.length) : w.cell? ⟨B, i, none⟩ = some (.bool lv[i]) := by
  rw [cell_of_row _ _ _ _ _ _ h]; simp [bools, hi]
section
variable {ops : Array Oper} {rest : List Oper} {o : Oper} {a : Act} {Q : Exit → Act → World → Prop} {w : World}
theorem wpList_set_bool {B : Nat} {t : TypeId} {lv : List Bool} (h : BRow w B t lv) {i : Nat} (hi : i < lv.length) (x : Bool) (hgd : Region.wanted o (yielded ops a.tmps) = true) (ad y : Operand) (ho : o.op = .store 4 ad y)
    (had : a.eval ad = .pointer (some ⟨B, i, none⟩)) (hy : a.eval y = .bool x)
    (hK : ∀ w1, Wrote w w1 B (bools (lv.set i x)) t → wpList Try.prog ops Q rest (a.put o.dst undef) w1) : wpList Try.prog ops Q (o :: rest) a w :=
  wpList_set_cell hgd ad y ho size_bool B i had (.bool x) hy rfl rfl (bools lv) t h (by rw [bools_length]; exact hi) fun w1 hw => hK w1 (by rw [bools_set] at hw; exact hw)
end

/-- one group, 4, of n slots, and which are live -/
structure HV (T : Tab) (n : Nat) (l : List Int) (lv : List Bool) : Prop where
  ok : T.Ok
  g4 : T.g 4 = some l
  only : ∀ m, m ≠ 4 → T.g m = none
  len : l.length = n
  lvl : lv.length = 128
  iff : ∀ i (h : i < l.length) (h' : i < lv.length), (l[i] = -1 ↔ lv[i] = false)
theorem HV.slot {T : Tab} {n : Nat} {l : List Int} {lv : List Bool} (h : HV T n l lv) {i : Nat} (hi : i < l.length) : T.slot 4 i = some l[i] := by
  rw [Tab.slot_of h.g4, List.getElem?_eq_getElem hi]
theorem HV.fresh {T : Tab} {n : Nat} {l : List Int} {lv : List Bool} (h : HV T n l lv) {b : Int} (hb : ∀ i (hi : i < l.length), l[i] ≠ b) : T.f b = none := by
  cases hf : T.f b with
  | none => rfl
  | some s =>
    obtain ⟨m, s⟩ := s
    obtain ⟨_, i, rfl, hs⟩ := h.ok.at_ b m s hf
    by_cases hm : m = 4
    · subst hm
      obtain ⟨l', hl', hi, e⟩ := Tab.slot_some hs
      rw [h.g4] at hl'; injection hl' with hl'; subst hl'
      exact absurd e (hb i hi)
    · obtain ⟨l', hl', _⟩ := Tab.slot_some hs
      rw [h.only m hm] at hl'; cases hl'
theorem HV.put {T : Tab} {n : Nat} {l : List Int} {lv : List Bool} (h : HV T n l lv) (hn : n ≤ 128) {s : Nat} (hs : s < l.length) (hd : l[s] = -1) {b : Int} (hb0 : 0 ≤ b) (hb : ∀ i (hi : i < l.length), l[i] ≠ b) : HV (T.put 4 s b) n (l.set s b) (lv.set s true) := by
  have hf := h.fresh hb
  have hsl : T.slot 4 s = some (-1) := by rw [h.slot hs, hd]
  have e : T.put 4 s b = (T.setF b (4, (s : Int))).setG 4 s b := by simp [Tab.put, Tab.clr, hf]
  refine ⟨h.ok.put hsl hb0, ?_, fun m hm => ?_, by simp [h.len], by simp [h.lvl], fun i hi hi' => ?_⟩
  · rw [e]; simp [Tab.setG, Tab.setF, h.g4]
  · rw [e]; simp [Tab.setG, Tab.setF, hm, h.only m hm]
  · simp only [List.getElem_set]
    by_cases hsi : s = i
    · subst hsi; simp; omega
    · simp only [hsi, if_false]
      exact h.iff i (by simpa using hi) (by simpa using hi')
theorem HV.zero (n : Nat) (h1 : 1 ≤ n) (h2 : n ≤ 128) : HV (Tab.empty.open_ 4 n) n (List.replicate n (-1)) (noB 128) := by
  refine ⟨Tab.Ok.empty.open_ rfl h1 (by omega), by simp [Tab.open_], fun m hm => by simp [Tab.open_, hm, Tab.empty], by simp, noB_length _, fun i hi hi' => ?_⟩
  simp only [List.getElem_replicate, noB, true_iff]
theorem HV.hole {T : Tab} {n : Nat} {l : List Int} {lv : List Bool} (h : HV T n l lv) (hn : n ≤ 128) : (idxI l (-1) = -1 ∧ ∀ i (hi : i < l.length), l[i] ≠ -1) ∨
    ∃ k : Nat, idxI l (-1) = k ∧ ∃ hk : k < l.length, l[k] = -1 ∧ k < 128 ∧ (∀ hk' : k < lv.length, lv[k] = false) ∧ ∀ i (hi : i < lv.length), i < k → lv[i] = true := by
  rcases idxI_cases l (-1) with h1 | ⟨k, hk, h1, h2, h3⟩
  · exact .inl h1
  · have hl := h.len
    have hlv := h.lvl
    refine .inr ⟨k, h1, hk, h2, by omega, fun hk' => (h.iff k hk hk').1 h2, fun i hi hik => ?_⟩
    cases hb : lv[i] with
    | true => rfl
    | false => exact absurd ((h.iff i (by omega) hi).2 hb) (h3 i (by omega) hik)
/-- how many of the array are not live -/
def deadB (w : World) (B : Nat) : Nat := match w.heap[B]? with | some (.cells c _ _) => (c.toList.filter (fun v => match v with | .bool x => !x | _ => false)).length | _ => 0
theorem deadB_eq {w : World} {B : Nat} {t : TypeId} {lv : List Bool} (h : BRow w B t lv) : deadB w B = (lv.filter (fun x => !x)).length := by
  unfold deadB
  rw [h]
  dsimp only
  have : ∀ l : List Bool, ((bools l).filter (fun v => match v with | .bool x => !x | _ => false)).length = (l.filter (fun x => !x)).length := by
    intro l
    induction l with
    | nil => rfl
    | cons x l ih => cases x <;> simp [bools, List.filter_cons] at ih ⊢ <;> exact ih
  simpa using this lv
theorem dead_set (lv : List Bool) : ∀ (k : Nat) (hk : k < lv.length), lv[k] = false → ((lv.set k true).filter (fun x => !x)).length < (lv.filter (fun x => !x)).length := by
  induction lv with
  | nil => intro k hk; cases hk
  | cons x lv ih =>
    intro k hk h
    cases k with
    | zero => simp at h; subst h; simp [List.filter_cons]
    | succ k =>
      have := ih k (by simpa using hk) (by simpa using h)
      cases x <;> simp [List.filter_cons] <;> simpa using this
section
variable {w W : World} {R : Nat → Prop} {p : Nat} {T : Tab}
theorem own_FindK (h : Own w R W p T) (b : Int) (r : Option (Int × Int)) (hr : T.f b = r) :
    Calls Try.prog 28 #[.pointer (some ⟨p, 0, none⟩), .int .i64 b] W fun e w' => e = .returned (findV r) ∧ Own w R w' p T ∧ Kept W w' := by
  have H := h
  obtain ⟨S, h1, h2, h3, h4⟩ := h
  exact (tab_Find h1 b r hr).mono fun e w' ⟨he, hk⟩ => ⟨he, (H.kept hk).1, hk⟩
end
end Go.Proofs.Ytpnpconphpbcaaa
