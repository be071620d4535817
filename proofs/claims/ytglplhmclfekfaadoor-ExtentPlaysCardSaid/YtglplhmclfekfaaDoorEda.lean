/- Slices of ints that a law is handed; rows of bools. -/
import Derived.Test.YtglplhmclfekfaaDoorEba
import Derived.Test.YtglplhmclfekfaaDoorBits
import Derived.ProofKit
import Derived.OpenShut
import Derived.ChangeOld
import Derived.OwnWalk
import Derived.Deep.Slices
import Derived.Deep.Fields
import Derived.Deep.DeepCutAuto
namespace Go.Proofs.YtglplhmclfekfaaDoor
open Go.RowKit Go.ChangeMaps Go.MapKept
set_option linter.unusedVariables false
set_option linter.unusedSimpArgs false

theorem Addr.add_mk (b o j : Nat) : (⟨b, o, none⟩ : Addr).add j = ⟨b, o + j, none⟩ := by
  unfold Addr.add
  split
  · rename_i h; subst h; rfl
  · rfl
/-- a slice that reads l -/
def ISl (w : World) (v : Value) (l : List Int) : Prop := ∃ oa cap, v = .slice oa l.length cap ∧ l.length ≤ cap ∧ cap ≤ maxLen ∧ ∀ k (hk : k < l.length), ∃ b off, oa = some ⟨b, off, none⟩ ∧ w.cell? ⟨b, off + k, none⟩ = some (.int .i64 l[k])
theorem ISl.kept {w w' : World} {v : Value} {l : List Int} (h : ISl w v l) (hk : Kept w w') : ISl w' v l := by
  obtain ⟨oa, cap, rfl, h1, h2, h3⟩ := h
  refine ⟨oa, cap, rfl, h1, h2, fun k hkl => ?_⟩
  obtain ⟨b, off, e, hc⟩ := h3 k hkl
  exact ⟨b, off, e, hk.cell' hc⟩
theorem ISl.at {w : World} {oa : Option Addr} {n cap : Nat} {l : List Int} (h : ISl w (.slice oa n cap) l) (k : Nat) (hk : k < l.length) : ∃ b off, oa = some ⟨b, off, none⟩ ∧ w.cell? ⟨b, off + k, none⟩ = some (.int .i64 l[k]) := by
  obtain ⟨oa', cap', e, h1, h2, h3⟩ := h
  cases e
  exact h3 k hk
theorem ISl.len {w : World} {oa : Option Addr} {n cap : Nat} {l : List Int} (h : ISl w (.slice oa n cap) l) : n = l.length ∧ l.length ≤ maxLen := by
  obtain ⟨oa', cap', e, h1, h2, h3⟩ := h
  cases e
  exact ⟨rfl, Nat.le_trans h1 h2⟩
theorem open_isl {H : Type} {enc : TypeId × Value → H} {w : World} {base : Nat} {spare : Nat → Bool} {held : Bool} {fuel : Nat} {v : Value} {x : DataW H × List MemPlace}
    (h : DataW.trod enc Tryd.prog w base spare held fuel 22 [v] = some x) : ∃ l, ISl w v l := by
  rcases Go.ChangeShapes.open_ints Tryd.underlying22 Tryd.underlying3 (by kernel_rfl) h with ⟨hcs, _⟩ | ⟨a, len, cap, zs, hcs, _, hl, hm, hlen, _, hc, _⟩
  · simp at hcs; subst hcs
    exact ⟨[], none, 0, rfl, Nat.le_refl _, by decide, fun k hk => by cases hk⟩
  · simp at hcs; subst hcs
    have hzl : len ≤ zs.length := by rw [hlen]; split <;> omega
    refine ⟨zs.take len, some a, cap, by simp [Nat.min_eq_left hzl], by simp; omega, hm, fun k hk => ?_⟩
    have hk' : k < zs.length := by simp at hk; omega
    have h1 := hc k hk'
    obtain ⟨b, off, spot⟩ := a
    have hsp := World.cell?_spot (hc 0 (by omega))
    have hspot : spot = none := by simpa [Addr.add] using hsp
    subst hspot
    refine ⟨b, off, rfl, ?_⟩
    rw [Addr.add_mk] at h1
    rw [h1]; simp [List.getD_eq_getElem?_getD, hk']
def bools (l : List Bool) : List Value := l.map Value.bool
theorem bools_length (l : List Bool) : (bools l).length = l.length := by simp [bools]
theorem bools_set (l : List Bool) (i : Nat) (x : Bool) : (bools l).set i (.bool x) = bools (l.set i x) := by simp [bools, List.map_set]
def noB (n : Nat) : List Bool := List.replicate n false
theorem noB_length (n : Nat) : (noB n).length = n := by simp [noB]
theorem size_bool : (Tryd.prog.info? 4).map (·.size) = some 1 := by kernel_rfl
/-- the law's bools in block B -/
def BRow (w : World) (B : Nat) (t : TypeId) (lv : List Bool) : Prop := w.heap[B]? = some (.cells (bools lv).toArray t (0, 0))
theorem BRow.at {w : World} {B : Nat} {t : TypeId} {lv : List Bool} (h : BRow w B t lv) {i : Nat} (hi : i < lv.length) : w.cell? ⟨B, i, none⟩ = some (.bool lv[i]) := by
  rw [cell_of_row _ _ _ _ _ _ h]; simp [bools, hi]
section
variable {ops : Array Oper} {rest : List Oper} {o : Oper} {a : Act} {Q : Exit → Act → World → Prop} {w : World}
theorem wpList_set_bool {B : Nat} {t : TypeId} {lv : List Bool} (h : BRow w B t lv) {i : Nat} (hi : i < lv.length) (x : Bool) (hgd : Region.wanted o (yielded ops a.tmps) = true) (ad y : Operand) (ho : o.op = .store 4 ad y)
    (had : a.eval ad = .pointer (some ⟨B, i, none⟩)) (hy : a.eval y = .bool x)
    (hK : ∀ w1, Wrote w w1 B (bools (lv.set i x)) t → wpList Tryd.prog ops Q rest (a.put o.dst undef) w1) : wpList Tryd.prog ops Q (o :: rest) a w :=
  wpList_set_cell hgd ad y ho size_bool B i had (.bool x) hy rfl rfl (bools lv) t h (by rw [bools_length]; exact hi) fun w1 hw => hK w1 (by rw [bools_set] at hw; exact hw)
end

/-- a map whose one member, 0, has n extents, taken as tk says -/
def eL (n : Nat) (s : Nat → Bool) : XT := XT.none_.set 0 n s
theorem eL_0 (n : Nat) (s : Nat → Bool) : eL n s 0 = some (n, s) := rfl
theorem eL_set (n : Nat) (s t : Nat → Bool) : (eL n s).set 0 n t = eL n t := by
  funext x; unfold eL XT.set; split <;> rfl
def tkF (tk : List Bool) (k : Nat) : Nat → Bool := fun j => decide (j < k) || tk[j]?.getD false
theorem tkF_set (tk : List Bool) (s : Nat) (hs : s < tk.length) : setS (tkF tk 0) s true = tkF (tk.set s true) 0 := by
  funext j; unfold setS tkF
  by_cases h : j = s
  · subst h; simp [hs]
  · rw [if_neg h, List.getElem?_set_ne (Ne.symm h)]
theorem tkF_same (tk : List Bool) (s : Nat) (hs : s < tk.length) (h : tk[s] = true) : tk.set s true = tk := by
  rw [← h]; exact List.set_getElem_self hs
theorem tkF_0 (tk : List Bool) (s : Nat) (hs : s < tk.length) : tkF tk 0 s = tk[s] := by unfold tkF; simp [hs]
theorem tkF_next (tk : List Bool) (k : Nat) : setS (tkF tk k) k true = tkF tk (k + 1) := by
  funext j; unfold setS tkF
  by_cases h : j = k
  · subst h; simp
  · rw [if_neg h]
    congr 1
    exact decide_eq_decide.2 (by omega)
theorem tkF_skip (tk : List Bool) (k : Nat) (hk : k < tk.length) (h : tk[k] = true) : tkF tk k = tkF tk (k + 1) := by
  rw [← tkF_next]; funext j; unfold setS
  by_cases e : j = k
  · subst e; rw [if_pos rfl]; unfold tkF; simp [hk, h]
  · rw [if_neg e]
theorem tkF_k (tk : List Bool) (k : Nat) (hk : k < tk.length) (h : tk[k] = false) : tkF tk k k = false := by unfold tkF; simp [hk, h]
theorem tkF_lt (tk : List Bool) (k j : Nat) (h : j < k) : tkF tk k j = true := by unfold tkF; simp [h]
theorem cnt_all (n : Nat) (s : Nat → Bool) (h : ∀ j, j < n → s j = true) : cntS n s = n := by
  unfold cntS
  rw [List.filter_eq_self.2 (fun j hj => h j (List.mem_range.1 hj)), List.length_range]
theorem tkF_noB (n : Nat) : tkF (noB n) 0 = fun _ => false := by
  funext j; unfold tkF noB
  rw [List.getElem?_replicate]; simp only [Nat.not_lt_zero, decide_false, Bool.false_or]; split <;> rfl
theorem chg_eL (n : Nat) (tk : List Bool) (s : Nat) (hn : tk.length = n) (hs : s < tk.length) : chgX true (eL n (tkF tk 0)) 0 (114 + (s : Int) * 8) = (if tk[s] then 9 else 0, eL n (tkF (tk.set s true) 0)) := by
  rw [chg_at true (eL_0 n _) (by omega), tkF_0 tk s hs]
  cases h : tk[s] with
  | true => rw [if_pos rfl, tkF_same tk s hs h]; rfl
  | false => rw [if_neg (by simp), eL_set, tkF_set tk s hs]; rfl
theorem made_bools (n : Nat) : (madeCells (Value.bool false).cells n).toList = bools (noB n) := by
  apply List.ext_getElem
  · simp [bools, noB, size_madeCells]
  · intro i h1 h2
    simp [madeCells, bools, noB, Value.cells, Nat.mod_one]
end Go.Proofs.YtglplhmclfekfaaDoor
