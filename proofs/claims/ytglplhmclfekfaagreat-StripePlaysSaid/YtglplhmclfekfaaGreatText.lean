/- A region that draws its order, walked in the order of its text: loads and pure operations are taken at their turn under a condition S on the world, which every other operation but one last one (s, which waits for all others) keeps. After the kit's Derived.OrdersHeld. -/
import Derived.Test.YtglplhmclfekfaaGreatEA
import Derived.OrdersHeld
namespace Go.Proofs.YtglplhmclfekfaaGreat
open Go.RowKit
set_option linter.unusedVariables false
section
variable {P : Program} {ops : Array Oper} {Q : Exit → Act → World → Prop} {md : Region.Mode} {S : World → Prop} {s : Nat}

def wpAnyE (P : Program) (md : Region.Mode) (ops : Array Oper) (Q : Exit → Act → World → Prop) (S : World → Prop) (s : Nat) : Nat → Array Bool → Act → World → Prop
  | 0, listed, a, w => Region.ready md ops listed = [] ∧ Q .normal a w
  | fuel + 1, listed, a, w =>
    (Region.ready md ops listed = [] → Q .normal a w) ∧
    ∀ i ∈ Region.ready md ops listed, wpOp P ops Q i (fun a' w' => (i ≠ s → S w') ∧ wpAnyE P md ops Q S s fuel (listed.setIfInBounds i true) a' w') a w

theorem wpAny_of_E : ∀ (fuel : Nat) (listed : Array Bool) (a : Act) (w : World), wpAnyE P md ops Q S s fuel listed a w → wpAny P md ops Q fuel listed a w
  | 0, _, _, _, h => h
  | fuel + 1, _, _, _, h => ⟨h.1, fun i hi => wpOp_mono (fun a' w' h' => wpAny_of_E fuel _ a' w' h'.2) (h.2 i hi)⟩

/-- s is another one than i, and waits for it. -/
def waits (md : Region.Mode) (ops : Array Oper) (s i : Nat) : Bool :=
  s != i && (match ops[s]? with | some os => os.after.toList.any (fun e => Region.binds md e && e.on == i) | none => true)

theorem waits_not_ready {i : Nat} {listed : Array Bool} (h : waits md ops s i = true) (hi : i ∈ Region.ready md ops listed) : s ∉ Region.ready md ops listed := by
  intro hs
  obtain ⟨_, os, hos, hall⟩ := mem_ready.1 hs
  simp only [waits, hos, Bool.and_eq_true] at h
  obtain ⟨e, he, hb⟩ := List.any_eq_true.1 h.2
  simp only [Bool.and_eq_true, beq_iff_eq] at hb
  have h1 := hall e (by simpa using he) hb.1
  have h0 := (mem_ready.1 hi).1
  rw [hb.2] at h1
  rcases Nat.lt_or_ge i listed.size with h' | h'
  · simp [h'] at h0 h1; rw [h0] at h1; cases h1
  · simp [Array.getElem?_eq_none h'] at h1

theorem wpAnyE_first {i : Nat} {oi : Oper} {v : Value} (hi : ops[i]? = some oi) (hsel : ∀ (j : Nat) (o : Oper) cs b, ops[j]? = some o → o.op ≠ .select cs b)
    (hQ : ∀ c a w, Q (.panic c) (a.put oi.dst v) w → Q (.panic c) a w) (hsw : waits md ops s i = true) :
    ∀ (fuel : Nat) (listed : Array Bool) (a : Act) (w : World),
      (∀ j oj, ops[j]? = some oj → j ≠ i → listed.getD j true = false → (∀ e ∈ oj.after, Region.binds md e = true → e.on ≠ i) → oi.apart ops oj = true) →
      i ∈ Region.ready md ops listed → YieldsIf P ops S oi v a → S w →
      wpAnyE P md ops Q S s fuel (listed.setIfInBounds i true) (a.put oi.dst v) w → wpAnyE P md ops Q S s (fuel + 1) listed a w := by
  have hsi : i ≠ s := by
    intro h; subst h; simp [waits] at hsw
  intro fuel
  induction fuel with
  | zero =>
    intro listed a w _ hr hy hS H
    refine ⟨fun h => (by rw [h] at hr; cases hr), fun j hj => ?_⟩
    by_cases hji : j = i
    · subst hji; exact hy.wpOp hi hS ⟨fun _ => hS, H⟩
    · have := ready_mono hj hji
      rw [H.1] at this
      cases this
  | succ fuel ih =>
    intro listed a w hfree hr hy hS H
    refine ⟨fun h => (by rw [h] at hr; cases hr), fun j hj => ?_⟩
    by_cases hji : j = i
    · subst hji; exact hy.wpOp hi hS ⟨fun _ => hS, H⟩
    · have hjs : j ≠ s := fun e => waits_not_ready hsw hr (e ▸ hj)
      have h1 := H.2 j (ready_mono hj hji)
      obtain ⟨hjun, oj, hoj, hall⟩ := mem_ready.1 hj
      have hnot : ∀ e ∈ oj.after, Region.binds md e = true → e.on ≠ i := fun e he hb heq => by
        have h1 := hall e he hb
        have h0 := (mem_ready.1 hr).1
        rw [heq] at h1
        rcases Nat.lt_or_ge i listed.size with h' | h'
        · simp [h'] at h0 h1; rw [h0] at h1; cases h1
        · simp [Array.getElem?_eq_none h'] at h1
      have h2 := wpOp_putIf hoj (hfree j oj hoj hji hjun hnot) (fun cs b => hsel i oi cs b hi) (fun cs b => hsel j oj cs b hoj) hQ hy h1
      have hfree' : ∀ k ok, ops[k]? = some ok → k ≠ i → (listed.setIfInBounds j true).getD k true = false →
          (∀ e ∈ ok.after, Region.binds md e = true → e.on ≠ i) → oi.apart ops ok = true := fun k ok hk hki hun hno => by
        refine hfree k ok hk hki ?_ hno
        by_cases hjk : j = k
        · subst hjk; exact hjun
        · rw [getD_set_ne true hjk] at hun; exact hun
      refine wpOp_mono (fun a' w' h3 => ⟨h3.2.1, ih (listed.setIfInBounds j true) a' w' hfree' (ready_mono hr (Ne.symm hji)) h3.1 (h3.2.1 hjs) ?_⟩) h2
      rw [Array.setIfInBounds_comm _ _ hji]
      exact h3.2.2

/-- All that can be asked of the region's text when number i is taken: by the kernel. -/
def takes (md : Region.Mode) (ops : Array Oper) (listed : Array Bool) (s i : Nat) : Bool :=
  Region.noSelect ops && (Region.free md ops listed i && ((Region.ready md ops listed).contains i && waits md ops s i))

theorem wpAnyE_take {i : Nat} {oi : Oper} {v : Value} {fuel : Nat} {listed listed' : Array Bool} {a : Act} {w : World} (hi : ops[i]? = some oi)
    (hc : takes md ops listed s i = true) (hl : listed.setIfInBounds i true = listed')
    (hQ : ∀ c a w, Q (.panic c) (a.put oi.dst v) w → Q (.panic c) a w) (hS : S w) (hw : Region.wanted oi (yielded ops a.tmps) = true)
    (hy : ∀ w, S w → (execOp a.eval oi).run P w = .ok (.value v) w)
    (h : wpAnyE P md ops Q S s fuel listed' (a.put oi.dst v) w) : wpAnyE P md ops Q S s (fuel + 1) listed a w := by
  simp only [takes, Bool.and_eq_true] at hc
  subst hl
  exact wpAnyE_first hi (Region.noSelect_spec hc.1) hQ hc.2.2.2 fuel listed a w (Region.free_spec hi hc.2.1) (by simpa using hc.2.2.1) (.inl ⟨hw, hy⟩) hS h
/-- An operation whose guard says no. -/
theorem wpAnyE_skip {i : Nat} {oi : Oper} {fuel : Nat} {listed listed' : Array Bool} {a : Act} {w : World} (hi : ops[i]? = some oi)
    (hc : takes md ops listed s i = true) (hl : listed.setIfInBounds i true = listed')
    (hQ : ∀ c a w, Q (.panic c) (a.put oi.dst undef) w → Q (.panic c) a w) (hS : S w) (hw : Region.wanted oi (yielded ops a.tmps) = false)
    (h : wpAnyE P md ops Q S s fuel listed' (a.put oi.dst undef) w) : wpAnyE P md ops Q S s (fuel + 1) listed a w := by
  simp only [takes, Bool.and_eq_true] at hc
  subst hl
  exact wpAnyE_first hi (Region.noSelect_spec hc.1) hQ hc.2.2.2 fuel listed a w (Region.free_spec hi hc.2.1) (by simpa using hc.2.2.1) (.inr ⟨hw, rfl⟩) hS h

/-- Just one may come up: it is carried out. -/
theorem wpAnyE_one {i : Nat} {oi : Oper} {fuel : Nat} {listed listed' : Array Bool} {a : Act} {w : World} (hi : ops[i]? = some oi) (hr : Region.ready md ops listed = [i]) (hl : listed.setIfInBounds i true = listed')
    (hw : Region.wanted oi (yielded ops a.tmps) = true)
    (h : ∀ K : Act → World → Prop, (∀ a' w', (i ≠ s → S w') → wpAnyE P md ops Q S s fuel listed' a' w' → K a' w') → oi.wp P a w K Q) : wpAnyE P md ops Q S s (fuel + 1) listed a w := by
  subst hl
  refine ⟨fun h0 => (by rw [h0] at hr; cases hr), fun j hj => ?_⟩
  rw [hr] at hj
  obtain rfl : j = i := by simpa using hj
  unfold wpOp
  simp only [hi, hw, if_true]
  exact .inl (h _ fun a' w' h1 h2 => ⟨h1, h2⟩)

theorem wpAnyE_done {listed : Array Bool} {a : Act} {w : World} (hr : Region.ready md ops listed = []) (h : Q .normal a w) :
    ∀ fuel, wpAnyE P md ops Q S s fuel listed a w
  | 0 => ⟨hr, h⟩
  | _ + 1 => ⟨fun _ => h, by rw [hr]; simp⟩

theorem wp_region_E (S : World → Prop) (s : Nat) {id : Nat} {a : Act} {w : World} (hm : P.follows .mixedOrders = true)
    (h : wpAnyE P .any ops Q S s ops.size (Array.replicate ops.size false) a w.drew) : (Code.region id ops true).wp P Q a w :=
  wp_region_any hm (wpAny_of_E _ _ _ _ h)
/-- the post of a panic made False, where it hangs on the frame -/
def Calm (Q : Exit → Act → World → Prop) : Exit → Act → World → Prop
  | .panic _, _, _ => False
  | e, a, w => Q e a w
theorem wp_region_calm {id : Nat} {b : Bool} {a : Act} {w : World} (h : (Code.region id ops b).wp P (Calm Q) a w) : (Code.region id ops b).wp P Q a w :=
  wp_mono h fun e a w hq => by cases e <;> first | exact hq | exact hq.elim
theorem calm_put {o : Option Tmp} {v : Value} : ∀ c a w, Calm Q (.panic c) (a.put o v) w → Calm Q (.panic c) a w := fun _ _ _ h => h
theorem calm_normal {a : Act} {w : World} (h : Q .normal a w) : Calm Q .normal a w := h

end
end Go.Proofs.YtglplhmclfekfaaGreat
