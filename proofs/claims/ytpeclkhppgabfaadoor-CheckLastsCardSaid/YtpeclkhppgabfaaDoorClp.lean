/- Two areas of checkpoints, of any generations, on three disks: what may be loaded. Plain Lean. -/
import Derived.Test.YtpeclkhppgabfaaDoorNwp
import Derived.Test.YtpeclkhppgabfaaDoorArc
namespace Go.Proofs.YtpeclkhppgabfaaDoor
open Go.RowKit
set_option linter.unusedVariables false
set_option linter.unusedSimpArgs false

def partG (X : Int → List Int) (g : Int) (i : Nat) : List Int := (splitB g 0 (X g)).getD i []
/-- all parts of a generation lie in the area, on one disk or another -/
def Whole (N : Nat → Nat → List Int) (X : Int → List Int) (s : Int) (a : Nat) (g : Int) : Prop := (0 ≤ g ∧ g ≤ s) ∧ ∀ i, i < partsN (X g).length → ∃ d, d < 3 ∧ N d (50 + 32 * a + i) = partG X g i
structure PC (N : Nat → Nat → List Int) (X : Int → List Int) (s : Int) (A : Nat) (G : Int) (M : List Int → Prop) : Prop where
  hA : A < 2
  hG : 0 ≤ G ∧ G ≤ s
  hs : s ≤ 100
  len : ∀ g, 0 ≤ g → g ≤ s → (X g).length ≤ 1696
  byte : ∀ g, 0 ≤ g → g ≤ s → ∀ y ∈ X g, IsByte y
  only : ∀ a, a < 2 → ∀ d, d < 3 → ∀ i, i < 32 → cpPart (N d (50 + 32 * a + i)) = true → ∃ g, 0 ≤ g ∧ g ≤ s ∧ i < partsN (X g).length ∧ N d (50 + 32 * a + i) = partG X g i
  full : ∀ d, d < 3 → ∀ i, i < partsN (X G).length → N d (50 + 32 * A + i) = partG X G i
  inM : M (X G)
  top : ∀ g, Whole N X s A g → g ≤ G
  oth : ∀ g, Whole N X s (1 - A) g → g ≤ G ∨ M (X g)
section
variable {N N' : Nat → Nat → List Int} {X : Int → List Int} {s : Int} {A : Nat} {G : Int} {M : List Int → Prop}
theorem PC.tag (h : PC N X s A G M) {g : Int} (hg : 0 ≤ g ∧ g ≤ s) {i : Nat} (hi : i < partsN (X g).length) : isTag (partG X g i) = true ∧ tagRaw (partG X g i) = ⟨g, 0, i, partsN (X g).length, (pieceB (X g) i).length⟩ := by
  have hs := h.hs
  have := h.len g hg.1 hg.2
  exact RecRange.tag (gen := g) (num := 0) (b := X g) ⟨⟨hg.1, by omega⟩, by decide, by omega⟩ hi
theorem PC.cp (h : PC N X s A G M) {g : Int} (hg : 0 ≤ g ∧ g ≤ s) {i : Nat} (hi : i < partsN (X g).length) : cpPart (partG X g i) = true := by
  have ht := h.tag hg hi
  unfold cpPart; rw [ht.1, ht.2]; rfl
theorem PC.i32 (h : PC N X s A G M) {g : Int} (hg : 0 ≤ g ∧ g ≤ s) {i : Nat} (hi : i < partsN (X g).length) : i < 32 := by
  have := parts_le (h.len g hg.1 hg.2); omega
theorem PC.pos (h : PC N X s A G M) {g : Int} (hg : 0 ≤ g ∧ g ≤ s) : 1 ≤ partsN (X g).length := (partsN_pos (show (X g).length ≤ 2120 by have := h.len g hg.1 hg.2; omega)).1
theorem PC.areaC (h : PC N X s A G M) {al : List Nat} (hal : ∀ d ∈ al, d < 3) {a : Nat} (ha : a < 2) : AreaC (rowsN N al a) (fun g => 0 ≤ g ∧ g ≤ s) X := by
  have hs := h.hs
  refine ⟨fun g hg => ⟨hg.1, by have := hg.2; omega⟩, fun g hg => h.len g hg.1 hg.2, fun i hi y hy => ?_⟩
  rw [rowsN_at N al a hi, List.mem_filter, List.mem_map] at hy
  obtain ⟨⟨d, hd, rfl⟩, hc⟩ := hy
  obtain ⟨g, g0, g1, h2, h3⟩ := h.only a ha d (hal d hd) i hi hc
  exact ⟨g, ⟨g0, g1⟩, h2, h3⟩
theorem PC.whole_of (h : PC N X s A G M) {al : List Nat} (hal : ∀ d ∈ al, d < 3) {a : Nat} {g : Int} (hc : AllC (rowsN N al a) (fun g => 0 ≤ g ∧ g ≤ s) X g) : Whole N X s a g := by
  refine ⟨hc.1, fun i hi => ?_⟩
  have hm := hc.2 i hi
  rw [rowsN_at N al a (h.i32 hc.1 hi), List.mem_filter, List.mem_map] at hm
  obtain ⟨⟨d, hd, e⟩, _⟩ := hm
  exact ⟨d, hal d hd, e⟩
theorem PC.allC_of (h : PC N X s A G M) {al : List Nat} {a : Nat} {g : Int} (hg : 0 ≤ g ∧ g ≤ s) (hw : ∀ i, i < partsN (X g).length → ∃ d ∈ al, N d (50 + 32 * a + i) = partG X g i) : AllC (rowsN N al a) (fun g => 0 ≤ g ∧ g ≤ s) X g := by
  refine ⟨hg, fun i hi => ?_⟩
  obtain ⟨d, hd, e⟩ := hw i hi
  rw [rowsN_at N al a (h.i32 hg hi), List.mem_filter, List.mem_map]
  exact ⟨⟨d, hd, e⟩, h.cp hg hi⟩
/-- what Load tells, of whichever members -/
theorem PC.load {T : BankT} {t : Nat} {dd : Nat → Bool} (h : PC N X s A G M) (hq : Quiet T 3 200 dd N t) {al : List Nat} (hal : ([0, 1, 2] : List Nat).filter (fun d => !dd d) = al) (h0 : al ≠ []) :
    ∃ (b : Best) (a : Nat), loadC T.read [0, 1, 2] = (b, 0) ∧ a < 2 ∧ b.area = (a : Int) ∧ b.bytes = X b.gen ∧ M (X b.gen) ∧ AllC (rowsN N al a) (fun g => 0 ≤ g ∧ g ≤ s) X b.gen ∧
      (∀ a', a' < 2 → ∀ g, AllC (rowsN N al a') (fun g => 0 ≤ g ∧ g ≤ s) X g → g ≤ b.gen) ∧ (0 ≤ b.gen ∧ b.gen ≤ b.seen ∧ b.seen ≤ s) ∧
      (∀ a', a' < 2 → ∀ d ∈ al, ∀ i, i < 32 → cpPart (N d (50 + 32 * a' + i)) = true → (tagRaw (N d (50 + 32 * a' + i))).gen ≤ b.seen) := by
  have hls : ∀ d ∈ ([0, 1, 2] : List Nat), d < 3 := fun d hd => by simp at hd; omega
  have hal3 : ∀ d ∈ al, d < 3 := fun d hd => by rw [← hal] at hd; exact hls d (List.mem_filter.1 hd).1
  have hl := hq.load (by decide) [0, 1, 2] hls hal h0
  have e0 : natI [0, 1, 2] = [0, 1, 2] := rfl
  rw [e0] at hl
  have hA := h.hA
  obtain ⟨d0, hd0⟩ := List.exists_mem_of_ne_nil _ h0
  have hGa : AllC (rowsN N al A) (fun g => 0 ≤ g ∧ g ≤ s) X G := h.allC_of h.hG fun i hi => ⟨d0, hd0, h.full d0 (hal3 d0 hd0) i hi⟩
  have i0 := (h.areaC hal3 (a := 0) (by decide)).inArea 0 Best.zero
  have i1 := (h.areaC hal3 (a := 1) (by decide)).inArea 1 (Best.zero.inArea 0 (rowsN N al 0))
  obtain ⟨b0, hb0⟩ : ∃ b0, Best.zero.inArea 0 (rowsN N al 0) = b0 := ⟨_, rfl⟩
  rw [hb0] at i0 i1 hl
  obtain ⟨b1, hb1⟩ : ∃ b1, b0.inArea 1 (rowsN N al 1) = b1 := ⟨_, rfl⟩
  rw [hb1] at i1 hl
  have key : b1.found = true ∧ G ≤ b1.gen ∧ ∃ a, a < 2 ∧ b1.area = ((a : Nat) : Int) ∧ b1.bytes = X b1.gen ∧ AllC (rowsN N al a) (fun g => 0 ≤ g ∧ g ≤ s) X b1.gen := by
    rcases i1.one with ⟨f1, f2, f3, f4, f5⟩ | ⟨f1, f2, f3, f4⟩
    · refine ⟨f1, ?_, 1, by decide, f2, f4, f3⟩
      have : A = 0 ∨ A = 1 := by omega
      rcases this with rfl | rfl
      · obtain ⟨k1, k2⟩ := i0.all G hGa
        have := f5 k1; omega
      · exact (i1.all G hGa).2
    · have hf : b0.found = true := by
        have : A = 0 ∨ A = 1 := by omega
        rcases this with rfl | rfl
        · exact (i0.all G hGa).1
        · rw [← f1]; exact (i1.all G hGa).1
      rcases i0.one with ⟨e1, e2, e3, e4, _⟩ | ⟨e1, _⟩
      · refine ⟨f1.trans hf, ?_, 0, by decide, f2.trans e2, by rw [f4, e4, f3], by rw [f3]; exact e3⟩
        have : A = 0 ∨ A = 1 := by omega
        rcases this with rfl | rfl
        · rw [f3]; exact (i0.all G hGa).2
        · exact (i1.all G hGa).2
      · rw [e1] at hf; cases hf
  obtain ⟨kf, kG, a, ha, ka, kb, kc⟩ := key
  rw [if_pos kf] at hl
  have hw := h.whole_of hal3 kc
  have hmax : ∀ a', a' < 2 → ∀ g, AllC (rowsN N al a') (fun g => 0 ≤ g ∧ g ≤ s) X g → g ≤ b1.gen := fun a' ha' g hg => by
    have : a' = 0 ∨ a' = 1 := by omega
    rcases this with rfl | rfl
    · obtain ⟨k1, k2⟩ := i0.all g hg
      rcases i1.one with ⟨_, _, _, _, f5⟩ | ⟨_, _, f3, _⟩
      · have := f5 k1; omega
      · rw [f3]; exact k2
    · exact (i1.all g hg).2
  have hvis : ∀ a', a' < 2 → ∀ d ∈ al, ∀ i, i < 32 → cpPart (N d (50 + 32 * a' + i)) = true → (tagRaw (N d (50 + 32 * a' + i))).gen ≤ b1.seen := fun a' ha' d hd i hi hc => by
    have hm : N d (50 + 32 * a' + i) ∈ (rowsN N al a').getD i [] := by
      rw [rowsN_at N al a' hi, List.mem_filter, List.mem_map]; exact ⟨⟨d, hd, rfl⟩, hc⟩
    have hr : (rowsN N al a').getD i [] ∈ rowsN N al a' := by
      rw [List.getD_eq_getElem?_getD, List.getElem?_eq_getElem (by simp [rowsN]; exact hi)]; exact List.getElem_mem _
    have s1 := seenA_ge (rowsN N al 1) b0.seen
    have s0 := seenA_ge (rowsN N al 0) Best.zero.seen
    rw [i1.seen]
    have : a' = 0 ∨ a' = 1 := by omega
    rcases this with rfl | rfl
    · have := s0.2.1 _ hr _ hm
      rw [← i0.seen] at this
      have := s1.1; omega
    · exact s1.2.1 _ hr _ hm
  have hseen : b1.seen ≤ s := by
    have hgen : ∀ a', a' < 2 → ∀ l ∈ rowsN N al a', ∀ y ∈ l, (tagRaw y).gen ≤ s := fun a' ha' l hl y hy => by
      obtain ⟨i, hi, rfl⟩ := rowsN_mem hl
      rw [List.mem_filter, List.mem_map] at hy
      obtain ⟨⟨d, hd, rfl⟩, hc⟩ := hy
      obtain ⟨g, g0, g1, h2, h3⟩ := h.only a' ha' d (hal3 d hd) i hi hc
      rw [h3, (h.tag ⟨g0, g1⟩ h2).2]; exact g1
    have hs0 : (0 : Int) ≤ s := by have := h.hG; omega
    rw [i1.seen]
    rcases (seenA_ge (rowsN N al 1) b0.seen).2.2 with e | ⟨l, hl', y, hy, e⟩
    · rw [e, i0.seen]
      rcases (seenA_ge (rowsN N al 0) Best.zero.seen).2.2 with e | ⟨l, hl', y, hy, e⟩
      · rw [e]; exact hs0
      · rw [e]; exact hgen 0 (by decide) l hl' y hy
    · rw [e]; exact hgen 1 (by decide) l hl' y hy
  have hgs : b1.gen ≤ b1.seen := by
    have hp := h.pos hw.1
    obtain ⟨d, hd3, e⟩ := hw.2 0 (by omega)
    have hm := kc.2 0 (by omega)
    rw [rowsN_at N al a (by decide), List.mem_filter, List.mem_map] at hm
    obtain ⟨⟨d', hd', e'⟩, hc⟩ := hm
    have := hvis a ha d' hd' 0 (by decide) (by rw [e']; exact hc)
    rw [e'] at this
    have ht := (h.tag hw.1 (show 0 < partsN (X b1.gen).length by omega)).2
    unfold partG at ht
    rw [ht] at this; exact this
  refine ⟨b1, a, hl, ha, ka, kb, ?_, kc, hmax, ⟨hw.1.1, hgs, hseen⟩, hvis⟩
  by_cases e : a = A
  · have := h.top b1.gen (e ▸ hw)
    rw [show b1.gen = G by omega]; exact h.inM
  · have hA1 : a = 1 - A := by omega
    rcases h.oth b1.gen (hA1 ▸ hw) with h1 | h1
    · rw [show b1.gen = G by omega]; exact h.inM
    · exact h1
/-- parts of g come where they belong; nothing else changes -/
theorem PC.again (h : PC N X s A G M) {a : Nat} {g : Int} (ha : a < 2) (hw : Whole N X s a g) (hmax : ∀ a', a' < 2 → ∀ g', Whole N X s a' g' → g' ≤ g)
    (hN : ∀ c, c < 3 → ∀ k, k < 200 → N' c k = N c k ∨ ∃ i, i < partsN (X g).length ∧ k = 50 + 32 * a + i ∧ N' c k = partG X g i) :
    PC N' X s A G M ∧ (∀ a', a' < 2 → ∀ g', Whole N' X s a' g' → g' ≤ g) ∧ ((∀ d, d < 3 → ∀ i, i < partsN (X g).length → N' d (50 + 32 * a + i) = partG X g i) → PC N' X s a g (fun y => y = X g)) := by
  have hA := h.hA
  have hwG : Whole N X s A G := ⟨h.hG, fun i hi => ⟨0, by decide, h.full 0 (by decide) i hi⟩⟩
  have hk : ∀ a' i, a' < 2 → i < 32 → 50 + 32 * a' + i < 200 := fun a' i h1 h2 => by omega
  have back : ∀ a', a' < 2 → ∀ g', Whole N' X s a' g' → Whole N X s a' g' := fun a' ha' g' hw' => by
    by_cases e : g' = g ∧ a' = a
    · rw [e.1, e.2]; exact hw
    · refine ⟨hw'.1, fun i hi => ?_⟩
      obtain ⟨d, hd, e'⟩ := hw'.2 i hi
      have hi32 := h.i32 hw'.1 hi
      rcases hN d hd _ (hk a' i ha' hi32) with e2 | ⟨j, hj, ej, e2⟩
      · exact ⟨d, hd, e2 ▸ e'⟩
      · have hj32 := h.i32 hw.1 hj
        have ht := (h.tag hw'.1 hi).2
        rw [← e', e2, (h.tag hw.1 hj).2] at ht
        have eg : g = g' := congrArg Tag.gen ht
        exact absurd ⟨eg.symm, by omega⟩ e
  have honly : ∀ a', a' < 2 → ∀ d, d < 3 → ∀ i, i < 32 → cpPart (N' d (50 + 32 * a' + i)) = true → ∃ g, 0 ≤ g ∧ g ≤ s ∧ i < partsN (X g).length ∧ N' d (50 + 32 * a' + i) = partG X g i := fun a' ha' d hd i hi hc => by
    rcases hN d hd _ (hk a' i ha' hi) with e2 | ⟨j, hj, ej, e2⟩
    · rw [e2] at hc ⊢; exact h.only a' ha' d hd i hi hc
    · have hj32 := h.i32 hw.1 hj
      have : i = j := by omega
      subst this
      exact ⟨g, hw.1.1, hw.1.2, hj, e2⟩
  refine ⟨⟨hA, h.hG, h.hs, h.len, h.byte, honly, fun d hd i hi => ?_, h.inM, fun g' hw' => h.top g' (back A hA g' hw'), fun g' hw' => h.oth g' (back (1 - A) (by omega) g' hw')⟩, fun a' ha' g' hw' => hmax a' ha' g' (back a' ha' g' hw'), fun hf => ⟨ha, hw.1, h.hs, h.len, h.byte, honly, hf, rfl, fun g' hw' => hmax a ha g' (back a ha g' hw'), fun g' hw' => .inl (hmax (1 - a) (by omega) g' (back (1 - a) (by omega) g' hw'))⟩⟩
  rcases hN d hd _ (hk A i hA (h.i32 h.hG hi)) with e2 | ⟨j, hj, ej, e2⟩
  · rw [e2]; exact h.full d hd i hi
  · have hj32 := h.i32 hw.1 hj
    have hi32 := h.i32 h.hG hi
    have ea : A = a := by omega
    have eij : i = j := by omega
    have e1 := h.top g (ea ▸ hw)
    have e3 := hmax A hA G hwG
    rw [e2, ← eij, show g = G by omega]
/-- a new generation in the other area -/
def updX (X : Int → List Int) (g : Int) (x : List Int) : Int → List Int := fun y => if y = g then x else X y
theorem PC.fresh (h : PC N X s A G M) (hmax : ∀ a', a' < 2 → ∀ g', Whole N X s a' g' → g' ≤ G) {sn : Int} (hsn : G ≤ sn ∧ sn ≤ s) (hs99 : sn ≤ 99)
    (hvis : ∀ a', a' < 2 → ∀ d, d < 3 → ∀ i, i < 32 → cpPart (N d (50 + 32 * a' + i)) = true → (tagRaw (N d (50 + 32 * a' + i))).gen ≤ sn) {x : List Int} (hx : x.length ≤ 1696) (hb : ∀ y ∈ x, IsByte y)
    (hN : ∀ c, c < 3 → ∀ k, k < 200 → N' c k = N c k ∨ ∃ i, i < partsN x.length ∧ k = 50 + 32 * (1 - A) + i ∧ N' c k = (splitB (sn + 1) 0 x).getD i []) :
    PC N' (updX X (sn + 1) x) (sn + 1) A G (fun y => y = X G ∨ y = x) ∧ ((∀ d, d < 3 → ∀ i, i < partsN x.length → N' d (50 + 32 * (1 - A) + i) = (splitB (sn + 1) 0 x).getD i []) → PC N' (updX X (sn + 1) x) (sn + 1) (1 - A) (sn + 1) (fun y => y = x)) := by
  have hA := h.hA
  have hG := h.hG
  have hk : ∀ a' i, a' < 2 → i < 32 → 50 + 32 * a' + i < 200 := fun a' i h1 h2 => by omega
  have x32 := parts_le hx
  have hXn : updX X (sn + 1) x (sn + 1) = x := by unfold updX; rw [if_pos rfl]
  have hXo : ∀ g, g ≤ sn → updX X (sn + 1) x g = X g := fun g hg => by unfold updX; rw [if_neg (by omega)]
  have hpn : ∀ i, partG (updX X (sn + 1) x) (sn + 1) i = (splitB (sn + 1) 0 x).getD i [] := fun i => by unfold partG; rw [hXn]
  have hpo : ∀ g, g ≤ sn → ∀ i, partG (updX X (sn + 1) x) g i = partG X g i := fun g hg i => by unfold partG; rw [hXo g hg]
  have htn : ∀ i, i < partsN x.length → isTag ((splitB (sn + 1) 0 x).getD i []) = true ∧ (tagRaw ((splitB (sn + 1) 0 x).getD i [])).gen = sn + 1 ∧ cpPart ((splitB (sn + 1) 0 x).getD i []) = true := fun i hi => by
    have := RecRange.tag (gen := sn + 1) (num := 0) (b := x) ⟨⟨by omega, by omega⟩, by decide, by omega⟩ hi
    refine ⟨this.1, by rw [this.2], ?_⟩
    unfold cpPart; rw [this.1, this.2]; rfl
  have hlen : ∀ g, 0 ≤ g → g ≤ sn + 1 → (updX X (sn + 1) x g).length ≤ 1696 := fun g h0 h1 => by
    by_cases e : g = sn + 1
    · rw [e, hXn]; exact hx
    · rw [hXo g (by omega)]; exact h.len g h0 (by omega)
  have hbyte : ∀ g, 0 ≤ g → g ≤ sn + 1 → ∀ y ∈ updX X (sn + 1) x g, IsByte y := fun g h0 h1 => by
    by_cases e : g = sn + 1
    · rw [e, hXn]; exact hb
    · rw [hXo g (by omega)]; exact h.byte g h0 (by omega)
  have honly : ∀ a', a' < 2 → ∀ d, d < 3 → ∀ i, i < 32 → cpPart (N' d (50 + 32 * a' + i)) = true → ∃ g, 0 ≤ g ∧ g ≤ sn + 1 ∧ i < partsN (updX X (sn + 1) x g).length ∧ N' d (50 + 32 * a' + i) = partG (updX X (sn + 1) x) g i := fun a' ha' d hd i hi hc => by
    rcases hN d hd _ (hk a' i ha' hi) with e2 | ⟨j, hj, ej, e2⟩
    · rw [e2] at hc ⊢
      obtain ⟨g, g0, g1, h2, h3⟩ := h.only a' ha' d hd i hi hc
      have hv := hvis a' ha' d hd i hi hc
      rw [h3, (h.tag ⟨g0, g1⟩ h2).2] at hv
      have hv' : g ≤ sn := hv
      exact ⟨g, g0, by omega, by rw [hXo g hv']; exact h2, by rw [hpo g hv']; exact h3⟩
    · have : i = j := by omega
      subst this
      exact ⟨sn + 1, by omega, Int.le_refl _, by rw [hXn]; exact hj, by rw [hpn]; exact e2⟩
  have back : ∀ a', a' < 2 → ∀ g', g' ≤ sn → Whole N' (updX X (sn + 1) x) (sn + 1) a' g' → Whole N X s a' g' := fun a' ha' g' hg' hw' => by
    have hr : 0 ≤ g' ∧ g' ≤ s := ⟨hw'.1.1, by omega⟩
    refine ⟨hr, fun i hi => ?_⟩
    obtain ⟨d, hd, e'⟩ := hw'.2 i (by rw [hXo g' hg']; exact hi)
    rw [hpo g' hg'] at e'
    have hi32 := h.i32 hr hi
    rcases hN d hd _ (hk a' i ha' hi32) with e2 | ⟨j, hj, ej, e2⟩
    · exact ⟨d, hd, e2 ▸ e'⟩
    · have ht := (h.tag hr hi).2
      rw [← e', e2] at ht
      have := (htn j hj).2.1
      rw [ht] at this
      have : g' = sn + 1 := this
      omega
  refine ⟨⟨hA, ⟨hG.1, by omega⟩, by omega, hlen, hbyte, honly, fun d hd i hi => ?_, .inl (hXo G hsn.1), fun g' hw' => ?_, fun g' hw' => ?_⟩, fun hf => ⟨by omega, ⟨by omega, Int.le_refl _⟩, by omega, hlen, hbyte, honly, fun d hd i hi => ?_, hXn, fun g' hw' => hw'.1.2, fun g' hw' => .inl hw'.1.2⟩⟩
  · rw [hXo G hsn.1] at hi
    rw [hpo G hsn.1]
    rcases hN d hd _ (hk A i hA (h.i32 hG hi)) with e2 | ⟨j, hj, ej, e2⟩
    · rw [e2]; exact h.full d hd i hi
    · have := h.i32 hG hi
      omega
  · by_cases e : g' ≤ sn
    · exact hmax A hA g' (back A hA g' e hw')
    · exfalso
      have eg : g' = sn + 1 := by have := hw'.1.2; omega
      subst eg
      have hp := (partsN_pos (show x.length ≤ 2120 by omega)).1
      obtain ⟨d, hd, e'⟩ := hw'.2 0 (by rw [hXn]; omega)
      rw [hpn] at e'
      rcases hN d hd _ (hk A 0 hA (by decide)) with e2 | ⟨j, hj, ej, e2⟩
      · rw [e2] at e'
        have hv := hvis A hA d hd 0 (by decide) (by rw [e']; exact (htn 0 (by omega)).2.2)
        rw [e', (htn 0 (by omega)).2.1] at hv
        omega
      · omega
  · by_cases e : g' ≤ sn
    · exact .inl (hmax (1 - A) (by omega) g' (back (1 - A) (by omega) g' e hw'))
    · have eg : g' = sn + 1 := by have := hw'.1.2; omega
      subst eg
      exact .inr (.inr hXn)
  · rw [hXn] at hi
    rw [hpn]; exact hf d hd i hi
end
end Go.Proofs.YtpeclkhppgabfaaDoor
