/- A round of CheckLasts, in plain Lean. -/
import Derived.Test.YtpeclkhppgabfaaDoorClp
namespace Go.Proofs.YtpeclkhppgabfaaDoor
open Go.RowKit
set_option linter.unusedVariables false
set_option linter.unusedSimpArgs false

def AnyV : Nat → Nat → List Int → Prop := fun _ _ _ => True
theorem Arc.any {T : BankT} {n z t : Nat} {V : Nat → Nat → List Int → Prop} (h : Arc T n z V t) : Arc T n z AnyV t := h.reV fun _ _ _ _ => ⟨trivial, trivial⟩
theorem in3m : ∀ d, d < 3 → d ∈ ([0, 1, 2] : List Nat) := fun d hd => by
  have : d = 0 ∨ d = 1 ∨ d = 2 := by omega
  rcases this with rfl | rfl | rfl <;> simp
theorem start_re {T : BankT} (h0 : T.down = false) (h1 : T.armed = 0) : T.start = T.re T.writes 0 T.mask := by
  cases T
  simp only at h0 h1
  subst h0; subst h1; rfl
/-- where parts of x may have come -/
def CameB (N N' : Nat → Nat → List Int) (a : Nat) (g : Int) (x : List Int) : Prop := ∀ c, c < 3 → ∀ k, k < 200 → N' c k = N c k ∨ ∃ i, i < partsN x.length ∧ k = 50 + 32 * a + i ∧ N' c k = (splitB g 0 x).getD i []
theorem saveArc {T : BankT} {t : Nat} (h : Arc T 3 200 AnyV t) (hc : ∀ c, c < 3 → Clean T 200 c) {a : Nat} (ha : a < 2) {g : Int} {x : List Int} (hx : x.length ≤ 1696) (hb : ∀ y ∈ x, IsByte y) :
    (∃ T', T.saveC [0, 1, 2] a g x = (T', 0) ∧ Arc T' 3 200 AnyV (t + 96) ∧ (∀ c, c < 3 → Clean T' 200 c) ∧ (T.armed = 0 → T'.armed = 0) ∧ CameB T.N T'.N a g x ∧ (∀ d, d < 3 → ∀ i, i < partsN x.length → T'.N d (50 + 32 * a + i) = (splitB g 0 x).getD i [])) ∨
    (∃ T', T.saveC [0, 1, 2] a g x = (T', 6) ∧ T.armed ≠ 0 ∧ Fec T' 3 200 AnyV (t + 96) ∧ CameB T.N T'.N a g x) := by
  have h32 := parts_le hx
  have hPl := splitB_len g (0 : Int) x
  have hlay := Arc.layM (n := 3) (z := 200) (p := 50 + 32 * a) (P := splitB g 0 x) (V := fun c k s => s = T.N c k ∨ ∃ i, i < partsN x.length ∧ k = 50 + 32 * a + i ∧ s = (splitB g 0 x).getD i [])
    (splitB_sec hb) (by rw [hPl]; omega) [0, 1, 2] 0 (fun d hd => by simp at hd; omega) (.inl (by simp)) (h.reV fun c hcn k hk => ⟨.inl rfl, .inl (hc c hcn k hk).2⟩) hc (fun d hd i hi => .inr ⟨i, by rw [hPl] at hi; exact hi, rfl, rfl⟩)
  have e0 : natI0 [0, 1, 2] = [0, 1, 2] := rfl
  rw [hPl, e0, show ((50 + 32 * a : Nat) : Int) = 50 + 32 * (a : Int) by omega] at hlay
  have hs : T.saveC [0, 1, 2] a g x = BankT.layM (50 + 32 * (a : Int)) (splitB g 0 x) [0, 1, 2] 0 T := by
    unfold BankT.saveC; rw [if_neg (by omega)]
  have hle : t + ([0, 1, 2] : List Nat).length * partsN x.length ≤ t + 96 := by show t + 3 * partsN x.length ≤ t + 96; omega
  rcases hlay with ⟨T', e, g1, g2, g3, g4⟩ | ⟨T', e, g1, g4⟩
  · left
    refine ⟨T', hs.trans e, g1.any.mono hle, g2, g4, fun c hcn k hk => ?_, fun d hd i hi => ?_⟩
    · rw [g3 c hcn k hk, layAll_at, hPl]
      by_cases hh : c ∈ ([0, 1, 2] : List Nat) ∧ 50 + 32 * a ≤ k ∧ k < 50 + 32 * a + partsN x.length
      · rw [if_pos hh]; exact .inr ⟨k - (50 + 32 * a), by omega, by omega, rfl⟩
      · rw [if_neg hh]; exact .inl rfl
    · rw [g3 d hd _ (by omega), layAll_at, hPl, if_pos ⟨in3m d hd, by omega, by omega⟩, show 50 + 32 * a + i - (50 + 32 * a) = i by omega]
  · right
    exact ⟨T', hs.trans e, g4, ⟨g1.st, g1.inv, g1.down, fun _ _ _ _ => trivial, by have := g1.clk; omega, by have := g1.wri; omega, g1.clean⟩, g1.val⟩
structure QC (T : BankT) (t : Nat) (X : Int → List Int) (s : Int) (A : Nat) (G : Int) (M : List Int → Prop) : Prop where
  quiet : Quiet T 3 200 (fun _ => false) T.N t
  clean : ∀ c, c < 3 → Clean T 200 c
  pc : PC T.N X s A G M
theorem Fec.qc {T : BankT} {t : Nat} {X : Int → List Int} {s : Int} {A : Nat} {G : Int} {M : List Int → Prop} (h : Fec T 3 200 AnyV t) (hp : PC T.N X s A G M) : QC T.start t X s A G M := ⟨⟨h.st.live, h.st.dead, h.st.fail, fun c hc _ k hk => rfl, h.clk, h.wri⟩, h.clean, hp⟩
section
variable {T : BankT} {t : Nat} {X : Int → List Int} {s : Int} {A : Nat} {G : Int} {M : List Int → Prop}
theorem QC.still (h : QC T t X s A G M) : Still T 3 200 := ⟨h.quiet.live.toShape, h.quiet.live.up, h.quiet.live.arm, h.quiet.dead, h.quiet.fail⟩
theorem QC.arc (h : QC T t X s A G M) : Arc T 3 200 AnyV t := ⟨h.still.reA h.still.inv.wr h.still.inv.msk, h.still.inv, fun _ _ _ _ => ⟨trivial, trivial⟩, h.quiet.clk, h.quiet.wri, fun c hc => (h.clean c hc).sync⟩
theorem QC.arm (h : QC T t X s A G M) {n m : Int} (hn : 0 ≤ n ∧ n < 9223372036854775808) (hm : 0 ≤ m ∧ m < 18446744073709551616) : Arc (T.arm n m) 3 200 AnyV t := by
  have hst : Still (T.re T.writes 0 m) 3 200 := h.still.reA h.still.inv.wr hm
  have hmx : 0 ≤ max n 0 ∧ max n 0 < 9223372036854775808 := by omega
  exact ⟨hst, re_inv (T := T) h.still.inv h.still.inv.wr hmx hm, fun _ _ _ _ => ⟨trivial, trivial⟩, h.quiet.clk, h.quiet.wri, fun c hc => (h.clean c hc).sync⟩
/-- a round: T1 is T, or T armed -/
theorem QC.round (h : QC T t X s A G M) (hs : s ≤ 50) (ht : t ≤ 100000) {b : Best} {a : Nat} (hal : loadC T.read [0, 1, 2] = (b, 0)) (ha : a < 2) (hbx : b.bytes = X b.gen) (hw : AllC (rowsN T.N [0, 1, 2] a) (fun g => 0 ≤ g ∧ g ≤ s) X b.gen)
    (hmax : ∀ a', a' < 2 → ∀ g, AllC (rowsN T.N [0, 1, 2] a') (fun g => 0 ≤ g ∧ g ≤ s) X g → g ≤ b.gen) (hbs : 0 ≤ b.gen ∧ b.gen ≤ b.seen ∧ b.seen ≤ s)
    (hvis : ∀ a', a' < 2 → ∀ d ∈ ([0, 1, 2] : List Nat), ∀ i, i < 32 → cpPart (T.N d (50 + 32 * a' + i)) = true → (tagRaw (T.N d (50 + 32 * a' + i))).gen ≤ b.seen)
    {T1 : BankT} (h1 : Arc T1 3 200 AnyV t) (h1c : ∀ c, c < 3 → Clean T1 200 c) (h1N : ∀ c k, T1.N c k = T.N c k) {x : List Int} (hx : x.length ≤ 300) (hb : ∀ y ∈ x, IsByte y) :
    (∃ T2, T1.saveC [0, 1, 2] a b.gen b.bytes = (T2, 6) ∧ T1.armed ≠ 0 ∧ T2.down = true ∧ QC T2.start (t + 96) X s A G M) ∨
    (∃ T2 T3 X' s' A' G', T1.saveC [0, 1, 2] a b.gen b.bytes = (T2, 0) ∧ T2.UseN 100 ∧ T2.saveC [0, 1, 2] (1 - a) (b.seen + 1) x = (T3, 6) ∧ T1.armed ≠ 0 ∧ T3.down = true ∧ s' ≤ s + 1 ∧ QC T3.start (t + 192) X' s' A' G' (fun y => y = b.bytes ∨ y = x)) ∨
    (∃ T2 T3 X' s' A' G', T1.saveC [0, 1, 2] a b.gen b.bytes = (T2, 0) ∧ T2.UseN 100 ∧ T2.saveC [0, 1, 2] (1 - a) (b.seen + 1) x = (T3, 0) ∧ T3.Use ∧ T3.down = false ∧ s' ≤ s + 1 ∧ (∀ mask, QC (T3.crash mask).start (t + 192) X' s' A' G' (fun y => y = x)) ∧ (T1.armed = 0 → QC T3.start (t + 192) X' s' A' G' (fun y => y = x))) := by
  have hd3 : ∀ d ∈ ([0, 1, 2] : List Nat), d < 3 := fun d hd => by simp at hd; omega
  have h3d : ∀ d, d < 3 → d ∈ ([0, 1, 2] : List Nat) := fun d hd => by
    have : d = 0 ∨ d = 1 ∨ d = 2 := by omega
    rcases this with rfl | rfl | rfl <;> simp
  have hwh := h.pc.whole_of hd3 hw
  have hmx : ∀ a', a' < 2 → ∀ g, Whole T.N X s a' g → g ≤ b.gen := fun a' ha' g hg => hmax a' ha' g (h.pc.allC_of hg.1 fun i hi => by
    obtain ⟨d, hd, e⟩ := hg.2 i hi
    exact ⟨d, h3d d hd, e⟩)
  have hlen : b.bytes.length ≤ 1696 := by rw [hbx]; exact h.pc.len _ hwh.1.1 hwh.1.2
  have hby : ∀ y ∈ b.bytes, IsByte y := by rw [hbx]; exact h.pc.byte _ hwh.1.1 hwh.1.2
  have cong : ∀ {N' : Nat → Nat → List Int}, CameB T1.N N' a b.gen b.bytes → ∀ c, c < 3 → ∀ k, k < 200 → N' c k = T.N c k ∨ ∃ i, i < partsN (X b.gen).length ∧ k = 50 + 32 * a + i ∧ N' c k = partG X b.gen i := fun {N'} hcm c hc k hk => by
    rcases hcm c hc k hk with e | ⟨i, hi, e1, e2⟩
    · exact .inl (e.trans (h1N c k))
    · rw [hbx] at hi e2; exact .inr ⟨i, hi, e1, e2⟩
  rcases saveArc h1 h1c ha hlen hby (g := b.gen) with ⟨T2, e2, k1, k2, k3, k4, k5⟩ | ⟨T2, e2, k1, k2, k4⟩
  · right
    obtain ⟨_, q2, q3⟩ := h.pc.again ha hwh hmx (cong k4)
    have hpc2 := q3 (fun d hd i hi => by have := k5 d hd i (by rw [hbx]; exact hi); rw [hbx] at this; exact this)
    have hvis2 : ∀ a', a' < 2 → ∀ d, d < 3 → ∀ i, i < 32 → cpPart (T2.N d (50 + 32 * a' + i)) = true → (tagRaw (T2.N d (50 + 32 * a' + i))).gen ≤ b.seen := fun a' ha' d hd i hi hcp => by
      rcases cong k4 d hd (50 + 32 * a' + i) (by omega) with e | ⟨j, hj, ej, e⟩
      · rw [e] at hcp ⊢; exact hvis a' ha' d (h3d d hd) i hi hcp
      · rw [e, (h.pc.tag hwh.1 hj).2]; exact hbs.2.1
    have hfresh : ∀ {N' : Nat → Nat → List Int}, CameB T2.N N' (1 - a) (b.seen + 1) x → _ := fun {N'} hcm => PC.fresh (N' := N') hpc2 (fun a' ha' g' hw' => q2 a' ha' g' hw') (sn := b.seen) ⟨hbs.2.1, hbs.2.2⟩ (by omega) hvis2 (show x.length ≤ 1696 by omega) hb hcm
    rcases saveArc k1 k2 (a := 1 - a) (by omega) (show x.length ≤ 1696 by omega) hb (g := b.seen + 1) with ⟨T3, e3, j1, j2, j3, j4, j5⟩ | ⟨T3, e3, j1, j2, j4⟩
    · right
      have hpc3 := (hfresh j4).2 j5
      refine ⟨T2, T3, updX X (b.seen + 1) x, b.seen + 1, 1 - a, b.seen + 1, e2, k1.useN (by decide) 100 (by omega), e3, (j1.useN (by decide) 0 (by omega)).use, j1.up, by omega, fun mask => ?_, fun ha0 => ?_⟩
      · have hf := (j1.reV (V' := fun c k s => s = T3.N c k) fun c hc k hk => ⟨rfl, (j2 c hc k hk).2⟩).crash mask
        have hf' : Fec (T3.crash mask) 3 200 AnyV (t + 192) := ⟨hf.st, hf.inv, hf.down, fun _ _ _ _ => trivial, by have := hf.clk; omega, by have := hf.wri; omega, hf.clean⟩
        exact hf'.qc (hpc3.again (by omega) ⟨hpc3.hG, fun i hi => ⟨0, by decide, hpc3.full 0 (by decide) i hi⟩⟩ (fun _ _ g' hw' => hw'.1.2) (fun c hc k hk => .inl (hf.val c hc k hk))).1
      · have har := j3 (k3 ha0)
        rw [start_re j1.up har]
        exact ⟨⟨j1.st.live, j1.st.dead, j1.st.fail, fun c hc _ k hk => rfl, j1.clk, j1.wri⟩, j2, hpc3⟩
    · left
      have har : T1.armed ≠ 0 := fun e => j1 (k3 e)
      refine ⟨T2, T3, updX X (b.seen + 1) x, b.seen + 1, a, b.gen, e2, k1.useN (by decide) 100 (by omega), e3, har, j2.down, by omega, ?_⟩
      have := j2.qc (hfresh j4).1
      rw [hbx]; exact this
  · left
    exact ⟨T2, e2, k1, k2.down, k2.qc (h.pc.again ha hwh hmx (cong k4)).1⟩
theorem PC.mono {N : Nat → Nat → List Int} {M' : List Int → Prop} (h : PC N X s A G M) (hm : ∀ y, M y → M' y) : PC N X s A G M' := ⟨h.hA, h.hG, h.hs, h.len, h.byte, h.only, h.full, hm _ h.inM, h.top, fun g hw => (h.oth g hw).imp id (hm _)⟩
theorem QC.mono {M' : List Int → Prop} (h : QC T t X s A G M) (hm : ∀ y, M y → M' y) {t' : Nat} (ht : t ≤ t') : QC T t' X s A G M' := ⟨h.quiet.mono ht, h.clean, h.pc.mono hm⟩
/-- Load at a round's head -/
theorem QC.load (h : QC T t X s A G M) : ∃ (b : Best) (a : Nat), loadC T.read [0, 1, 2] = (b, 0) ∧ a < 2 ∧ b.area = (a : Int) ∧ b.bytes = X b.gen ∧ M b.bytes ∧ AllC (rowsN T.N [0, 1, 2] a) (fun g => 0 ≤ g ∧ g ≤ s) X b.gen ∧
      (∀ a', a' < 2 → ∀ g, AllC (rowsN T.N [0, 1, 2] a') (fun g => 0 ≤ g ∧ g ≤ s) X g → g ≤ b.gen) ∧ (0 ≤ b.gen ∧ b.gen ≤ b.seen ∧ b.seen ≤ s) ∧
      (∀ a', a' < 2 → ∀ d ∈ ([0, 1, 2] : List Nat), ∀ i, i < 32 → cpPart (T.N d (50 + 32 * a' + i)) = true → (tagRaw (T.N d (50 + 32 * a' + i))).gen ≤ b.seen) ∧ b.bytes.length ≤ 1696 ∧ (∀ y ∈ b.bytes, IsByte y) := by
  obtain ⟨b, a, h1, h2, h3, h4, h5, h6, h7, h8, h9⟩ := h.pc.load h.quiet (al := [0, 1, 2]) rfl (by simp)
  exact ⟨b, a, h1, h2, h3, h4, h4 ▸ h5, h6, h7, h8, h9, h4 ▸ h.pc.len _ h6.1.1 h6.1.2, h4 ▸ h.pc.byte _ h6.1.1 h6.1.2⟩
/-- .. when one has been lost -/
theorem QC.last (h : QC T t X s A G M) (htt : t < 1000000000) (d : Nat) : ∃ T' e, T.failC (d : Int) = (T', e) ∧ T'.Use ∧ T.Use ∧ ∃ b, loadC T'.read [0, 1, 2] = (b, 0) ∧ M b.bytes ∧ (∀ y ∈ b.bytes, IsByte y) := by
  obtain ⟨T', e, he, hq⟩ := h.quiet.fails d
  have h0 : (([0, 1, 2] : List Nat).filter fun c => !((fun _ => false) c || decide (c = d))) ≠ [] := by
    intro hh
    by_cases e : d = 0
    · have : (1 : Nat) ∈ ([0, 1, 2] : List Nat).filter fun c => !((fun _ => false) c || decide (c = d)) := by simp [e]
      rw [hh] at this; cases this
    · have : (0 : Nat) ∈ ([0, 1, 2] : List Nat).filter fun c => !((fun _ => false) c || decide (c = d)) := by simp; omega
      rw [hh] at this; cases this
  obtain ⟨b, a, h1, h2, h3, h4, h5, h6, _⟩ := h.pc.load hq rfl h0
  exact ⟨T', e, he, hq.use (by decide) htt, h.quiet.use (by decide) htt, b, h1, h4 ▸ h5, h4 ▸ h.pc.byte _ h6.1.1 h6.1.2⟩
end
def firstB : List Int := [102, 105, 114, 115, 116]
theorem firstB_byte : ∀ x ∈ firstB, IsByte x := by intro x hx; simp [firstB] at hx; rcases hx with rfl | rfl | rfl | rfl | rfl <;> exact ⟨by decide, by decide⟩
theorem first_laid : ∃ T1 X, (addZ 200 3).saveC [0, 1, 2] 0 1 firstB = (T1, 0) ∧ (addZ 200 3).UseN 100 ∧ QC T1 96 X 1 0 1 (fun y => y = firstB) := by
  have hs := addZ_still (z := 200) (k := 3) (by decide) (by decide)
  have hr := addZ_rest 200 3
  have hat : ∀ c, c < 3 → ∀ k, k < 200 → _ := fun c hc k hk => addZ_at (z := 200) (k := 3) (d := c) (a := k) hc hk
  have hA : Arc (addZ 200 3) 3 200 AnyV 0 := ⟨hs.reA hs.inv.wr hs.inv.msk, hs.inv, fun _ _ _ _ => ⟨trivial, trivial⟩, by rw [hr.2.2.1]; decide, by rw [hr.2.2.2]; decide, fun c hc k hk _ => by rw [(hat c hc k hk).1, (hat c hc k hk).2.1]⟩
  rcases saveArc hA (fun c hc k hk => by obtain ⟨a, b, c'⟩ := hat c hc k hk; rw [a, b, c']; exact ⟨by decide, rfl⟩) (a := 0) (by decide) (g := 1) (x := firstB) (by decide) firstB_byte with ⟨T1, e, k1, k2, k3, k4, k5⟩ | ⟨T1, e, k1, _⟩
  · have har := k3 hs.arm
    have hX : (fun g : Int => if g = 1 then firstB else []) 1 = firstB := if_pos rfl
    have hp1 : partsN firstB.length = 1 := by decide
    have hp0 : partsN ([] : List Int).length = 1 := by decide
    refine ⟨T1, fun g => if g = 1 then firstB else [], e, hA.useN (by decide) 100 (by decide), ⟨⟨?_, ?_, ?_, fun c hc _ k hk => rfl, k1.clk, k1.wri⟩, k2, ⟨by decide, by decide, by decide, fun g _ _ => ?_, fun g _ _ => ?_, fun a ha d hd i hi hc => ?_, fun d hd i hi => ?_, hX, fun g hw => hw.1.2, fun g hw => .inl hw.1.2⟩⟩⟩
    · have h1 := k1.st
      rw [← start_re k1.up har] at h1
      have e1 : T1.start = T1 := by
        have hd := k1.up
        cases T1
        simp only [BankT.start]
        simp only at hd
        subst hd; rfl
      rw [e1] at h1
      exact h1.live
    · exact k1.st.dead
    · exact k1.st.fail
    · show (if g = 1 then firstB else []).length ≤ 1696
      split <;> decide
    · show ∀ y ∈ (if g = 1 then firstB else []), IsByte y
      split
      · exact firstB_byte
      · intro y hy; cases hy
    · rcases k4 d hd (50 + 32 * a + i) (by omega) with e | ⟨j, hj, ej, e⟩
      · rw [e, (hat d hd _ (by omega)).2.1, zero_cp] at hc; cases hc
      · have : i = j := by omega
        subst this
        exact ⟨1, by decide, by decide, by simp only [if_true]; exact hj, by unfold partG; simp only [if_true]; exact e⟩
    · simp only [if_true] at hi
      unfold partG; simp only [if_true]; exact k5 d hd i hi
  · exact absurd hs.arm k1
end Go.Proofs.YtpeclkhppgabfaaDoor
