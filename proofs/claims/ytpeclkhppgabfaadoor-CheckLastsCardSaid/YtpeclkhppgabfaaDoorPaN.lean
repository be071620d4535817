/- PaN: several texts in one: Ckq Shc. -/
import Derived.Test.YtpeclkhppgabfaaDoorPaM
import Derived.Test.YtpeclkhppgabfaaDoorPaK
import Derived.Test.YtpeclkhppgabfaaDoorPaL
/- Checkpoints laid on a quiet bank, and what Load tells then: plain Lean. -/
namespace Go.Proofs.YtpeclkhppgabfaaDoor
open Go.RowKit
set_option linter.unusedVariables false
set_option linter.unusedSimpArgs false

def natI (L : List Nat) : List Int := L.map fun (d : Nat) => (d : Int)
theorem zero_no : isTag zeroB = false := by kernel_rfl
theorem zero_cp : cpPart zeroB = false := by unfold cpPart; rw [zero_no]; rfl
section
variable {T : BankT} {n z t : Nat} {dd : Nat → Bool} {N : Nat → Nat → List Int}
theorem Quiet.seesQ (h : Quiet T n z dd N t) {a : Nat} (ha : a < z) : ∀ (ls : List Nat), (∀ d ∈ ls, d < n) → sees T.read (natI ls) (a : Int) = (ls.filter fun d => !dd d).map (fun d => N d a) ∧ CalmR T.read (natI ls) (a : Int)
  | [], _ => ⟨rfl, fun d hd => by cases hd⟩
  | d :: ls, hl => by
    obtain ⟨h1, h2⟩ := h.seesQ ha ls (fun x hx => hl x (by simp [hx]))
    have hr := h.read (hl d (by simp)) ha
    refine ⟨?_, fun x hx => ?_⟩
    · by_cases hd : dd d = true
      · rw [if_pos hd] at hr
        have e : sees T.read (natI (d :: ls)) (a : Int) = sees T.read (natI ls) (a : Int) := by simp [sees, natI, hr]
        rw [e, h1]; simp [hd]
      · rw [if_neg hd] at hr
        have e : sees T.read (natI (d :: ls)) (a : Int) = N d a :: sees T.read (natI ls) (a : Int) := by simp [sees, natI, hr]
        rw [e, h1]; simp [hd]
    · have hx' : x = (d : Int) ∨ x ∈ natI ls := by simpa [natI] using hx
      rcases hx' with rfl | hx'
      · rw [hr]; split
        · right; rfl
        · left; rfl
      · exact h2 x hx'
end
/-- at each place of an area, on each disk that answers, lies nothing or a part of x, as generation g -/
def MixA (N : Nat → Nat → List Int) (al : List Nat) (a : Nat) (g : Int) (x : List Int) : Prop := ∀ d ∈ al, ∀ i, i < 32 → N d (50 + 32 * a + i) = zeroB ∨ (i < partsN x.length ∧ N d (50 + 32 * a + i) = (splitB g 0 x).getD i [])
/-- rows of an area out of what lies there -/
def rowsN (N : Nat → Nat → List Int) (al : List Nat) (a : Nat) : List (List (List Int)) := (List.range 32).map fun (i : Nat) => (al.map fun d => N d (50 + 32 * a + i)).filter cpPart
theorem rowsN_at (N : Nat → Nat → List Int) (al : List Nat) (a : Nat) {i : Nat} (h : i < 32) : (rowsN N al a).getD i [] = (al.map fun d => N d (50 + 32 * a + i)).filter cpPart := by
  rw [List.getD_eq_getElem?_getD, List.getElem?_eq_getElem (by simp [rowsN]; exact h)]
  simp [rowsN]
theorem rowsN_mem {N : Nat → Nat → List Int} {al : List Nat} {a : Nat} {l : List (List Int)} (h : l ∈ rowsN N al a) : ∃ i, i < 32 ∧ l = (al.map fun d => N d (50 + 32 * a + i)).filter cpPart := by
  simp only [rowsN, List.mem_map, List.mem_range] at h
  obtain ⟨i, hi, rfl⟩ := h
  exact ⟨i, hi, rfl⟩
section
variable {N : Nat → Nat → List Int} {al : List Nat} {a : Nat} {g : Int} {x : List Int}
theorem MixA.areaC (h : MixA N al a g x) (hg : 0 ≤ g ∧ g < 4294967296) (hx : x.length ≤ 1696) : AreaC (rowsN N al a) (fun y => y = g) (fun _ => x) := by
  refine ⟨fun y hy => by rw [hy]; exact hg, fun _ _ => hx, fun i hi s hs => ?_⟩
  rw [rowsN_at N al a hi, List.mem_filter, List.mem_map] at hs
  obtain ⟨⟨d, hd, rfl⟩, hc⟩ := hs
  rcases h d hd i hi with e | ⟨hi', e⟩
  · rw [e, zero_cp] at hc; cases hc
  · exact ⟨g, rfl, hi', e⟩
theorem MixA.mem (h : MixA N al a g x) (hg : 0 ≤ g ∧ g < 4294967296) (hx : x.length ≤ 1696) {i : Nat} (hi : i < partsN x.length) : (splitB g 0 x).getD i [] ∈ (rowsN N al a).getD i [] ↔ ∃ d ∈ al, N d (50 + 32 * a + i) = (splitB g 0 x).getD i [] := by
  have hi32 : i < 32 := by have := parts_le hx; omega
  rw [rowsN_at N al a hi32, List.mem_filter, List.mem_map]
  have ht := (RecRange.tag (gen := g) (num := 0) (b := x) ⟨hg, by decide, by omega⟩ hi)
  constructor
  · rintro ⟨⟨d, hd, e⟩, _⟩; exact ⟨d, hd, e⟩
  · rintro ⟨d, hd, e⟩
    refine ⟨⟨d, hd, e⟩, ?_⟩
    unfold cpPart; rw [ht.1, ht.2]; rfl
theorem MixA.seen (h : MixA N al a g x) (hg : 0 ≤ g ∧ g < 4294967296) (hx : x.length ≤ 1696) (s : Int) {i : Nat} (hi : i < partsN x.length) {d : Nat} (hd : d ∈ al) (hp : N d (50 + 32 * a + i) = (splitB g 0 x).getD i []) : seenA (rowsN N al a) s = max s g := by
  obtain ⟨h1, h2, h3⟩ := seenA_ge (rowsN N al a) s
  have hi32 : i < 32 := by have := parts_le hx; omega
  have hm : (splitB g 0 x).getD i [] ∈ (rowsN N al a).getD i [] := (h.mem hg hx hi).2 ⟨d, hd, hp⟩
  have hr : (rowsN N al a).getD i [] ∈ rowsN N al a := by
    rw [List.getD_eq_getElem?_getD, List.getElem?_eq_getElem (by simp [rowsN]; exact hi32)]; exact List.getElem_mem _
  have ht : ∀ j, j < partsN x.length → tagRaw ((splitB g 0 x).getD j []) = ⟨g, 0, j, partsN x.length, (pieceB x j).length⟩ := fun j hj => (RecRange.tag (gen := g) (num := 0) (b := x) ⟨hg, by decide, by omega⟩ hj).2
  have h4 := h2 _ hr _ hm
  rw [ht i hi] at h4
  simp only at h4
  rcases h3 with h3 | ⟨l, hl, y, hy, h3⟩
  · omega
  · obtain ⟨j, hj, rfl⟩ := rowsN_mem hl
    rw [List.mem_filter, List.mem_map] at hy
    obtain ⟨⟨c, hc, rfl⟩, hcp⟩ := hy
    rcases h c hc j hj with e | ⟨hj', e⟩
    · rw [e, zero_cp] at hcp; cases hcp
    · rw [e, ht j hj'] at h3
      simp only at h3
      omega
end
/-- at each place of an area lies nothing -/
theorem empty_rows {N : Nat → Nat → List Int} {al : List Nat} {a : Nat} (h : ∀ d ∈ al, ∀ i, i < 32 → N d (50 + 32 * a + i) = zeroB) : (∀ i, (rowsN N al a).getD i [] = []) ∧ ∀ s, seenA (rowsN N al a) s = s := by
  have h1 : ∀ i, i < 32 → (al.map fun d => N d (50 + 32 * a + i)).filter cpPart = [] := fun i hi => by
    rw [List.filter_eq_nil_iff]
    intro y hy
    rw [List.mem_map] at hy
    obtain ⟨d, hd, rfl⟩ := hy
    rw [h d hd i hi, zero_cp]; decide
  refine ⟨fun i => ?_, fun s => ?_⟩
  · by_cases hi : i < 32
    · rw [rowsN_at N al a hi, h1 i hi]
    · rw [List.getD_eq_getElem?_getD, List.getElem?_eq_none (by simp [rowsN]; omega)]; rfl
  · obtain ⟨_, _, h3⟩ := seenA_ge (rowsN N al a) s
    rcases h3 with h3 | ⟨l, hl, y, hy, _⟩
    · exact h3
    · obtain ⟨j, hj, rfl⟩ := rowsN_mem hl
      rw [h1 j hj] at hy; cases hy
section
variable {T : BankT} {n z t : Nat} {dd : Nat → Bool} {N : Nat → Nat → List Int}
/-- Load on a quiet bank -/
theorem Quiet.load (h : Quiet T n z dd N t) (hz : 114 ≤ z) (ls : List Nat) (hls : ∀ d ∈ ls, d < n) {al : List Nat} (hal : (ls.filter fun d => !dd d) = al) (h0 : al ≠ []) :
    loadC T.read (natI ls) = (((Best.zero.inArea 0 (rowsN N al 0)).inArea 1 (rowsN N al 1)), if ((Best.zero.inArea 0 (rowsN N al 0)).inArea 1 (rowsN N al 1)).found = true then 0 else 8) := by
  have key : ∀ a : Nat, a < 2 → areaTo T.read (natI ls) (50 + 32 * (a : Int)) 32 = (rowsN N al a, 0) := fun a ha => by
    have hr := areaTo_rows T.read (natI ls) (50 + 32 * (a : Int)) 32 (fun i hi => by
      have e : (50 + 32 * (a : Int)) + (i : Int) = ((50 + 32 * a + i : Nat) : Int) := by omega
      obtain ⟨h1, h2⟩ := h.seesQ (a := 50 + 32 * a + i) (by omega) ls hls
      rw [e]
      refine ⟨h2, ?_⟩
      rw [h1, hal]
      simpa using h0)
    rw [hr]
    congr 1
    unfold rowsA rowsN
    refine List.map_congr_left fun i hi => ?_
    rw [List.mem_range] at hi
    have e : (50 + 32 * (a : Int)) + (i : Int) = ((50 + 32 * a + i : Nat) : Int) := by omega
    rw [e, (h.seesQ (a := 50 + 32 * a + i) (by omega) ls hls).1, hal]
  have k0 : areaTo T.read (natI ls) 50 32 = (rowsN N al 0, 0) := key 0 (by decide)
  have k1 : areaTo T.read (natI ls) 82 32 = (rowsN N al 1, 0) := key 1 (by decide)
  unfold loadC
  rw [k0, k1]
  rfl
/-- Save on a quiet bank -/
theorem Quiet.save (h : Quiet T n z dd N t) (hz : 114 ≤ z) (ls : List Nat) (hls : ∀ d ∈ ls, d < n) {area : Nat} (ha : area < 2) {gen : Int} {x : List Int} (hx : x.length ≤ 1696) (hb : ∀ y ∈ x, IsByte y) :
    ∃ T', T.saveC (natI ls) area gen x = (T', if ∀ d ∈ ls, dd d = true then 5 else 0) ∧ Quiet T' n z dd (layAll N (50 + 32 * area) (splitB gen 0 x) ls) (t + ls.length * 33) := by
  have h32 := parts_le hx
  obtain ⟨T', e, h'⟩ := Quiet.layM (n := n) (z := z) (dd := dd) (p := 50 + 32 * area) (splitB_sec (gen := gen) (num := 0) hb) (by rw [splitB_len]; omega) (by omega) ls 0 hls h
  refine ⟨T', ?_, h'.mono (by rw [splitB_len]; exact Nat.add_le_add_left (Nat.mul_le_mul_left _ (by omega)) _)⟩
  unfold BankT.saveC
  rw [if_neg (by omega)]
  have e1 : (50 + 32 * (area : Int)) = ((50 + 32 * area : Nat) : Int) := by omega
  rw [e1]
  unfold natI
  rw [e]
  simp
end
end Go.Proofs.YtpeclkhppgabfaaDoor
/- What law10 must show in any case. -/
namespace Go.Proofs.YtpeclkhppgabfaaDoor
open Go.RowKit
set_option linter.unusedVariables false
set_option linter.unusedSimpArgs false

def stateB : List Int := [115, 116, 97, 116, 101]
theorem stateB_byte : ∀ x ∈ stateB, IsByte x := by intro x hx; simp [stateB] at hx; rcases hx with rfl | rfl | rfl | rfl | rfl <;> exact ⟨by decide, by decide⟩
/-- the first of two disks, and both -/
theorem quiet2 : Quiet (addZ 200 2) 2 200 (fun _ => false) (fun _ _ => zeroB) 0 := Quiet.start (by decide) (by decide)
theorem InA.none {A : List (List (List Int))} {V : Int → Prop} {X : Int → List Int} {area : Int} {b b' : Best} (h : InA A V X area b b') (hn : ∀ g, ¬ AllC A V X g) : b'.found = b.found ∧ b'.area = b.area ∧ b'.gen = b.gen ∧ b'.bytes = b.bytes := by
  rcases h.one with ⟨_, _, h1, _⟩ | h1
  · exact absurd h1 (hn _)
  · exact h1
theorem InA.fresh {A : List (List (List Int))} {g : Int} {x : List Int} {area : Int} {b b' : Best} (h : InA A (fun y => y = g) (fun _ => x) area b b') (hc : AllC A (fun y => y = g) (fun _ => x) g) (hb : b.found = false ∨ b.gen < g) : b'.found = true ∧ b'.area = area ∧ b'.gen = g ∧ b'.bytes = x := by
  rcases h.one with ⟨h1, h2, h3, h4, _⟩ | ⟨h1, _, h3, _⟩
  · exact ⟨h1, h2, h3.1, h4⟩
  · obtain ⟨h5, h6⟩ := h.all g hc
    rcases hb with hb | hb
    · rw [h1, hb] at h5; cases h5
    · rw [h3] at h6; omega
theorem InA.old {A : List (List (List Int))} {g : Int} {x : List Int} {area : Int} {b b' : Best} (h : InA A (fun y => y = g) (fun _ => x) area b b') (hb : b.found = true ∧ g ≤ b.gen) : b'.found = b.found ∧ b'.area = b.area ∧ b'.gen = b.gen ∧ b'.bytes = b.bytes := by
  rcases h.one with ⟨_, _, h3, _, h5⟩ | h1
  · have := h5 hb.1
    rw [h3.1] at this
    exact absurd this (by omega)
  · exact h1
theorem empty_area {N : Nat → Nat → List Int} {al : List Nat} {a : Nat} (h : ∀ d ∈ al, ∀ i, i < 32 → N d (50 + 32 * a + i) = zeroB) : AreaC (rowsN N al a) (fun _ => False) (fun _ => []) := by
  obtain ⟨h1, _⟩ := empty_rows h
  exact ⟨fun _ h => h.elim, fun _ h => h.elim, fun i _ s hs => by rw [h1 i] at hs; cases hs⟩
theorem Best.ext4 {b : Best} {a g s : Int} {x : List Int} (h : b.found = true ∧ b.area = a ∧ b.gen = g ∧ b.bytes = x) (hs : b.seen = s) : b = ⟨a, g, x, s, true⟩ := by
  obtain ⟨h1, h2, h3, h4⟩ := h
  cases b
  simp only at h1 h2 h3 h4 hs
  subst h1; subst h2; subst h3; subst h4; subst hs; rfl
/-- one area has a state, the other one nothing -/
theorem load_one {T : BankT} {n z t : Nat} {dd : Nat → Bool} {N : Nat → Nat → List Int} (h : Quiet T n z dd N t) (hz : 114 ≤ z) (ls : List Nat) (hls : ∀ d ∈ ls, d < n) {al : List Nat} (hal : (ls.filter fun d => !dd d) = al) (h0 : al ≠ [])
    {a : Nat} (ha : a < 2) {g : Int} {x : List Int} (hg : 0 ≤ g ∧ g < 4294967296) (hx : x.length ≤ 1696) (hm : MixA N al a g x) (he : ∀ d ∈ al, ∀ i, i < 32 → N d (50 + 32 * (1 - a) + i) = zeroB) (hall : ∀ i, i < partsN x.length → ∃ d ∈ al, N d (50 + 32 * a + i) = (splitB g 0 x).getD i []) :
    loadC T.read (natI ls) = (⟨(a : Int), g, x, g, true⟩, 0) := by
  rw [h.load hz ls hls hal h0]
  have hp := (partsN_pos (show x.length ≤ 2120 by omega)).1
  have hcm : AllC (rowsN N al a) (fun y => y = g) (fun _ => x) g := ⟨rfl, fun i hi => (hm.mem hg hx hi).2 (hall i hi)⟩
  obtain ⟨d0, hd0, hp0⟩ := hall 0 (by omega)
  have ha' : a = 0 ∨ a = 1 := by omega
  rcases ha' with rfl | rfl
  · have i0 := (hm.areaC hg hx).inArea 0 Best.zero
    have i1 := (empty_area (a := 1) he).inArea 1 (Best.zero.inArea 0 (rowsN N al 0))
    have r0 := i0.fresh hcm (.inl rfl)
    have r1 := i1.none (fun g h => h.1)
    have s0 : (Best.zero.inArea 0 (rowsN N al 0)).seen = g := by rw [i0.seen, hm.seen hg hx _ (by omega) hd0 hp0]; show max 0 g = g; omega
    have s1 : ((Best.zero.inArea 0 (rowsN N al 0)).inArea 1 (rowsN N al 1)).seen = g := by rw [i1.seen, (empty_rows (a := 1) he).2, s0]
    have e := Best.ext4 (a := 0) (g := g) (x := x) ⟨r1.1.trans r0.1, r1.2.1.trans r0.2.1, r1.2.2.1.trans r0.2.2.1, r1.2.2.2.trans r0.2.2.2⟩ s1
    rw [e]; rfl
  · have i0 := (empty_area (a := 0) he).inArea 0 Best.zero
    have i1 := (hm.areaC hg hx).inArea 1 (Best.zero.inArea 0 (rowsN N al 0))
    have r0 := i0.none (fun g h => h.1)
    have r1 := i1.fresh hcm (.inl (r0.1.trans rfl))
    have s0 : (Best.zero.inArea 0 (rowsN N al 0)).seen = 0 := by rw [i0.seen, (empty_rows (a := 0) he).2]; rfl
    have s1 : ((Best.zero.inArea 0 (rowsN N al 0)).inArea 1 (rowsN N al 1)).seen = g := by rw [i1.seen, hm.seen hg hx _ (by omega) hd0 hp0, s0]; omega
    have e := Best.ext4 (a := 1) (g := g) (x := x) r1 s1
    rw [e]; rfl
/-- nothing in either -/
theorem load_none {T : BankT} {n z t : Nat} {dd : Nat → Bool} {N : Nat → Nat → List Int} (h : Quiet T n z dd N t) (hz : 114 ≤ z) (ls : List Nat) (hls : ∀ d ∈ ls, d < n) {al : List Nat} (hal : (ls.filter fun d => !dd d) = al) (h0 : al ≠ [])
    (he : ∀ d ∈ al, ∀ a, a < 2 → ∀ i, i < 32 → N d (50 + 32 * a + i) = zeroB) : loadC T.read (natI ls) = (Best.zero, 8) := by
  rw [h.load hz ls hls hal h0]
  have e0 : ∀ d ∈ al, ∀ i, i < 32 → N d (50 + 32 * 0 + i) = zeroB := fun d hd => he d hd 0 (by decide)
  have e1 : ∀ d ∈ al, ∀ i, i < 32 → N d (50 + 32 * 1 + i) = zeroB := fun d hd => he d hd 1 (by decide)
  have i0 := (empty_area (a := 0) e0).inArea 0 Best.zero
  have i1 := (empty_area (a := 1) e1).inArea 1 (Best.zero.inArea 0 (rowsN N al 0))
  have r0 := i0.none (fun g h => h.1)
  have r1 := i1.none (fun g h => h.1)
  have s1 : ((Best.zero.inArea 0 (rowsN N al 0)).inArea 1 (rowsN N al 1)).seen = 0 := by rw [i1.seen, (empty_rows (a := 1) e1).2, i0.seen, (empty_rows (a := 0) e0).2]; rfl
  have e : (Best.zero.inArea 0 (rowsN N al 0)).inArea 1 (rowsN N al 1) = Best.zero := by
    have q1 := r1.1.trans r0.1; have q2 := r1.2.1.trans r0.2.1; have q3 := r1.2.2.1.trans r0.2.2.1; have q4 := r1.2.2.2.trans r0.2.2.2
    generalize (Best.zero.inArea 0 (rowsN N al 0)).inArea 1 (rowsN N al 1) = b at *
    cases b
    simp only at q1 q2 q3 q4 s1
    rw [q1, q2, q3, q4, s1]; rfl
  rw [e]; rfl
theorem layAll_mix {g : Int} {x : List Int} {a : Nat} {ls al : List Nat} (hal : ∀ d ∈ al, d ∈ ls) {N : Nat → Nat → List Int} (hN : ∀ d ∈ al, ∀ i, i < 32 → N d (50 + 32 * a + i) = zeroB) :
    MixA (layAll N (50 + 32 * a) (splitB g 0 x) ls) al a g x ∧ ∀ i, i < partsN x.length → ∀ d ∈ al, layAll N (50 + 32 * a) (splitB g 0 x) ls d (50 + 32 * a + i) = (splitB g 0 x).getD i [] := by
  have key : ∀ d ∈ al, ∀ i, layAll N (50 + 32 * a) (splitB g 0 x) ls d (50 + 32 * a + i) = if i < partsN x.length then (splitB g 0 x).getD i [] else N d (50 + 32 * a + i) := fun d hd i => by
    rw [layAll_at, splitB_len]
    by_cases hi : i < partsN x.length
    · rw [if_pos ⟨hal d hd, by omega, by omega⟩, if_pos hi, show 50 + 32 * a + i - (50 + 32 * a) = i by omega]
    · rw [if_neg (fun h => by omega), if_neg hi]
  refine ⟨fun d hd i hi => ?_, fun i hi d hd => by rw [key d hd, if_pos hi]⟩
  rw [key d hd]
  by_cases h : i < partsN x.length
  · right; exact ⟨h, if_pos h⟩
  · left; rw [if_neg h]; exact hN d hd i hi
theorem layAll_other {N : Nat → Nat → List Int} {p : Nat} {P : List (List Int)} {ls : List Nat} {d k : Nat} (h : k < p ∨ p + P.length ≤ k) : layAll N p P ls d k = N d k := by
  rw [layAll_at, if_neg (fun hh => by omega)]
section
set_option maxHeartbeats 4000000
set_option maxRecDepth 100000
theorem law_shown10 (w : World) : Calls Tryd.prog 13 #[] w fun e w' => e = .returned (.bool true) ∧ Kept w w' := by
  obtain ⟨T1, hs1, hq1⟩ := quiet2.save (by decide) [0, 1] (by intro d hd; simp at hd; omega) (area := 1) (by decide) (gen := 3) (x := stateB) (by decide) stateB_byte
  have hl0 := load_none quiet2 (by decide) [0, 1] (by intro d hd; simp at hd; omega) (al := [0, 1]) rfl (by simp) (fun _ _ _ _ _ _ => rfl)
  obtain ⟨hm, hall⟩ := layAll_mix (g := 3) (x := stateB) (a := 1) (ls := [0, 1]) (al := [1]) (by simp) (N := fun _ _ => zeroB) (fun _ _ _ _ => rfl)
  have hl1 := load_one hq1 (by decide) [1] (by intro d hd; simp at hd; omega) (al := [1]) rfl (by simp) (a := 1) (by decide) (g := 3) (x := stateB) (by decide) (by decide) hm (fun d hd i hi => layAll_other (.inl (by omega))) (fun i hi => ⟨1, by simp, hall i hi 1 (by simp)⟩)
  have e0 : natI [0, 1] = [0, 1] := rfl
  have e1 : natI [1] = [1] := rfl
  rw [e0] at hs1 hl0
  rw [e1] at hl1
  have hs1' : (addZ 200 2).saveC [0, 1] 1 3 stateB = (T1, 0) := by rw [hs1, if_neg (fun h => by have := h 0 (by simp); cases this)]
  have HS1 := Lib.hid hs1'
  have HL0 := Lib.hid hl0
  have HL1 := Lib.hid hl1
  have HU0 := Lib.hid (quiet2.useN (by decide) 100 (by decide))
  have HU1 := Lib.hid (hq1.use (by decide) (by simp))
  clear hs1 hl0 hl1 hs1' hm hall hq1 e0 e1
  go_enter Tryd.func13, Tryd.ntmps13
  go_wp2_with fail
  refine Calls.mono (bank10 2 (by decide) w w (fun k => k ∈ ([] : List Nat)) (Kept.refl _) (fun k h => by cases h)) ?_
  rintro e w1 ⟨q, rfl, hb1, _⟩
  have HB1 := Lib.hid hb1
  clear hb1
  go_wp2_with (refine stop_at (o := ⟨some 12, _, _, _, _, _⟩) ?_)
  refine Stop.mk ?_
  refine wpList_lit_ints rfl 2 (by decide) _ rfl [0, 1] (by kernel_rfl) ?_
  intro w2 hz2 hs2 hk2
  have HC2 := Lib.hid (by simpa using Cells.of_block hz2.out : Cells w2 w1.heap.size 0 (ints [0, 1]))
  have HB2 := Lib.hid (HB1.out.kept hk2).1
  generalize w1.heap.size = B at *
  clear hz2 hs2 hk2 HB1
  have hc := check_Load HB2.out HU0.out.use B 2 [0, 1] HC2.out (by decide)
  rw [HL0.out] at hc
  have HC := Lib.hid hc
  clear hc
  go_wp2_with fail
  refine Calls.mono HC.out ?_
  rintro e w3 ⟨bv, rfl, hown, hk3⟩
  have HB3 := Lib.hid (HB2.out.kept hk3).1
  clear hk3 HC HC2 HB2
  go_wp2_with (refine stop_at (o := ⟨some 2, _, _, _, _, _⟩) ?_)
  refine Stop.mk ?_
  refine wpList_new_row rfl rfl _ _ rfl rfl ty_found zeroF zero_found rfl (bestVals Best.zero bv) rfl rfl (best_one hown) rfl ?_
  intro w4 hz4 hs4 hk4
  have HB4 := Lib.hid (HB3.out.kept hk4).1
  clear hz4 hs4 hk4 HB3 hown
  go_wp2_with (refine stop_at (o := ⟨some 17, _, _, _, _, _⟩) ?_)
  refine Stop.mk ?_
  refine wpList_lit_ints rfl 2 (by decide) _ rfl [0, 1] (by kernel_rfl) ?_
  intro w5 hz5 hs5 hk5
  have HC5 := Lib.hid (by simpa using Cells.of_block hz5.out : Cells w5 w4.heap.size 0 (ints [0, 1]))
  have HB5 := Lib.hid (HB4.out.pushR hk5 w4.heap.size (Nat.le_refl _) hs5)
  generalize w4.heap.size = B2 at *
  clear hz5 hs5 hk5 HB4
  refine wpList_str_bytes rfl rfl 5 (by decide) _ rfl _ rfl stateB (by kernel_rfl) rfl ?_
  intro w6 hz6 hs6 hk6
  have HX6 := hz6
  have HB6 := Lib.hid (HB5.out.kept hk6).1
  have HC6 := Lib.hid (HC5.out.kept hk6)
  generalize w5.heap.size = B3 at *
  clear hz6 hs6 hk6 HB5 HC5
  have hc := check_Save HB6.out B2 2 [0, 1] (by simp) HC6.out (by decide) 1 (by decide) 3 (by decide) (.slice (some ⟨B3, 0, none⟩) 5 5) stateB (Src.of_cells (n := 5) (c := 5) HX6.out rfl (by decide)) (by decide) stateB_byte (HU0.out.less (by decide))
  rw [HS1.out] at hc
  have HC := Lib.hid hc
  clear hc
  go_wp2_with fail
  refine Calls.mono HC.out ?_
  rintro e w7 ⟨rfl, hb7, hs7⟩
  have HB7 : Hid (BK w (fun k => k ∈ [B2]) w7 q T1) := Lib.hid hb7
  clear hb7 hs7 HC HB6 HC6 HX6
  go_wp2_with (refine stop_at (o := ⟨some 23, _, _, _, _, _⟩) ?_)
  refine Stop.mk ?_
  refine wpList_lit_ints rfl 1 (by decide) _ rfl [1] (by kernel_rfl) ?_
  intro w8 hz8 hs8 hk8
  have HC8 := Lib.hid (by simpa using Cells.of_block hz8.out : Cells w8 w7.heap.size 0 (ints [1]))
  have HB8 := Lib.hid (HB7.out.kept hk8).1
  generalize w7.heap.size = B4 at *
  clear hz8 hs8 hk8 HB7
  have hc := check_Load HB8.out HU1.out B4 1 [1] HC8.out (by decide)
  rw [HL1.out] at hc
  have HC := Lib.hid hc
  clear hc
  go_wp2_with fail
  refine Calls.mono HC.out ?_
  rintro e w9 ⟨bv2, rfl, hown, hk9⟩
  have HB9 := Lib.hid (HB8.out.kept hk9).1
  clear hk9 HC HC8 HB8
  go_wp2_with (refine stop_at (o := ⟨some 5, _, _, _, _, _⟩) ?_)
  refine Stop.mk ?_
  refine wpList_new_row rfl rfl _ _ rfl rfl ty_found zeroF zero_found rfl (bestVals ⟨((1 : Nat) : Int), 3, stateB, 3, true⟩ bv2) rfl rfl (best_one hown) rfl ?_
  intro w10 hz10 hs10 hk10
  have HK10 := Lib.hid (HB9.out.kept hk10).1.keeps
  have HO10 := Lib.hid (own_src (ownsRow_kept hown hk10))
  have f0 : w10.cell? ⟨w9.heap.size, 0, none⟩ = some (.int .i64 1) := cell_of_row _ _ 0 _ _ _ hz10.out
  have f1 : w10.cell? ⟨w9.heap.size, 1, none⟩ = some (.int .i64 3) := cell_of_row _ _ 1 _ _ _ hz10.out
  have f2 : w10.cell? ⟨w9.heap.size, 2, none⟩ = some bv2 := cell_of_row _ _ 2 _ _ _ hz10.out
  have f3 : w10.cell? ⟨w9.heap.size, 3, none⟩ = some (.int .i64 3) := cell_of_row _ _ 3 _ _ _ hz10.out
  generalize w9.heap.size = B5 at *
  clear hz10 hs10 hk10 HB9 hown
  go_wp2_with (refine stop_at (o := ⟨some 55, _, _, _, _, _⟩) ?_)
  refine Stop.mk ?_
  refine wpList_conv_str rfl _ rfl bv2 rfl stateB HO10.out stateB_byte ?_
  have hstr : (strB stateB).toList = [115, 116, 97, 116, 101] := by rw [strB_toList]; decide
  go_wp2
  go_ret
  exact ⟨rfl, HK10.out⟩
end
end Go.Proofs.YtpeclkhppgabfaaDoor
