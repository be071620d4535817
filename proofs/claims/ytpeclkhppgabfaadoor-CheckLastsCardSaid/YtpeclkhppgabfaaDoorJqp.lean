/- A journal on a quiet bank: plain Lean. -/
import Derived.Test.YtpeclkhppgabfaaDoorPaN
import Derived.Test.YtpeclkhppgabfaaDoorApd
import Derived.Test.YtpeclkhppgabfaaDoorScn
import Derived.Test.YtpeclkhppgabfaaDoorPaL
namespace Go.Proofs.YtpeclkhppgabfaaDoor
open Go.RowKit
set_option linter.unusedVariables false
set_option linter.unusedSimpArgs false

/-- what the journal's places hold: the records' parts, one behind the other -/
def jourL (gen : Int) : Nat → List (List Int) → List (List Int)
  | _, [] => []
  | k, b :: R => splitB gen (k : Int) b ++ jourL gen (k + 1) R
theorem jourL_len (gen : Int) : ∀ (R : List (List Int)) (k : Nat), (jourL gen k R).length = posN R
  | [], k => rfl
  | b :: R, k => by unfold jourL posN; rw [List.length_append, splitB_len, jourL_len gen R]
theorem jourL_append (gen : Int) (S : List (List Int)) : ∀ (R : List (List Int)) (k : Nat), jourL gen k (R ++ S) = jourL gen k R ++ jourL gen (k + R.length) S
  | [], k => by simp [jourL]
  | b :: R, k => by
    have e : k + 1 + R.length = k + (R.length + 1) := by omega
    show splitB gen (k : Int) b ++ jourL gen (k + 1) (R ++ S) = (splitB gen (k : Int) b ++ jourL gen (k + 1) R) ++ jourL gen (k + (b :: R).length) S
    rw [jourL_append gen S R (k + 1), List.append_assoc, List.length_cons, e]
theorem getD_append_l {α : Type} {l m : List α} {i : Nat} (h : i < l.length) (d : α) : (l ++ m).getD i d = l.getD i d := by
  rw [List.getD_eq_getElem?_getD, List.getD_eq_getElem?_getD, List.getElem?_append_left h]
theorem getD_append_r {α : Type} {l m : List α} {i : Nat} (h : l.length ≤ i) (d : α) : (l ++ m).getD i d = m.getD (i - l.length) d := by
  rw [List.getD_eq_getElem?_getD, List.getD_eq_getElem?_getD, List.getElem?_append_right h]
theorem jourL_get (gen : Int) : ∀ (R : List (List Int)) (k r i : Nat), r < R.length → i < partsN (R.getD r []).length → (jourL gen k R).getD (posN (R.take r) + i) [] = (splitB gen ((k + r : Nat) : Int) (R.getD r [])).getD i []
  | [], k, r, i, h, _ => by cases h
  | b :: R, k, 0, i, h, hi => by
    have hi' : i < partsN b.length := hi
    unfold jourL
    simp only [List.take_zero, posN, Nat.zero_add, Nat.add_zero]
    rw [getD_append_l (by rw [splitB_len]; exact hi')]
    rfl
  | b :: R, k, r + 1, i, h, hi => by
    have hi' : i < partsN (R.getD r []).length := hi
    have h' : r < R.length := by simpa using h
    unfold jourL
    rw [List.take_succ_cons]
    unfold posN
    rw [getD_append_r (by rw [splitB_len]; omega), splitB_len, show partsN b.length + posN (R.take r) + i - partsN b.length = posN (R.take r) + i by omega, jourL_get gen R (k + 1) r i h' hi', show k + 1 + r = k + (r + 1) by omega]
    rfl
theorem jourL_at (gen : Int) : ∀ (R : List (List Int)) (k p : Nat), p < posN R → ∃ r i, r < R.length ∧ i < partsN (R.getD r []).length ∧ p = posN (R.take r) + i
  | [], k, p, h => by cases h
  | b :: R, k, p, h => by
    unfold posN at h
    by_cases hp : p < partsN b.length
    · exact ⟨0, p, by simp, hp, by simp [posN]⟩
    · obtain ⟨r, i, hr, hi, e⟩ := jourL_at gen R (k + 1) (p - partsN b.length) (by omega)
      refine ⟨r + 1, i, by simp; exact hr, hi, ?_⟩
      rw [List.take_succ_cons]; unfold posN; omega
/-- what lies on the living disks: of generation gen nothing but R's parts -/
def OnlyJ (N : Nat → Nat → List Int) (al : List Nat) (gen : Int) (R : List (List Int)) : Prop := ∀ d ∈ al, ∀ p, p < 48 → isTag (N d (2 + p)) = true → (tagRaw (N d (2 + p))).gen = gen → p < posN R ∧ N d (2 + p) = (jourL gen 0 R).getD p []
/-- .. and all of them -/
def AllJ (N : Nat → Nat → List Int) (al : List Nat) (gen : Int) (R : List (List Int)) : Prop := ∀ d ∈ al, ∀ p, p < posN R → N d (2 + p) = (jourL gen 0 R).getD p []
structure RecsOk (R : List (List Int)) : Prop where
  len : ∀ b ∈ R, b.length ≤ 2120
  byte : ∀ b ∈ R, ∀ y ∈ b, IsByte y
  fit : posN R ≤ 48
section
variable {T : BankT} {n z t : Nat} {dd : Nat → Bool} {N : Nat → Nat → List Int} {ls al : List Nat} {gen : Int} {R : List (List Int)}
theorem Quiet.jour (h : Quiet T n z dd N t) (hz : 50 ≤ z) (hls : ∀ d ∈ ls, d < n) (hal : (ls.filter fun d => !dd d) = al) (h0 : al ≠ []) (hg : 0 ≤ gen ∧ gen < 4294967296) (hR : RecsOk R) (ho : OnlyJ N al gen R) : Jour T.read (natI ls) gen R := by
  have hsee : ∀ p : Nat, p < 48 → sees T.read (natI ls) (2 + (p : Int)) = al.map (fun d => N d (2 + p)) ∧ CalmR T.read (natI ls) (2 + (p : Int)) := fun p hp => by
    have := h.seesQ (a := 2 + p) (by omega) ls hls
    rw [show ((2 + p : Nat) : Int) = 2 + (p : Int) by omega, hal] at this
    exact this
  refine ⟨hg, hR.len, hR.fit, fun p hp => ⟨(hsee p hp).2, by rw [(hsee p hp).1]; simpa using h0⟩, fun p hp s hs h1 h2 => ?_⟩
  rw [(hsee p hp).1, List.mem_map] at hs
  obtain ⟨d, hd, rfl⟩ := hs
  obtain ⟨hlt, e⟩ := ho d hd p hp h1 h2
  obtain ⟨r, i, hr, hi, rfl⟩ := jourL_at gen R 0 p hlt
  refine ⟨r, i, hr, hi, rfl, ?_⟩
  rw [e, jourL_get gen R 0 r i hr hi, Nat.zero_add]
theorem Quiet.full (h : Quiet T n z dd N t) (hz : 50 ≤ z) (hls : ∀ d ∈ ls, d < n) (hal : (ls.filter fun d => !dd d) = al) (hR : posN R ≤ 48) {r : Nat} (hr : r < R.length)
    (ha : ∀ i, i < partsN (R.getD r []).length → ∃ d ∈ al, N d (2 + (posN (R.take r) + i)) = (jourL gen 0 R).getD (posN (R.take r) + i) []) : FullR T.read (natI ls) gen R r := by
  intro i hi
  obtain ⟨d, hd, e⟩ := ha i hi
  have hp1 := posN_take hr
  have hp2 := posN_le R (r + 1)
  have := h.seesQ (a := 2 + (posN (R.take r) + i)) (by omega) ls hls
  rw [show ((2 + (posN (R.take r) + i) : Nat) : Int) = 2 + ((posN (R.take r) : Int) + (i : Int)) by omega, hal] at this
  rw [this.1, List.mem_map]
  refine ⟨d, hd, ?_⟩
  rw [e, jourL_get gen R 0 r i hr hi, Nat.zero_add]
/-- Scan tells all -/
theorem Quiet.scan (h : Quiet T n z dd N t) (hz : 50 ≤ z) (hls : ∀ d ∈ ls, d < n) (hal : (ls.filter fun d => !dd d) = al) (h0 : al ≠ []) (hg : 0 ≤ gen ∧ gen < 4294967296) (hR : RecsOk R) (ho : OnlyJ N al gen R) (ha : AllJ N al gen R) : scanL T.read (natI ls) gen 48 0 [] = (R, posN R, 0) := by
  have hj := h.jour hz hls hal h0 hg hR ho
  obtain ⟨d, hd⟩ := List.exists_mem_of_ne_nil _ h0
  have := hj.scan0 (m := R.length) (Nat.le_refl _) (fun r hr => h.full hz hls hal hR.fit hr fun i hi => ⟨d, hd, ha d hd _ (by have := posN_take hr; have := posN_le R (r + 1); omega)⟩) (fun hh => absurd hh (Nat.lt_irrefl _))
  rw [List.take_length] at this
  exact this
/-- Append on a quiet bank -/
theorem Quiet.app_full (lt : LogT) (hd : lt.dead = false) {b : List Int} (hf : 48 < lt.pos + partsN b.length) (L : List Int) : lt.app T L b = (lt, T, 10) := by
  unfold LogT.app; rw [if_neg (by rw [hd]; decide), if_pos hf]
theorem Quiet.app (h : Quiet T n z dd N t) (hz : 50 ≤ z) (hls : ∀ d ∈ ls, d < n) (hal : ∃ d ∈ ls, dd d = false) (hg : 0 ≤ gen ∧ gen < 4294967296) {b : List Int} (hb : ∀ y ∈ b, IsByte y) {num pos : Nat} (hp1 : 1 ≤ partsN b.length) (hf : pos + partsN b.length ≤ 48) :
    ∃ T', (⟨gen, num, pos, false⟩ : LogT).app T (natI ls) b = (⟨gen, num + 1, pos + partsN b.length, false⟩, T', 0) ∧ Quiet T' n z dd (layAll N (2 + pos) (splitB gen num b) ls) (t + ls.length * (partsN b.length + 1)) := by
  obtain ⟨T', e, h'⟩ := Quiet.layM (n := n) (z := z) (dd := dd) (p := 2 + pos) (splitB_sec (gen := gen) (num := (num : Int)) hb) (by rw [splitB_len]; omega) (by omega) ls 0 hls h
  rw [splitB_len] at h'
  refine ⟨T', ?_, h'⟩
  have hno : ¬ ((0 : Nat) = 0 ∧ ∀ d ∈ ls, dd d = true) := fun hh => by
    obtain ⟨d, hd, e⟩ := hal
    have := hh.2 d hd
    rw [e] at this; cases this
  rw [if_neg hno, show ((2 + pos : Nat) : Int) = 2 + (pos : Int) by omega] at e
  unfold LogT.app natI
  simp only []
  rw [if_neg (by decide), if_neg (by omega), e]
  simp only [if_true]
theorem posN_snoc (R : List (List Int)) (b : List Int) : posN (R ++ [b]) = posN R + partsN b.length := by rw [posN_append]; simp [posN]
theorem jourL_snoc (gen : Int) (R : List (List Int)) (b : List Int) : jourL gen 0 (R ++ [b]) = jourL gen 0 R ++ splitB gen (R.length : Int) b := by
  rw [jourL_append]; simp [jourL]
theorem AllJ.app (ha : AllJ N al gen R) (hs : ∀ d ∈ al, d ∈ ls) (b : List Int) : AllJ (layAll N (2 + posN R) (splitB gen R.length b) ls) al gen (R ++ [b]) := by
  intro d hd p hp
  rw [posN_snoc] at hp
  rw [layAll_at, splitB_len, jourL_snoc]
  by_cases h : p < posN R
  · rw [if_neg (by omega), ha d hd p h, getD_append_l (by rw [jourL_len]; exact h)]
  · rw [if_pos ⟨hs d hd, by omega, by omega⟩, getD_append_r (by rw [jourL_len]; omega), jourL_len, show 2 + p - (2 + posN R) = p - posN R by omega]
theorem OnlyJ.app (ho : OnlyJ N al gen R) (hs : ∀ d ∈ al, d ∈ ls) (b : List Int) : OnlyJ (layAll N (2 + posN R) (splitB gen R.length b) ls) al gen (R ++ [b]) := by
  intro d hd p hp h1 h2
  rw [posN_snoc, jourL_snoc]
  rw [layAll_at, splitB_len] at h1 h2 ⊢
  by_cases h : posN R ≤ p ∧ p < posN R + partsN b.length
  · rw [if_pos ⟨hs d hd, by omega, by omega⟩] at h1 h2 ⊢
    refine ⟨by omega, ?_⟩
    rw [getD_append_r (by rw [jourL_len]; omega), jourL_len, show 2 + p - (2 + posN R) = p - posN R by omega]
  · rw [if_neg (by omega)] at h1 h2 ⊢
    obtain ⟨h3, h4⟩ := ho d hd p hp h1 h2
    exact ⟨by omega, by rw [h4, getD_append_l (by rw [jourL_len]; exact h3)]⟩
theorem RecsOk.app (hR : RecsOk R) {b : List Int} (hl : b.length ≤ 2120) (hb : ∀ y ∈ b, IsByte y) (hf : posN R + partsN b.length ≤ 48) : RecsOk (R ++ [b]) := by
  refine ⟨fun x hx => ?_, fun x hx => ?_, by rw [posN_snoc]; exact hf⟩
  · rcases List.mem_append.1 hx with hx | hx
    · exact hR.len x hx
    · rw [List.mem_singleton] at hx; exact hx ▸ hl
  · rcases List.mem_append.1 hx with hx | hx
    · exact hR.byte x hx
    · rw [List.mem_singleton] at hx; exact hx ▸ hb
end
theorem RecsOk.nil : RecsOk [] := ⟨(fun _ h => by cases h), (fun _ h => by cases h), by decide⟩
theorem OnlyJ.zero (al : List Nat) (gen : Int) : OnlyJ (fun _ _ => zeroB) al gen [] := fun d _ p _ h => by rw [zero_no] at h; cases h
theorem AllJ.nil (N : Nat → Nat → List Int) (al : List Nat) (gen : Int) : AllJ N al gen [] := fun d _ p h => by cases h
/-- a log of its own on a quiet bank: what was taken -/
structure LogQ (T : BankT) (n : Nat) (dd : Nat → Bool) (N : Nat → Nat → List Int) (t : Nat) (al : List Nat) (gen : Int) (R : List (List Int)) : Prop where
  q : Quiet T n 200 dd N t
  ok : RecsOk R
  only : OnlyJ N al gen R
  all : AllJ N al gen R
theorem LogQ.start {n : Nat} (hn : n ≤ 31) (al : List Nat) (gen : Int) : LogQ (addZ 200 n) n (fun _ => false) (fun _ _ => zeroB) 0 al gen [] := ⟨Quiet.start (by decide) hn, RecsOk.nil, OnlyJ.zero al gen, AllJ.nil _ _ _⟩
theorem LogQ.num {T : BankT} {n : Nat} {dd : Nat → Bool} {N : Nat → Nat → List Int} {t : Nat} {al : List Nat} {gen : Int} {R : List (List Int)} (h : LogQ T n dd N t al gen R) : R.length ≤ 48 := by
  have := posN_ge R h.ok.len
  have := h.ok.fit
  omega
theorem LogQ.app {T : BankT} {n : Nat} {dd : Nat → Bool} {N : Nat → Nat → List Int} {t : Nat} {ls al : List Nat} {gen : Int} {R : List (List Int)} (h : LogQ T n dd N t al gen R) (hls : ∀ d ∈ ls, d < n) (hs : ∀ d ∈ al, d ∈ ls) (hal : ∃ d ∈ ls, dd d = false) (hg : 0 ≤ gen ∧ gen < 4294967296) {b : List Int} (hl : b.length ≤ 2120) (hb : ∀ y ∈ b, IsByte y) (hf : posN R + partsN b.length ≤ 48) :
    ∃ T', (⟨gen, R.length, posN R, false⟩ : LogT).app T (natI ls) b = (⟨gen, (R ++ [b]).length, posN (R ++ [b]), false⟩, T', 0) ∧ LogQ T' n dd (layAll N (2 + posN R) (splitB gen R.length b) ls) (t + ls.length * 49) al gen (R ++ [b]) := by
  have hp1 := (partsN_pos hl).1
  obtain ⟨T', e, h'⟩ := h.q.app (by decide) hls hal hg (b := b) hb (num := R.length) (pos := posN R) hp1 hf
  refine ⟨T', ?_, h'.mono (Nat.add_le_add_left (Nat.mul_le_mul_left _ (by omega)) _), h.ok.app hl hb hf, h.only.app hs b, h.all.app hs b⟩
  rw [e, posN_snoc, List.length_append]; rfl
theorem LogQ.scan {T : BankT} {n : Nat} {dd : Nat → Bool} {N : Nat → Nat → List Int} {t : Nat} {ls al : List Nat} {gen : Int} {R : List (List Int)} (h : LogQ T n dd N t al gen R) (hls : ∀ d ∈ ls, d < n) (hal : ∀ d, d ∈ (ls.filter fun d => !dd d) → d ∈ al) (h0 : ls.filter (fun d => !dd d) ≠ []) (hg : 0 ≤ gen ∧ gen < 4294967296) : scanL T.read (natI ls) gen 48 0 [] = (R, posN R, 0) :=
  h.q.scan (by decide) hls rfl h0 hg h.ok (fun d hd => h.only d (hal d hd)) (fun d hd => h.all d (hal d hd))
/-- what lies on the living disks is of generations that G has -/
def FromJ (N : Nat → Nat → List Int) (al : List Nat) (G : Int → Prop) : Prop := ∀ d ∈ al, ∀ p, p < 48 → isTag (N d (2 + p)) = true → G (tagRaw (N d (2 + p))).gen
theorem FromJ.zero (al : List Nat) (G : Int → Prop) : FromJ (fun _ _ => zeroB) al G := fun d _ p _ h => by rw [zero_no] at h; cases h
theorem FromJ.only {N : Nat → Nat → List Int} {al : List Nat} {G : Int → Prop} (h : FromJ N al G) {gen : Int} (hg : ¬ G gen) : OnlyJ N al gen [] := fun d hd p hp h1 h2 => absurd (h2 ▸ h d hd p hp h1) hg
theorem FromJ.app {N : Nat → Nat → List Int} {al ls : List Nat} {G : Int → Prop} (h : FromJ N al G) {gen : Int} (hg : 0 ≤ gen ∧ gen < 4294967296) (hG : G gen) {b : List Int} (hl : b.length ≤ 2120) {num : Nat} (hn : num < 1000) (pos : Nat) : FromJ (layAll N (2 + pos) (splitB gen num b) ls) al G := by
  intro d hd p hp h1
  rw [layAll_at, splitB_len] at h1 ⊢
  by_cases hh : d ∈ ls ∧ 2 + pos ≤ 2 + p ∧ 2 + p < 2 + pos + partsN b.length
  · rw [if_pos hh]
    have ht := (RecRange.tag (gen := gen) (num := (num : Int)) (b := b) ⟨hg, ⟨by omega, by omega⟩, hl⟩ (i := 2 + p - (2 + pos)) (by omega)).2
    rw [ht]; exact hG
  · rw [if_neg hh] at h1 ⊢
    exact h d hd p hp h1
theorem RIn.at {W0 W : World} {v : Value} {R : List (List Int)} (h : RIn W0 W v R) {i : Nat} (hi : i < R.length) : ∃ g cap bv, v = .slice (some ⟨g, 0, none⟩) R.length cap ∧ R.length ≤ cap ∧ W.cell? ⟨g, i, none⟩ = some bv ∧ Src W 1 bv (R.getD i []).length (u8s (R.getD i [])) := by
  obtain ⟨vs, h1, h2, h3⟩ := h.vs
  rcases owns_form h2 with ⟨_, h0, _⟩ | ⟨g, c, rfl, hb, _, hc, hcs⟩
  · omega
  · have hi' : i < vs.length := by omega
    have := hcs i hi'
    rw [Nat.zero_add] at this
    refine ⟨g, c, vs.getD i undef, rfl, hc, ?_, own_src (h3 i hi)⟩
    rw [this, List.getD_eq_getElem?_getD, List.getElem?_eq_getElem hi']; rfl
theorem BK.pushRs {w0 W W' : World} {l : List Nat} {q : Nat} {T : BankT} (h : BK w0 (fun k => k ∈ l) W q T) (hk : Kept W W') (Bs : List Nat) (hB : ∀ B ∈ Bs, W.heap.size ≤ B ∧ B < W'.heap.size) : BK w0 (fun k => k ∈ Bs ++ l) W' q T := by
  obtain ⟨Y, h0, h⟩ := h
  have hkept := (h.kept hk).1
  refine ⟨Y, h0, hkept.d, hkept.keeps, hkept.own, fun k hkk => ?_⟩
  rcases List.mem_append.1 hkk with h1 | h1
  · have := (h.more hk k (hB k h1).1 (hB k h1).2).off k (.inr rfl)
    exact this
  · exact hkept.off k h1
end Go.Proofs.YtpeclkhppgabfaaDoor
