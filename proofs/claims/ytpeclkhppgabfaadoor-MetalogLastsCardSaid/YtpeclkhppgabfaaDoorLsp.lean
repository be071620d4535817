/- A journal on a bank whose power may fail: plain Lean. -/
import Derived.Test.YtpeclkhppgabfaaDoorArm
import Derived.Test.YtpeclkhppgabfaaDoorFup
namespace Go.Proofs.YtpeclkhppgabfaaDoor
open Go.RowKit
set_option linter.unusedVariables false
set_option linter.unusedSimpArgs false

structure JA (T : BankT) (t : Nat) (gen : Int) (R : List (List Int)) : Prop where
  arm : Arm T 3 200 (fun _ _ _ => True) t
  clean : ∀ c, c < 3 → Clean T 200 c
  ok : RecsOk R
  only : OnlyJ T.N [0, 1, 2] gen R
  all : AllJ T.N [0, 1, 2] gen R
/-- fallen: R is there, perhaps b behind it -/
structure FJ (T : BankT) (t : Nat) (gen : Int) (R : List (List Int)) (b : List Int) : Prop where
  quiet : Quiet T.start 3 200 (fun _ => false) T.N t
  down : T.down = true
  ok : RecsOk (R ++ [b])
  only : OnlyJ T.N [0, 1, 2] gen (R ++ [b])
  all : AllJ T.N [0, 1, 2] gen R
theorem in3 {d : Nat} (h : d ∈ ([0, 1, 2] : List Nat)) : d < 3 := by simp at h; omega
theorem JA.start {n m : Int} (hn : 0 ≤ n ∧ n < 9223372036854775808) (hm : 0 ≤ m ∧ m < 18446744073709551616) (gen : Int) : JA ((addZ 200 3).arm n m) 0 gen [] := by
  have hs := addZ_still (z := 200) (k := 3) (by decide) (by decide)
  have hr := addZ_rest 200 3
  have hN : ∀ c k, ((addZ 200 3).arm n m).N c k = (addZ 200 3).N c k ∧ ((addZ 200 3).arm n m).F c k = (addZ 200 3).F c k ∧ ((addZ 200 3).arm n m).S c k = (addZ 200 3).S c k := fun c k => ⟨rfl, rfl, rfl⟩
  have hst : Still ((addZ 200 3).re (addZ 200 3).writes 0 m) 3 200 := hs.reA (by rw [hr.2.2.2]; decide) hm
  have hw0 : (0 : Int) ≤ (addZ 200 3).writes := by rw [hr.2.2.2]; decide
  have hmx : 0 ≤ max n 0 ∧ max n 0 < 9223372036854775808 := by omega
  refine ⟨⟨hst, re_inv (T := addZ 200 3) hs.inv hw0 hmx hm, fun _ _ _ _ => ⟨trivial, trivial⟩, ?_, ?_⟩, fun c hc k hk => ?_, RecsOk.nil, fun d hd p hp h => ?_, AllJ.nil _ _ _⟩
  · show (addZ 200 3).clock ≤ _; rw [hr.2.2.1]; decide
  · show (addZ 200 3).writes ≤ _; rw [hr.2.2.2]; decide
  · obtain ⟨a, b, c'⟩ := addZ_at (z := 200) hc hk
    rw [(hN c k).1, (hN c k).2.1, (hN c k).2.2, a, b, c']
    exact ⟨by decide, rfl⟩
  · rw [(hN d (2 + p)).1, (addZ_at (z := 200) (in3 hd) (show 2 + p < 200 by omega)).2.1, zero_no] at h
    cases h
theorem OnlyJ.congr {N N' : Nat → Nat → List Int} {gen : Int} {R : List (List Int)} (h : OnlyJ N [0, 1, 2] gen R) (e : ∀ c, c < 3 → ∀ k, k < 200 → N' c k = N c k) : OnlyJ N' [0, 1, 2] gen R := fun d hd p hp h1 h2 => by
  have := e d (in3 hd) (2 + p) (by omega)
  rw [this] at h1 h2 ⊢
  exact h d hd p hp h1 h2
theorem AllJ.congr {N N' : Nat → Nat → List Int} {gen : Int} {R : List (List Int)} (h : AllJ N [0, 1, 2] gen R) (hR : posN R ≤ 48) (e : ∀ c, c < 3 → ∀ k, k < 200 → N' c k = N c k) : AllJ N' [0, 1, 2] gen R := fun d hd p hp => by
  rw [e d (in3 hd) (2 + p) (by omega)]; exact h d hd p hp
theorem JA.step {T : BankT} {t : Nat} {gen : Int} {R : List (List Int)} (h : JA T t gen R) {b : List Int} (hl : b.length ≤ 2120) (hb : ∀ y ∈ b, IsByte y) {nn pn pt : Nat} (h1 : R.length = nn ∧ posN R = pn) (hp : partsN b.length = pt) (hf : pn + pt ≤ 48) :
    (∃ T', (⟨gen, nn, pn, false⟩ : LogT).app T [0, 1, 2] b = (⟨gen, nn + 1, pn + pt, false⟩, T', 0) ∧ JA T' (t + 3 * pt) gen (R ++ [b]) ∧ ((R ++ [b]).length = nn + 1 ∧ posN (R ++ [b]) = pn + pt)) ∨
    (∃ T', (⟨gen, nn, pn, false⟩ : LogT).app T [0, 1, 2] b = (⟨gen, nn, pn, true⟩, T', 6) ∧ FJ T' (t + 3 * pt) gen R b) := by
  obtain ⟨rfl, rfl⟩ := h1
  subst hp
  have hPl := splitB_len gen (R.length : Int) b
  have hok := h.ok.app hl hb hf
  have hlay := Arm.layM (n := 3) (z := 200) (p := 2 + posN R) (P := splitB gen (R.length : Int) b) (V := fun c k s => s = T.N c k ∨ (2 + posN R ≤ k ∧ k < 2 + posN R + partsN b.length ∧ s = (splitB gen (R.length : Int) b).getD (k - (2 + posN R)) []))
    (splitB_sec hb) (by rw [hPl]; omega) [0, 1, 2] 0 (fun d hd => in3 hd) (.inl (by simp)) (h.arm.reV fun c hc k hk => ⟨.inl rfl, .inl (h.clean c hc k hk).2⟩) h.clean (fun d hd i hi => .inr ⟨by omega, by rw [hPl] at hi; omega, by rw [show 2 + posN R + i - (2 + posN R) = i by omega]⟩)
  have e0 : natI0 [0, 1, 2] = [0, 1, 2] := rfl
  rw [hPl, e0, show ((2 + posN R : Nat) : Int) = 2 + (posN R : Int) by omega] at hlay
  rcases hlay with ⟨T', e, g1, g2, g3⟩ | ⟨T', e, g1⟩
  · left
    refine ⟨T', ?_, ⟨(g1.reV fun _ _ _ _ => ⟨trivial, trivial⟩).mono (by simp), g2, hok, (h.only.app (ls := [0, 1, 2]) (fun d hd => hd) b).congr g3, (h.all.app (ls := [0, 1, 2]) (fun d hd => hd) b).congr hok.fit g3⟩, by rw [List.length_append]; rfl, posN_snoc R b⟩
    unfold LogT.app
    simp only []
    rw [if_neg (by decide), if_neg (by omega), e]
    simp only [if_true]
  · right
    have hval := g1.val
    refine ⟨T', ?_, ⟨g1.quiet.mono (by simp), g1.down, hok, fun d hd p hp h1 h2 => ?_, fun d hd p hp => ?_⟩⟩
    · unfold LogT.app
      simp only []
      rw [if_neg (by decide), if_neg (by omega), e, if_neg (by show ¬ (6 : Int) = 0; decide)]
    · rw [posN_snoc, jourL_snoc]
      rcases hval d (in3 hd) (2 + p) (by omega) with hv | ⟨v1, v2, v3⟩
      · rw [hv] at h1 h2 ⊢
        obtain ⟨h3, h4⟩ := h.only d hd p hp h1 h2
        exact ⟨by omega, by rw [h4, getD_append_l (by rw [jourL_len]; exact h3)]⟩
      · refine ⟨by omega, ?_⟩
        rw [v3, getD_append_r (by rw [jourL_len]; omega), jourL_len, show 2 + p - (2 + posN R) = p - posN R by omega]
    · have hfit := h.ok.fit
      rcases hval d (in3 hd) (2 + p) (by omega) with hv | ⟨v1, v2, v3⟩
      · rw [hv]; exact h.all d hd p hp
      · omega
/-- the power fails when all is laid -/
theorem JA.crash {T : BankT} {t : Nat} {gen : Int} {R : List (List Int)} (h : JA T t gen R) (mask : Int) : Quiet (T.crash mask).start 3 200 (fun _ => false) (T.crash mask).N t ∧ OnlyJ (T.crash mask).N [0, 1, 2] gen R ∧ AllJ (T.crash mask).N [0, 1, 2] gen R := by
  have hc := (h.arm.reV (V' := fun c k s => s = T.N c k) fun c hc k hk => ⟨rfl, (h.clean c hc k hk).2⟩).crash mask
  exact ⟨hc.quiet, h.only.congr hc.val, h.all.congr h.ok.fit hc.val⟩
theorem filt3 {d : Nat} : (([0, 1, 2] : List Nat).filter fun c => !((fun _ => false) c || decide (c = d))) ≠ [] := by
  intro h
  by_cases e : d = 0
  · have : (1 : Nat) ∈ ([0, 1, 2] : List Nat).filter fun c => !((fun _ => false) c || decide (c = d)) := by simp [e]
    rw [h] at this; cases this
  · have : (0 : Nat) ∈ ([0, 1, 2] : List Nat).filter fun c => !((fun _ => false) c || decide (c = d)) := by simp; omega
    rw [h] at this; cases this
/-- what Scan tells behind a fall -/
theorem last_scan {T : BankT} {t : Nat} {dd : Nat → Bool} {N : Nat → Nat → List Int} {gen : Int} {R : List (List Int)} {b : List Int} (h : Quiet T 3 200 dd N t) (h0 : (([0, 1, 2] : List Nat).filter fun c => !dd c) ≠ []) (hg : 0 ≤ gen ∧ gen < 4294967296) (hok : RecsOk (R ++ [b])) (ho : OnlyJ N [0, 1, 2] gen (R ++ [b])) (ha : AllJ N [0, 1, 2] gen R) :
    ∃ S pos, scanL T.read [0, 1, 2] gen 48 0 [] = (S, pos, 0) ∧ (S = R ∨ S = R ++ [b]) := by
  obtain ⟨al, hal⟩ : ∃ al, (([0, 1, 2] : List Nat).filter fun c => !dd c) = al := ⟨_, rfl⟩
  rw [hal] at h0
  have hsub : ∀ d ∈ al, d ∈ ([0, 1, 2] : List Nat) := fun d hd => by rw [← hal] at hd; exact (List.mem_filter.1 hd).1
  have hls : ∀ d ∈ ([0, 1, 2] : List Nat), d < 3 := fun d hd => in3 hd
  have hj := h.jour (ls := [0, 1, 2]) (by decide) hls hal h0 hg hok (fun d hd => ho d (hsub d hd))
  have hfit := hok.fit
  rw [posN_snoc] at hfit
  obtain ⟨d0, hd0⟩ := List.exists_mem_of_ne_nil _ h0
  have hgr : ∀ r, r < R.length → (R ++ [b]).getD r [] = R.getD r [] := fun r hr => getD_append_l hr []
  have htk : ∀ r, r ≤ R.length → (R ++ [b]).take r = R.take r := fun r hr => List.take_append_of_le_length hr
  have hfull : ∀ r, r < R.length → FullR T.read (natI [0, 1, 2]) gen (R ++ [b]) r := fun r hr => h.full (by decide) hls hal hok.fit (by rw [List.length_append]; omega) fun i hi => by
    rw [hgr r hr] at hi
    rw [htk r (by omega)]
    have hp1 := posN_take hr
    have hp2 := posN_le R (r + 1)
    refine ⟨d0, hd0, ?_⟩
    rw [ha d0 (hsub d0 hd0) _ (by omega), jourL_snoc, getD_append_l (by rw [jourL_len]; omega)]
  have hsc := hj.scan0 (m := R.length + 1) (by rw [List.length_append]; simp)
  by_cases hl : ∀ i, i < partsN b.length → ∃ d ∈ al, N d (2 + (posN R + i)) = (splitB gen (R.length : Int) b).getD i []
  · refine ⟨R ++ [b], posN ((R ++ [b]).take (R.length + 1)), ?_, .inr rfl⟩
    have := hsc (fun r hr => by
      by_cases e : r < R.length
      · exact hfull r e
      · have er : r = R.length := by omega
        subst er
        refine h.full (by decide) hls hal hok.fit (by rw [List.length_append]; simp) fun i hi => ?_
        rw [getD_append_r (Nat.le_refl _), Nat.sub_self] at hi
        rw [htk _ (Nat.le_refl _), List.take_length]
        obtain ⟨d, hd, e⟩ := hl i hi
        refine ⟨d, hd, ?_⟩
        rw [e, jourL_snoc, getD_append_r (by rw [jourL_len]; omega), jourL_len, Nat.add_sub_cancel_left]) (fun hh => absurd hh (by rw [List.length_append]; simp))
    rw [List.take_of_length_le (by rw [List.length_append]; simp)] at this
    rw [List.take_of_length_le (by rw [List.length_append]; simp)]
    exact this
  · have hgap : ∃ i, i < partsN b.length ∧ ∀ d ∈ al, N d (2 + (posN R + i)) ≠ (splitB gen (R.length : Int) b).getD i [] := by
      refine Classical.byContradiction fun hn => hl fun i hi => Classical.byContradiction fun hm => hn ⟨i, hi, fun d hd e => hm ⟨d, hd, e⟩⟩
    obtain ⟨i, hi, hne⟩ := hgap
    have := hj.scan0 (m := R.length) (by rw [List.length_append]; omega) hfull (fun _ => by
      refine ⟨i, by rw [getD_append_r (Nat.le_refl _), Nat.sub_self]; exact hi, fun hm => ?_⟩
      rw [getD_append_r (Nat.le_refl _), Nat.sub_self, htk _ (Nat.le_refl _), List.take_length] at hm
      have hse := h.seesQ (a := 2 + (posN R + i)) (by omega) [0, 1, 2] hls
      rw [hal, show ((2 + (posN R + i) : Nat) : Int) = 2 + ((posN R : Int) + (i : Int)) by omega] at hse
      rw [hse.1, List.mem_map] at hm
      obtain ⟨d, hd, e⟩ := hm
      exact hne d hd e)
    rw [htk _ (Nat.le_refl _), List.take_length] at this
    exact ⟨R, posN R, this, .inl rfl⟩
/-- .. behind a fall between two records -/
theorem last_scan0 {T : BankT} {t : Nat} {dd : Nat → Bool} {N : Nat → Nat → List Int} {gen : Int} {R : List (List Int)} (h : Quiet T 3 200 dd N t) (h0 : (([0, 1, 2] : List Nat).filter fun c => !dd c) ≠ []) (hg : 0 ≤ gen ∧ gen < 4294967296) (hok : RecsOk R) (ho : OnlyJ N [0, 1, 2] gen R) (ha : AllJ N [0, 1, 2] gen R) : scanL T.read [0, 1, 2] gen 48 0 [] = (R, posN R, 0) :=
  h.scan (ls := [0, 1, 2]) (by decide) (fun d hd => in3 hd) rfl h0 hg hok (fun d hd => ho d (List.mem_filter.1 hd).1) (fun d hd => ha d (List.mem_filter.1 hd).1)
end Go.Proofs.YtpeclkhppgabfaaDoor
