/- law13's shown. -/
import Derived.Test.YtglplhmclfekfaaGreatSti
namespace Go.Proofs.YtglplhmclfekfaaGreat
open Go.RowKit
set_option linter.unusedVariables false
set_option linter.unusedSimpArgs false

/-- what is newest behind some writes -/
def wrN : List ((Int × Int) × List Int) → (Nat → Nat → List Int) → Nat → Nat → List Int
  | [], f => f
  | x :: l, f => wrN l fun c k => if c = x.1.1.toNat ∧ k = x.1.2.toNat then x.2 else f c k
/-- a place of n disks of z sectors -/
def InP (n z : Nat) (p : Int × Int) : Prop := ∃ d a : Nat, p = ((d : Int), (a : Int)) ∧ d < n ∧ a < z
theorem full_still {n z : Nat} : ∀ (l : List ((Int × Int) × List Int)) {T : BankT} (h : Still T n z) (hl : ∀ x ∈ l, InP n z x.1 ∧ IsSec x.2) {gone : Nat} (hg : gone ≤ 1),
    ∃ T', T.fullL l gone = (T', 0) ∧ Still T' n z ∧ T'.clock ≤ T.clock + l.length ∧ T'.writes = T.writes + l.length ∧ ∀ c k, T'.N c k = wrN l T.N c k
  | [], T, h, _, gone, hg => ⟨T, by unfold BankT.fullL; rw [if_neg (by omega)], h, by simp, by simp, fun _ _ => rfl⟩
  | ((p, s) :: l), T, h, hl, gone, hg => by
    obtain ⟨⟨d, a, hp, hd, ha⟩, hs⟩ := hl (p, s) (by simp)
    have hp' : p = ((d : Int), (a : Int)) := hp
    subst hp'
    obtain ⟨T1, e1, s1, c1, w1, r1⟩ := h.write hd ha hs
    obtain ⟨T2, e2, s2, c2, w2, r2⟩ := full_still l s1 (fun x hx => hl x (by simp [hx])) hg
    refine ⟨T2, ?_, s2, by simp only [List.length_cons]; omega, by simp only [List.length_cons]; omega, fun c k => ?_⟩
    · unfold BankT.fullL
      show (if lostB (T.write (d : Int) (a : Int) s).2 = true then _ else _) = _
      rw [e1, if_neg (show ¬ lostB 0 = true by decide), if_neg (show ¬ (0 : Int) ≠ 0 by decide)]
      exact e2
    · rw [r2]
      have : T1.N = fun c k => if c = d ∧ k = a then s else T.N c k := by funext c k; exact (r1 c k).2.1
      rw [this]
      rfl
theorem still_fail {T : BankT} {n z : Nat} (h : Still T n z) {d : Nat} (hd : d < n) : ∃ T', T.failC (d : Int) = (T', 0) ∧ Live T' n z ∧ T'.clock = T.clock ∧ T'.writes = T.writes ∧ (T'.d d).dead = true ∧ ∀ c, c ≠ d → T'.d c = T.d c := by
  have hl : d < T.l.length := by rw [h.len]; exact hd
  have hD : ∀ c, (T.fell d).d c = if c = d then (T.d d).kill.settleTo false (T.d d).sin.length else T.d c := fun c => BankT.d_up _ hl c
  refine ⟨T.fell d, ?_, ⟨⟨h.inv.fell hl, (BankT.up_len _ _ _).trans h.len, fun c hc => ?_⟩, h.up, h.arm⟩, rfl, rfl, ?_, fun c hc => ?_⟩
  · unfold BankT.failC; rw [if_neg (by rw [h.len]; omega), Int.toNat_natCast]
  · rw [hD]
    split
    · rw [Med.settleTo_len]; exact h.sz d hd
    · exact h.sz c hc
  · rw [hD, if_pos rfl, Med.settleTo_dead]; rfl
  · rw [hD, if_neg hc]
theorem secN_sec (n : Int) : IsSec (secN n) := ⟨secN_len n, secN_byte n⟩
/-- the bank of shown -/
theorem shown_bank : ∃ T3 T4, (addZ 20 3).fullL ((dataS (rowL 3) 1 (-1) ++ [plcAt (rowL 3) 1 (holdN (rowL 3).length 1)]).zip ([secN 1, secN 2] ++ [xorL [secN 1, secN 2]])) 0 = (T3, 0) ∧ T3.failC 2 = (T4, 0) ∧ T3.Use ∧ T4.Use ∧ T4.readL (rowL 3) 1 2 = (secN 2, 0) := by
  have h0 := addZ_still (z := 20) (k := 3) (by decide) (by decide)
  obtain ⟨z1, z2, z3, z4⟩ := addZ_rest 20 3
  have hx : IsSec (xorL [secN 1, secN 2]) := xorL_sec (by intro s hs; simp at hs; rcases hs with rfl | rfl <;> exact secN_sec _)
  have hz : (dataS (rowL 3) 1 (-1) ++ [plcAt (rowL 3) 1 (holdN (rowL 3).length 1)]).zip ([secN 1, secN 2] ++ [xorL [secN 1, secN 2]]) = [((0, 1), secN 1), ((2, 3), secN 2), ((1, 2), xorL [secN 1, secN 2])] := by
    have : dataS (rowL 3) 1 (-1) ++ [plcAt (rowL 3) 1 (holdN (rowL 3).length 1)] = [(0, 1), (2, 3), (1, 2)] := by decide
    rw [this]; rfl
  rw [hz]
  obtain ⟨T3, e3, s3, c3, w3, r3⟩ := full_still [((0, 1), secN 1), ((2, 3), secN 2), ((1, 2), xorL [secN 1, secN 2])] h0 (by
    intro x hx'
    simp only [List.mem_cons, List.not_mem_nil, or_false] at hx'
    rcases hx' with rfl | rfl | rfl
    · exact ⟨⟨0, 1, rfl, by decide, by decide⟩, secN_sec 1⟩
    · exact ⟨⟨2, 3, rfl, by decide, by decide⟩, secN_sec 2⟩
    · exact ⟨⟨1, 2, rfl, by decide, by decide⟩, hx⟩) (gone := 0) (by decide)
  obtain ⟨T4, e4, l4, c4, w4, d4, o4⟩ := still_fail s3 (d := 2) (by decide)
  have n01 : T4.N 0 1 = secN 1 := by
    have : T4.N 0 1 = T3.N 0 1 := by unfold BankT.N; rw [o4 0 (by decide)]
    rw [this, r3]; rfl
  have n12 : T4.N 1 2 = xorL [secN 1, secN 2] := by
    have : T4.N 1 2 = T3.N 1 2 := by unfold BankT.N; rw [o4 1 (by decide)]
    rw [this, r3]; rfl
  have a0 : (T4.d 0).dead = false := by rw [o4 0 (by decide)]; exact s3.dead 0 (by decide)
  have a1 : (T4.d 1).dead = false := by rw [o4 1 (by decide)]; exact s3.dead 1 (by decide)
  have r23 := l4.read (d := 2) (a := 3) (by decide) (by decide)
  have r01 := l4.read (d := 0) (a := 1) (by decide) (by decide)
  have r12 := l4.read (d := 1) (a := 2) (by decide) (by decide)
  rw [d4, if_pos rfl] at r23
  rw [a0, if_neg (by decide), n01] at r01
  rw [a1, if_neg (by decide), n12] at r12
  have r23' : T4.read 2 3 = (zeroB, 7) := r23
  have r01' : T4.read 0 1 = (secN 1, 0) := r01
  have r12' : T4.read 1 2 = (xorL [secN 1, secN 2], 0) := r12
  simp only [List.length_cons, List.length_nil] at c3 w3
  refine ⟨T3, T4, e3, e4, s3.live.use (by decide) (by omega) (by omega), l4.use (by decide) (by omega) (by omega), ?_⟩
  have hm : matesL (rowL 3) 1 2 = [(0, 1), (1, 2)] := by decide
  have hp : plcAt (rowL 3) 1 2 = (2, 3) := by decide
  unfold BankT.readL
  rw [hp, hm]
  simp only [r23', show lostB 7 = true from rfl, if_true, BankT.joinL, r01', r12', show lostB 0 = false from rfl, Bool.false_eq_true, if_false, ne_eq, not_true_eq_false]
  rw [xorL_two (secN_sec 1) (secN_sec 2), xorS_comm zeroB, xorS_zero (secN_sec 1), ← xorS_assoc, xorS_self (secN_len 1), xorS_comm, xorS_zero (secN_sec 2)]
section
variable {w : World}
set_option maxHeartbeats 2000000
set_option maxRecDepth 100000
theorem near3 : Near (rowL 3) := ⟨by decide, by decide⟩
theorem near1 : Near (rowL 1) := ⟨by decide, by decide⟩
theorem law_shown13 (w : World) : Calls Tryz.prog 4 #[] w fun e w' => e = .returned (.bool true) ∧ Kept w w' := by
  obtain ⟨T3, T4, e3, e4, u3, u4, r4⟩ := shown_bank
  have HE3 := Lib.hid e3; have HE4 := Lib.hid e4; have HU3 := Lib.hid u3; have HU4 := Lib.hid u4; have HR4 := Lib.hid r4
  clear e3 e4 u3 u4 r4
  have hlaid := s_laid 3 (by decide) w w (fun _ => False) (Kept.refl w) (fun _ h => h.elim)
  rw [show ((3 : Nat) : Int) = 3 from rfl] at hlaid
  have HLAID := Lib.hid hlaid
  have hrw := fun W => s_row 3 (by decide) W
  simp only [show ((3 : Nat) : Int) = 3 from rfl] at hrw
  have HROW := Lib.hid hrw
  clear hlaid hrw
  go_enter Tryz.func4, Tryz.ntmps4
  go_wp2_with fail
  refine Calls.mono HLAID.out ?_
  rintro e w1 ⟨q, rfl, hb, _⟩
  have HB1 := Lib.hid hb
  clear hb HLAID
  go_wp2_with fail
  refine Calls.mono (HROW.out _) ?_
  rintro e w2 ⟨v, rfl, hrow, hk⟩
  obtain ⟨g, c, rfl⟩ := ownsRow_succ hrow
  have hgl : w1.heap.size ≤ g ∧ g < w2.heap.size := ⟨row_ge hrow rfl, by
    obtain ⟨_, _, _, e2, _, hh, _⟩ := hrow.2.resolve_left (fun h => by cases h.1)
    cases e2; exact (Array.getElem?_eq_some_iff.1 hh).1⟩
  have hcap : 1 ≤ c := by
    obtain ⟨_, _, _, e2, _, _, hh, _⟩ := hrow.2.resolve_left (fun h => by cases h.1)
    cases e2; omega
  have hC : Cells w2 g 0 (evals (rowL 3)) := by
    rcases owns_form hrow with ⟨e, _⟩ | ⟨g', cap, e, _, _, _, hc⟩
    · cases e
    · cases e; exact hc
  have HB2 := Lib.hid (HB1.out.fresh (R' := fun k => k = g) hk (fun k hk => by subst hk; exact hgl))
  have HC2 := Lib.hid hC; have HGL2 := Lib.hid hgl.2
  have HES : Hid (∀ W : World, Cells W g 0 (evals (rowL 3)) → g < W.heap.size → ESl W (.slice (some ⟨g, 0, none⟩) 3 c) (rowL 3)) := Lib.hid fun W h1 h2 => ESl.of_cells (L := rowL 3) h2 h1
  have HES1 : Hid (∀ W : World, Cells W g 0 (evals (rowL 3)) → g < W.heap.size → ESl W (.slice (some ⟨g, 0, none⟩) 1 c) (rowL 1)) := Lib.hid fun W h1 h2 => ESl.of_cells (L := rowL 1) h2 (fun j hj => by
    have hj2 : j < 2 := hj
    have h3 := h1 j (show j < 6 by omega)
    rw [h3]
    have : j = 0 ∨ j = 1 := by omega
    rcases this with rfl | rfl <;> rfl)
  clear hrow hk hgl hC HB1 HROW
  go_wp2_with fail
  have hc := st_Parity (HES.out _ HC2.out HGL2.out) near3 1
  rw [show parityX (rowL 3) 1 = ((1, 2), 0) from by decide] at hc
  refine Calls.mono (hc) ?_
  rintro e w3 ⟨rfl, hk⟩
  have HB3 := Lib.hid ((HB2.out.kept hk).1)
  have HC3 := Lib.hid (Cells.kept HC2.out hk)
  have HGL3 := Lib.hid (Nat.lt_of_lt_of_le HGL2.out hk.size)
  clear HB2 HC2 HGL2 hk hc
  go_wp2_with (refine stop_at (o := ⟨some 3, _, _, _, _, _⟩) ?_)
  refine Stop.mk ?_
  refine wpList_new_row rfl rfl _ _ rfl rfl ty_plc _ zero_plc rfl [.int .i64 1, .int .i64 2] rfl rfl (one_plc _ _) rfl ?_
  intro w4 hz hs hk
  have HP4 := hz
  have HB4 := Lib.hid (HB3.out.box hk hs)
  have HC4 := Lib.hid (Cells.kept HC3.out hk)
  have HGL4 := Lib.hid (Nat.lt_of_lt_of_le HGL3.out hk.size)
  generalize w3.heap.size = Pp at *
  clear HB3 HC3 HGL3 hz hs hk
  go_wp2_with fail
  have hc := st_Home (HES.out _ HC4.out HGL4.out) near3 3
  rw [show homeX (rowL 3) 3 = ((2, 3), 0) from by decide] at hc
  refine Calls.mono (hc) ?_
  rintro e w5 ⟨rfl, hk⟩
  have HB5 := Lib.hid ((HB4.out.kept hk).1)
  have HC5 := Lib.hid (Cells.kept HC4.out hk)
  have HGL5 := Lib.hid (Nat.lt_of_lt_of_le HGL4.out hk.size)
  have HP5 := Lib.hid (hk.block HP4.out)
  clear HB4 HC4 HGL4 HP4 hk hc
  go_wp2_with (refine stop_at (o := ⟨some 5, _, _, _, _, _⟩) ?_)
  refine Stop.mk ?_
  refine wpList_new_row rfl rfl _ _ rfl rfl ty_plc _ zero_plc rfl [.int .i64 2, .int .i64 3] rfl rfl (one_plc _ _) rfl ?_
  intro w6 hz hs hk
  have HQ6 := hz
  have HB6 := Lib.hid (HB5.out.box hk hs)
  have HC6 := Lib.hid (Cells.kept HC5.out hk)
  have HGL6 := Lib.hid (Nat.lt_of_lt_of_le HGL5.out hk.size)
  have HP6 := Lib.hid (hk.block HP5.out)
  generalize w5.heap.size = Pq at *
  clear HB5 HC5 HGL5 HP5 hz hs hk
  go_wp2_with fail
  refine Calls.mono (st_Mates (HES.out _ HC6.out HGL6.out) near3 3 (by decide) 1 2 (by decide) (by decide) (by decide) (by decide)) ?_
  rintro e w7 ⟨r, rfl, hrow, hk⟩
  obtain ⟨ma, mc, rfl⟩ : ∃ ma mc, r = .slice ma 2 mc := ownsRow_form1 hrow
  have HB7 := Lib.hid ((HB6.out.kept hk).1)
  have HC7 := Lib.hid (Cells.kept HC6.out hk)
  have HGL7 := Lib.hid (Nat.lt_of_lt_of_le HGL6.out hk.size)
  have HP7 := Lib.hid (hk.block HP6.out)
  have HQ7 := Lib.hid (hk.block HQ6.out)
  clear HB6 HC6 HGL6 HP6 HQ6 hk hrow
  go_wp2_with fail
  refine Calls.mono (s_sector 1 _) ?_
  rintro e w8 ⟨rfl, hk⟩
  have HB8 := Lib.hid ((HB7.out.kept hk).1)
  have HC8 := Lib.hid (Cells.kept HC7.out hk)
  have HGL8 := Lib.hid (Nat.lt_of_lt_of_le HGL7.out hk.size)
  have HP8 := Lib.hid (hk.block HP7.out)
  have HQ8 := Lib.hid (hk.block HQ7.out)
  clear HB7 HC7 HGL7 HP7 HQ7 hk
  go_wp2_with fail
  refine Calls.mono (s_sector 2 _) ?_
  rintro e w9 ⟨rfl, hk⟩
  have HB9 := Lib.hid ((HB8.out.kept hk).1)
  have HC9 := Lib.hid (Cells.kept HC8.out hk)
  have HGL9 := Lib.hid (Nat.lt_of_lt_of_le HGL8.out hk.size)
  have HP9 := Lib.hid (hk.block HP8.out)
  have HQ9 := Lib.hid (hk.block HQ8.out)
  clear HB8 HC8 HGL8 HP8 HQ8 hk
  go_wp2_with (refine stop_at (o := ⟨some 39, _, _, _, _, _⟩) ?_)
  refine Stop.mk ?_
  refine wpList_secs rfl 2 _ rfl [secN 1, secN 2] rfl (by decide) (by decide) (fun s hs => by simp at hs; rcases hs with rfl | rfl <;> exact secN_len _) (by simp [Act.eval, List.zipIdx]) ?_
  intro w10 hz hs hk
  have HSS10 := hz
  have HB10 := Lib.hid (HB9.out.box hk hs)
  have HC10 := Lib.hid (Cells.kept HC9.out hk)
  have HGL10 := Lib.hid (Nat.lt_of_lt_of_le HGL9.out hk.size)
  have HP10 := Lib.hid (hk.block HP9.out)
  have HQ10 := Lib.hid (hk.block HQ9.out)
  generalize w9.heap.size = Sb at *
  clear HB9 HC9 HGL9 HP9 HQ9 hz hs hk
  go_wp2_with fail
  have hc := st_WriteFull HB10.out (addZ_still (z := 20) (k := 3) (by decide) (by decide)).inv (by rw [addZ_len]; decide) (by rw [(addZ_rest 20 3).2.2.1]; decide) (by rw [(addZ_rest 20 3).2.2.2]; decide) (HES.out _ HC10.out HGL10.out) near3 (by decide) 1 (by decide) (by decide) (sv := .slice (some ⟨Sb, 0, none⟩) 2 2) (S := [secN 1, secN 2]) (.inr ⟨Sb, 0, 2, rfl, by decide, (Array.getElem?_eq_some_iff.1 HSS10.out).1, by simpa using Cells.of_block HSS10.out⟩) (fun s hs => by simp at hs; rcases hs with rfl | rfl <;> exact secN_sec _) rfl
  rw [HE3.out] at hc
  simp only [show ((1 : Nat) : Int) = 1 from rfl] at hc
  refine Calls.mono (hc) ?_
  rintro e w11 ⟨rfl, hb, hr⟩
  have HB11 := Lib.hid hb
  have HC11 := Lib.hid (hr.cells (B := g) (by simp) HC10.out)
  have HGL11 : Hid (g < w11.heap.size) := Lib.hid (by obtain ⟨_, _, h⟩ := hb; exact (h.off g (by simp)).1)
  have HP11 := Lib.hid ((hr Pp (by simp)).trans HP10.out)
  have HQ11 := Lib.hid ((hr Pq (by simp)).trans HQ10.out)
  have HSS11 := Lib.hid ((hr Sb (by simp)).trans HSS10.out)
  clear HB10 HC10 HGL10 HP10 HQ10 HSS10 hb hr hc HE3
  go_wp2_with fail
  have hc := bk_Fail HB11.out HU3.out 2
  rw [HE4.out] at hc
  refine Calls.mono (hc) ?_
  rintro e w12 ⟨rfl, hb, hr⟩
  have HB12 := Lib.hid hb
  have HC12 := Lib.hid (hr.cells (B := g) (by simp) HC11.out)
  have HGL12 : Hid (g < w12.heap.size) := Lib.hid (by obtain ⟨_, _, h⟩ := hb; exact (h.off g (by simp)).1)
  have HP12 := Lib.hid ((hr Pp (by simp)).trans HP11.out)
  have HQ12 := Lib.hid ((hr Pq (by simp)).trans HQ11.out)
  have HSS12 := Lib.hid ((hr Sb (by simp)).trans HSS11.out)
  clear HB11 HC11 HGL11 HP11 HQ11 HSS11 hb hr hc HE4 HU3
  go_wp2_with fail
  have hc := st_Read HB12.out HU4.out (HES.out _ HC12.out HGL12.out) near3 (by decide) 3 1 2 (by decide) (by decide) (by decide) (by decide)
  rw [HR4.out] at hc
  refine Calls.mono (hc) ?_
  rintro e w13 ⟨rfl, hk⟩
  have HB13 := Lib.hid ((HB12.out.kept hk).1)
  have HC13 := Lib.hid (Cells.kept HC12.out hk)
  have HGL13 := Lib.hid (Nat.lt_of_lt_of_le HGL12.out hk.size)
  have HP13 := Lib.hid (hk.block HP12.out)
  have HQ13 := Lib.hid (hk.block HQ12.out)
  have HSS13 := Lib.hid (hk.block HSS12.out)
  clear HB12 HC12 HGL12 HP12 HQ12 HSS12 hk hc HR4 HU4
  go_wp2_with (refine stop_at (o := ⟨some 10, _, _, _, _, _⟩) ?_)
  refine Stop.mk ?_
  refine wpList_new_row rfl rfl _ _ rfl rfl ty_sec (u8s zeroB) zero_sec (by rw [u8s_length, zeroB_length]) (u8s (secN 2)) rfl (by rw [u8s_length, secN_len]) (u8s_one _) rfl ?_
  intro w14 hz hs hk
  have HSR14 := hz
  have HB14 := Lib.hid (HB13.out.box hk hs)
  have HC14 := Lib.hid (Cells.kept HC13.out hk)
  have HGL14 := Lib.hid (Nat.lt_of_lt_of_le HGL13.out hk.size)
  have HP14 := Lib.hid (hk.block HP13.out)
  have HQ14 := Lib.hid (hk.block HQ13.out)
  have HSS14 := Lib.hid (hk.block HSS13.out)
  generalize w13.heap.size = Sr at *
  clear HB13 HC13 HGL13 HP13 HQ13 HSS13 hz hs hk
  go_wp2_with fail
  have hc := st_Home (HES.out _ HC14.out HGL14.out) near3 16
  rw [show homeX (rowL 3) 16 = ((0, 0), 3) from by decide] at hc
  refine Calls.mono (hc) ?_
  rintro e w15 ⟨rfl, hk⟩
  have HB15 := Lib.hid ((HB14.out.kept hk).1)
  have HC15 := Lib.hid (Cells.kept HC14.out hk)
  have HGL15 := Lib.hid (Nat.lt_of_lt_of_le HGL14.out hk.size)
  have HP15 := Lib.hid (hk.block HP14.out)
  have HQ15 := Lib.hid (hk.block HQ14.out)
  have HSS15 := Lib.hid (hk.block HSS14.out)
  have HSR15 := Lib.hid (hk.block HSR14.out)
  clear HB14 HC14 HGL14 HP14 HQ14 HSS14 HSR14 hk hc
  go_wp2_with (refine stop_at (o := ⟨some 12, _, _, _, _, _⟩) ?_)
  refine Stop.mk ?_
  refine wpList_new_row rfl rfl _ _ rfl rfl ty_plc _ zero_plc rfl [.int .i64 0, .int .i64 0] rfl rfl (one_plc _ _) rfl ?_
  intro w16 hz hs hk
  have HN16 := hz
  have HB16 := Lib.hid (HB15.out.box hk hs)
  have HC16 := Lib.hid (Cells.kept HC15.out hk)
  have HGL16 := Lib.hid (Nat.lt_of_lt_of_le HGL15.out hk.size)
  have HP16 := Lib.hid (hk.block HP15.out)
  have HQ16 := Lib.hid (hk.block HQ15.out)
  have HSS16 := Lib.hid (hk.block HSS15.out)
  have HSR16 := Lib.hid (hk.block HSR15.out)
  generalize w15.heap.size = Pn at *
  clear HB15 HC15 HGL15 HP15 HQ15 HSS15 HSR15 hz hs hk
  go_wp2_with fail
  have hc := st_Home (HES1.out _ HC16.out HGL16.out) near1 0
  rw [show homeX (rowL 1) 0 = ((0, 0), 1) from by decide] at hc
  refine Calls.mono (hc) ?_
  rintro e w17 ⟨rfl, hk⟩
  have HB17 := Lib.hid ((HB16.out.kept hk).1)
  have HC17 := Lib.hid (Cells.kept HC16.out hk)
  have HGL17 := Lib.hid (Nat.lt_of_lt_of_le HGL16.out hk.size)
  have HP17 := Lib.hid (hk.block HP16.out)
  have HQ17 := Lib.hid (hk.block HQ16.out)
  have HSS17 := Lib.hid (hk.block HSS16.out)
  have HSR17 := Lib.hid (hk.block HSR16.out)
  have HN17 := Lib.hid (hk.block HN16.out)
  clear HB16 HC16 HGL16 HP16 HQ16 HSS16 HSR16 HN16 hk hc
  go_wp2_with (refine stop_at (o := ⟨some 14, _, _, _, _, _⟩) ?_)
  refine Stop.mk ?_
  refine wpList_new_row rfl rfl _ _ rfl rfl ty_plc _ zero_plc rfl [.int .i64 0, .int .i64 0] rfl rfl (one_plc _ _) rfl ?_
  intro w18 hz hs hk
  have HA18 := hz
  have HB18 := Lib.hid (HB17.out.box hk hs)
  have HC18 := Lib.hid (Cells.kept HC17.out hk)
  have HGL18 := Lib.hid (Nat.lt_of_lt_of_le HGL17.out hk.size)
  have HP18 := Lib.hid (hk.block HP17.out)
  have HQ18 := Lib.hid (hk.block HQ17.out)
  have HSS18 := Lib.hid (hk.block HSS17.out)
  have HSR18 := Lib.hid (hk.block HSR17.out)
  have HN18 := Lib.hid (hk.block HN17.out)
  generalize w17.heap.size = Pa at *
  clear HB17 HC17 HGL17 HP17 HQ17 HSS17 HSR17 HN17 hz hs hk
  go_wp2
  have hS : Kept w w18.drew ∧ w18.drew.heap[Pp]? = some (.cells [.int .i64 1, .int .i64 2].toArray 47 (0, 0)) ∧ w18.drew.heap[Pq]? = some (.cells [.int .i64 2, .int .i64 3].toArray 47 (0, 0)) ∧ w18.drew.heap[Sr]? = some (.cells (u8s (secN 2)).toArray 43 (0, 0)) := ⟨HB18.out.keeps.trans (Kept.refl _).drew, HP18.out, HQ18.out, HSR18.out⟩
  clear HB18 HC18 HGL18 HP18 HQ18 HSS18 HSR18 HN18 HA18
  refine wp_region_calm ?_
  refine wp_region_E (fun W => Kept w W ∧ W.heap[Pp]? = some (.cells [.int .i64 1, .int .i64 2].toArray 47 (0, 0)) ∧ W.heap[Pq]? = some (.cells [.int .i64 2, .int .i64 3].toArray 47 (0, 0)) ∧ W.heap[Sr]? = some (.cells (u8s (secN 2)).toArray 43 (0, 0))) 100 (by kernel_rfl) ?_
  refine wpAnyE_one (i := 0) (listed' := #[true, false, false, false, false, false, false, false, false, false, false, false, false, false, false, false, false, false, false, false, false, false, false, false, false, false, false, false, false, false, false, false, false, false, false, false, false, false, false, false, false, false, false, false, false, false, false, false, false, false, false, false, false, false, false]) (by rfl) (by kernel_rfl) (by kernel_rfl) (by rfl) (fun K hK => ?_)
  simp only [Act.put, List.getElem_toArray, List.getElem_cons_succ, List.getElem_cons_zero, List.setIfInBounds_toArray, List.set_cons_zero, List.set_cons_succ]
  go_wp2_with fail
  refine Calls.mono (st_Slots 3 (by decide) (by decide) _) ?_
  rintro e w' ⟨rfl, rfl⟩
  refine hK _ _ (fun _ => hS) ?_; clear hK K
  refine wpAnyE_take (i := 1) (v := ?_) (listed' := #[true, true, false, false, false, false, false, false, false, false, false, false, false, false, false, false, false, false, false, false, false, false, false, false, false, false, false, false, false, false, false, false, false, false, false, false, false, false, false, false, false, false, false, false, false, false, false, false, false, false, false, false, false, false, false]) (by rfl) (by kernel_rfl) (by kernel_rfl) calm_put hS (by rfl) ?_ ?_
  rotate_left
  · intro W hW; clear hW; go_simp; try (with_reducible rfl)
  simp only [Act.put, List.getElem_toArray, List.getElem_cons_succ, List.getElem_cons_zero, List.setIfInBounds_toArray, List.set_cons_zero, List.set_cons_succ]
  refine wpAnyE_take (i := 2) (v := ?_) (listed' := #[true, true, true, false, false, false, false, false, false, false, false, false, false, false, false, false, false, false, false, false, false, false, false, false, false, false, false, false, false, false, false, false, false, false, false, false, false, false, false, false, false, false, false, false, false, false, false, false, false, false, false, false, false, false, false]) (by rfl) (by kernel_rfl) (by kernel_rfl) calm_put hS (by rfl) ?_ ?_
  rotate_left
  · intro W hW; clear hW; go_simp; try (with_reducible rfl)
  simp only [Act.put, List.getElem_toArray, List.getElem_cons_succ, List.getElem_cons_zero, List.setIfInBounds_toArray, List.set_cons_zero, List.set_cons_succ]
  refine wpAnyE_one (i := 3) (listed' := #[true, true, true, true, false, false, false, false, false, false, false, false, false, false, false, false, false, false, false, false, false, false, false, false, false, false, false, false, false, false, false, false, false, false, false, false, false, false, false, false, false, false, false, false, false, false, false, false, false, false, false, false, false, false, false]) (by rfl) (by kernel_rfl) (by kernel_rfl) (by rfl) (fun K hK => ?_)
  simp only [Act.put, List.getElem_toArray, List.getElem_cons_succ, List.getElem_cons_zero, List.setIfInBounds_toArray, List.set_cons_zero, List.set_cons_succ]
  go_wp2_with fail
  refine Calls.mono (st_Slots 1 (by decide) (by decide) _) ?_
  rintro e w' ⟨rfl, rfl⟩
  refine hK _ _ (fun _ => hS) ?_; clear hK K
  refine wpAnyE_take (i := 4) (v := ?_) (listed' := #[true, true, true, true, true, false, false, false, false, false, false, false, false, false, false, false, false, false, false, false, false, false, false, false, false, false, false, false, false, false, false, false, false, false, false, false, false, false, false, false, false, false, false, false, false, false, false, false, false, false, false, false, false, false, false]) (by rfl) (by kernel_rfl) (by kernel_rfl) calm_put hS (by rfl) ?_ ?_
  rotate_left
  · intro W hW; clear hW; go_simp; try (with_reducible rfl)
  simp only [Act.put, List.getElem_toArray, List.getElem_cons_succ, List.getElem_cons_zero, List.setIfInBounds_toArray, List.set_cons_zero, List.set_cons_succ]
  refine wpAnyE_take (i := 5) (v := ?_) (listed' := #[true, true, true, true, true, true, false, false, false, false, false, false, false, false, false, false, false, false, false, false, false, false, false, false, false, false, false, false, false, false, false, false, false, false, false, false, false, false, false, false, false, false, false, false, false, false, false, false, false, false, false, false, false, false, false]) (by rfl) (by kernel_rfl) (by kernel_rfl) calm_put hS (by rfl) ?_ ?_
  rotate_left
  · intro W hW; clear hW; go_simp; try (with_reducible rfl)
  simp only [Act.put, List.getElem_toArray, List.getElem_cons_succ, List.getElem_cons_zero, List.setIfInBounds_toArray, List.set_cons_zero, List.set_cons_succ]
  refine wpAnyE_take (i := 6) (v := ?_) (listed' := #[true, true, true, true, true, true, true, false, false, false, false, false, false, false, false, false, false, false, false, false, false, false, false, false, false, false, false, false, false, false, false, false, false, false, false, false, false, false, false, false, false, false, false, false, false, false, false, false, false, false, false, false, false, false, false]) (by rfl) (by kernel_rfl) (by kernel_rfl) calm_put hS (by rfl) ?_ ?_
  rotate_left
  · intro W hW; clear hW; go_simp; try (with_reducible rfl)
  simp only [Act.put, List.getElem_toArray, List.getElem_cons_succ, List.getElem_cons_zero, List.setIfInBounds_toArray, List.set_cons_zero, List.set_cons_succ]
  refine wpAnyE_take (i := 7) (v := .agg #[.int .i64 1, .int .i64 2]) (listed' := #[true, true, true, true, true, true, true, true, false, false, false, false, false, false, false, false, false, false, false, false, false, false, false, false, false, false, false, false, false, false, false, false, false, false, false, false, false, false, false, false, false, false, false, false, false, false, false, false, false, false, false, false, false, false, false]) (by rfl) (by kernel_rfl) (by kernel_rfl) calm_put hS (by rfl) ?_ ?_
  · intro W hW; skip; exact exec_load_plc _ rfl Pp rfl [.int .i64 1, .int .i64 2] rfl (by simpa using Cells.of_block hW.2.1)
  simp only [Act.put, List.getElem_toArray, List.getElem_cons_succ, List.getElem_cons_zero, List.setIfInBounds_toArray, List.set_cons_zero, List.set_cons_succ]
  refine wpAnyE_take (i := 8) (v := ?_) (listed' := #[true, true, true, true, true, true, true, true, true, false, false, false, false, false, false, false, false, false, false, false, false, false, false, false, false, false, false, false, false, false, false, false, false, false, false, false, false, false, false, false, false, false, false, false, false, false, false, false, false, false, false, false, false, false, false]) (by rfl) (by kernel_rfl) (by kernel_rfl) calm_put hS (by rfl) ?_ ?_
  rotate_left
  · intro W hW; clear hW; go_simp; try (with_reducible rfl)
  simp only [Act.put, List.getElem_toArray, List.getElem_cons_succ, List.getElem_cons_zero, List.setIfInBounds_toArray, List.set_cons_zero, List.set_cons_succ]
  refine wpAnyE_take (i := 9) (v := .bool true) (listed' := #[true, true, true, true, true, true, true, true, true, true, false, false, false, false, false, false, false, false, false, false, false, false, false, false, false, false, false, false, false, false, false, false, false, false, false, false, false, false, false, false, false, false, false, false, false, false, false, false, false, false, false, false, false, false, false]) (by rfl) (by kernel_rfl) (by kernel_rfl) calm_put hS (by rfl) ?_ ?_
  · intro W hW; clear hW; exact exec_eq_plc _ _ rfl 1 2 1 2 rfl rfl
  simp only [Act.put, List.getElem_toArray, List.getElem_cons_succ, List.getElem_cons_zero, List.setIfInBounds_toArray, List.set_cons_zero, List.set_cons_succ]
  refine wpAnyE_take (i := 10) (v := ?_) (listed' := #[true, true, true, true, true, true, true, true, true, true, true, false, false, false, false, false, false, false, false, false, false, false, false, false, false, false, false, false, false, false, false, false, false, false, false, false, false, false, false, false, false, false, false, false, false, false, false, false, false, false, false, false, false, false, false]) (by rfl) (by kernel_rfl) (by kernel_rfl) calm_put hS (by rfl) ?_ ?_
  rotate_left
  · intro W hW; clear hW; go_simp; try (with_reducible rfl)
  simp only [Act.put, List.getElem_toArray, List.getElem_cons_succ, List.getElem_cons_zero, List.setIfInBounds_toArray, List.set_cons_zero, List.set_cons_succ]
  refine wpAnyE_take (i := 11) (v := ?_) (listed' := #[true, true, true, true, true, true, true, true, true, true, true, true, false, false, false, false, false, false, false, false, false, false, false, false, false, false, false, false, false, false, false, false, false, false, false, false, false, false, false, false, false, false, false, false, false, false, false, false, false, false, false, false, false, false, false]) (by rfl) (by kernel_rfl) (by kernel_rfl) calm_put hS (by rfl) ?_ ?_
  rotate_left
  · intro W hW; clear hW; go_simp; try (with_reducible rfl)
  simp only [Act.put, List.getElem_toArray, List.getElem_cons_succ, List.getElem_cons_zero, List.setIfInBounds_toArray, List.set_cons_zero, List.set_cons_succ]
  refine wpAnyE_take (i := 12) (v := ?_) (listed' := #[true, true, true, true, true, true, true, true, true, true, true, true, true, false, false, false, false, false, false, false, false, false, false, false, false, false, false, false, false, false, false, false, false, false, false, false, false, false, false, false, false, false, false, false, false, false, false, false, false, false, false, false, false, false, false]) (by rfl) (by kernel_rfl) (by kernel_rfl) calm_put hS (by rfl) ?_ ?_
  rotate_left
  · intro W hW; clear hW; go_simp; try (with_reducible rfl)
  simp only [Act.put, List.getElem_toArray, List.getElem_cons_succ, List.getElem_cons_zero, List.setIfInBounds_toArray, List.set_cons_zero, List.set_cons_succ]
  refine wpAnyE_take (i := 13) (v := ?_) (listed' := #[true, true, true, true, true, true, true, true, true, true, true, true, true, true, false, false, false, false, false, false, false, false, false, false, false, false, false, false, false, false, false, false, false, false, false, false, false, false, false, false, false, false, false, false, false, false, false, false, false, false, false, false, false, false, false]) (by rfl) (by kernel_rfl) (by kernel_rfl) calm_put hS (by rfl) ?_ ?_
  rotate_left
  · intro W hW; clear hW; go_simp; try (with_reducible rfl)
  simp only [Act.put, List.getElem_toArray, List.getElem_cons_succ, List.getElem_cons_zero, List.setIfInBounds_toArray, List.set_cons_zero, List.set_cons_succ]
  refine wpAnyE_take (i := 14) (v := ?_) (listed' := #[true, true, true, true, true, true, true, true, true, true, true, true, true, true, true, false, false, false, false, false, false, false, false, false, false, false, false, false, false, false, false, false, false, false, false, false, false, false, false, false, false, false, false, false, false, false, false, false, false, false, false, false, false, false, false]) (by rfl) (by kernel_rfl) (by kernel_rfl) calm_put hS (by rfl) ?_ ?_
  rotate_left
  · intro W hW; clear hW; go_simp; try (with_reducible rfl)
  simp only [Act.put, List.getElem_toArray, List.getElem_cons_succ, List.getElem_cons_zero, List.setIfInBounds_toArray, List.set_cons_zero, List.set_cons_succ]
  refine wpAnyE_take (i := 15) (v := ?_) (listed' := #[true, true, true, true, true, true, true, true, true, true, true, true, true, true, true, true, false, false, false, false, false, false, false, false, false, false, false, false, false, false, false, false, false, false, false, false, false, false, false, false, false, false, false, false, false, false, false, false, false, false, false, false, false, false, false]) (by rfl) (by kernel_rfl) (by kernel_rfl) calm_put hS (by rfl) ?_ ?_
  rotate_left
  · intro W hW; clear hW; go_simp; try (with_reducible rfl)
  simp only [Act.put, List.getElem_toArray, List.getElem_cons_succ, List.getElem_cons_zero, List.setIfInBounds_toArray, List.set_cons_zero, List.set_cons_succ]
  refine wpAnyE_take (i := 16) (v := .agg #[.int .i64 2, .int .i64 3]) (listed' := #[true, true, true, true, true, true, true, true, true, true, true, true, true, true, true, true, true, false, false, false, false, false, false, false, false, false, false, false, false, false, false, false, false, false, false, false, false, false, false, false, false, false, false, false, false, false, false, false, false, false, false, false, false, false, false]) (by rfl) (by kernel_rfl) (by kernel_rfl) calm_put hS (by rfl) ?_ ?_
  · intro W hW; skip; exact exec_load_plc _ rfl Pq rfl [.int .i64 2, .int .i64 3] rfl (by simpa using Cells.of_block hW.2.2.1)
  simp only [Act.put, List.getElem_toArray, List.getElem_cons_succ, List.getElem_cons_zero, List.setIfInBounds_toArray, List.set_cons_zero, List.set_cons_succ]
  refine wpAnyE_take (i := 17) (v := ?_) (listed' := #[true, true, true, true, true, true, true, true, true, true, true, true, true, true, true, true, true, true, false, false, false, false, false, false, false, false, false, false, false, false, false, false, false, false, false, false, false, false, false, false, false, false, false, false, false, false, false, false, false, false, false, false, false, false, false]) (by rfl) (by kernel_rfl) (by kernel_rfl) calm_put hS (by rfl) ?_ ?_
  rotate_left
  · intro W hW; clear hW; go_simp; try (with_reducible rfl)
  simp only [Act.put, List.getElem_toArray, List.getElem_cons_succ, List.getElem_cons_zero, List.setIfInBounds_toArray, List.set_cons_zero, List.set_cons_succ]
  refine wpAnyE_take (i := 18) (v := .bool true) (listed' := #[true, true, true, true, true, true, true, true, true, true, true, true, true, true, true, true, true, true, true, false, false, false, false, false, false, false, false, false, false, false, false, false, false, false, false, false, false, false, false, false, false, false, false, false, false, false, false, false, false, false, false, false, false, false, false]) (by rfl) (by kernel_rfl) (by kernel_rfl) calm_put hS (by rfl) ?_ ?_
  · intro W hW; clear hW; exact exec_eq_plc _ _ rfl 2 3 2 3 rfl rfl
  simp only [Act.put, List.getElem_toArray, List.getElem_cons_succ, List.getElem_cons_zero, List.setIfInBounds_toArray, List.set_cons_zero, List.set_cons_succ]
  refine wpAnyE_take (i := 19) (v := ?_) (listed' := #[true, true, true, true, true, true, true, true, true, true, true, true, true, true, true, true, true, true, true, true, false, false, false, false, false, false, false, false, false, false, false, false, false, false, false, false, false, false, false, false, false, false, false, false, false, false, false, false, false, false, false, false, false, false, false]) (by rfl) (by kernel_rfl) (by kernel_rfl) calm_put hS (by rfl) ?_ ?_
  rotate_left
  · intro W hW; clear hW; go_simp; try (with_reducible rfl)
  simp only [Act.put, List.getElem_toArray, List.getElem_cons_succ, List.getElem_cons_zero, List.setIfInBounds_toArray, List.set_cons_zero, List.set_cons_succ]
  refine wpAnyE_take (i := 20) (v := ?_) (listed' := #[true, true, true, true, true, true, true, true, true, true, true, true, true, true, true, true, true, true, true, true, true, false, false, false, false, false, false, false, false, false, false, false, false, false, false, false, false, false, false, false, false, false, false, false, false, false, false, false, false, false, false, false, false, false, false]) (by rfl) (by kernel_rfl) (by kernel_rfl) calm_put hS (by rfl) ?_ ?_
  rotate_left
  · intro W hW; clear hW; go_simp; try (with_reducible rfl)
  simp only [Act.put, List.getElem_toArray, List.getElem_cons_succ, List.getElem_cons_zero, List.setIfInBounds_toArray, List.set_cons_zero, List.set_cons_succ]
  refine wpAnyE_take (i := 21) (v := ?_) (listed' := #[true, true, true, true, true, true, true, true, true, true, true, true, true, true, true, true, true, true, true, true, true, true, false, false, false, false, false, false, false, false, false, false, false, false, false, false, false, false, false, false, false, false, false, false, false, false, false, false, false, false, false, false, false, false, false]) (by rfl) (by kernel_rfl) (by kernel_rfl) calm_put hS (by rfl) ?_ ?_
  rotate_left
  · intro W hW; clear hW; go_simp; try (with_reducible rfl)
  simp only [Act.put, List.getElem_toArray, List.getElem_cons_succ, List.getElem_cons_zero, List.setIfInBounds_toArray, List.set_cons_zero, List.set_cons_succ]
  refine wpAnyE_take (i := 22) (v := ?_) (listed' := #[true, true, true, true, true, true, true, true, true, true, true, true, true, true, true, true, true, true, true, true, true, true, true, false, false, false, false, false, false, false, false, false, false, false, false, false, false, false, false, false, false, false, false, false, false, false, false, false, false, false, false, false, false, false, false]) (by rfl) (by kernel_rfl) (by kernel_rfl) calm_put hS (by rfl) ?_ ?_
  rotate_left
  · intro W hW; clear hW; go_simp; try (with_reducible rfl)
  simp only [Act.put, List.getElem_toArray, List.getElem_cons_succ, List.getElem_cons_zero, List.setIfInBounds_toArray, List.set_cons_zero, List.set_cons_succ]
  refine wpAnyE_take (i := 23) (v := ?_) (listed' := #[true, true, true, true, true, true, true, true, true, true, true, true, true, true, true, true, true, true, true, true, true, true, true, true, false, false, false, false, false, false, false, false, false, false, false, false, false, false, false, false, false, false, false, false, false, false, false, false, false, false, false, false, false, false, false]) (by rfl) (by kernel_rfl) (by kernel_rfl) calm_put hS (by rfl) ?_ ?_
  rotate_left
  · intro W hW; clear hW; go_simp; try (with_reducible rfl)
  simp only [Act.put, List.getElem_toArray, List.getElem_cons_succ, List.getElem_cons_zero, List.setIfInBounds_toArray, List.set_cons_zero, List.set_cons_succ]
  refine wpAnyE_take (i := 24) (v := ?_) (listed' := #[true, true, true, true, true, true, true, true, true, true, true, true, true, true, true, true, true, true, true, true, true, true, true, true, true, false, false, false, false, false, false, false, false, false, false, false, false, false, false, false, false, false, false, false, false, false, false, false, false, false, false, false, false, false, false]) (by rfl) (by kernel_rfl) (by kernel_rfl) calm_put hS (by rfl) ?_ ?_
  rotate_left
  · intro W hW; clear hW; go_simp; try (with_reducible rfl)
  simp only [Act.put, List.getElem_toArray, List.getElem_cons_succ, List.getElem_cons_zero, List.setIfInBounds_toArray, List.set_cons_zero, List.set_cons_succ]
  refine wpAnyE_take (i := 25) (v := ?_) (listed' := #[true, true, true, true, true, true, true, true, true, true, true, true, true, true, true, true, true, true, true, true, true, true, true, true, true, true, false, false, false, false, false, false, false, false, false, false, false, false, false, false, false, false, false, false, false, false, false, false, false, false, false, false, false, false, false]) (by rfl) (by kernel_rfl) (by kernel_rfl) calm_put hS (by rfl) ?_ ?_
  rotate_left
  · intro W hW; clear hW; go_simp; try (with_reducible rfl)
  simp only [Act.put, List.getElem_toArray, List.getElem_cons_succ, List.getElem_cons_zero, List.setIfInBounds_toArray, List.set_cons_zero, List.set_cons_succ]
  refine wpAnyE_take (i := 26) (v := ?_) (listed' := #[true, true, true, true, true, true, true, true, true, true, true, true, true, true, true, true, true, true, true, true, true, true, true, true, true, true, true, false, false, false, false, false, false, false, false, false, false, false, false, false, false, false, false, false, false, false, false, false, false, false, false, false, false, false, false]) (by rfl) (by kernel_rfl) (by kernel_rfl) calm_put hS (by rfl) ?_ ?_
  rotate_left
  · intro W hW; clear hW; go_simp; try (with_reducible rfl)
  simp only [Act.put, List.getElem_toArray, List.getElem_cons_succ, List.getElem_cons_zero, List.setIfInBounds_toArray, List.set_cons_zero, List.set_cons_succ]
  refine wpAnyE_take (i := 27) (v := ?_) (listed' := #[true, true, true, true, true, true, true, true, true, true, true, true, true, true, true, true, true, true, true, true, true, true, true, true, true, true, true, true, false, false, false, false, false, false, false, false, false, false, false, false, false, false, false, false, false, false, false, false, false, false, false, false, false, false, false]) (by rfl) (by kernel_rfl) (by kernel_rfl) calm_put hS (by rfl) ?_ ?_
  rotate_left
  · intro W hW; clear hW; go_simp; try (with_reducible rfl)
  simp only [Act.put, List.getElem_toArray, List.getElem_cons_succ, List.getElem_cons_zero, List.setIfInBounds_toArray, List.set_cons_zero, List.set_cons_succ]
  refine wpAnyE_take (i := 28) (v := ?_) (listed' := #[true, true, true, true, true, true, true, true, true, true, true, true, true, true, true, true, true, true, true, true, true, true, true, true, true, true, true, true, true, false, false, false, false, false, false, false, false, false, false, false, false, false, false, false, false, false, false, false, false, false, false, false, false, false, false]) (by rfl) (by kernel_rfl) (by kernel_rfl) calm_put hS (by rfl) ?_ ?_
  rotate_left
  · intro W hW; clear hW; go_simp; try (with_reducible rfl)
  simp only [Act.put, List.getElem_toArray, List.getElem_cons_succ, List.getElem_cons_zero, List.setIfInBounds_toArray, List.set_cons_zero, List.set_cons_succ]
  refine wpAnyE_take (i := 29) (v := ?_) (listed' := #[true, true, true, true, true, true, true, true, true, true, true, true, true, true, true, true, true, true, true, true, true, true, true, true, true, true, true, true, true, true, false, false, false, false, false, false, false, false, false, false, false, false, false, false, false, false, false, false, false, false, false, false, false, false, false]) (by rfl) (by kernel_rfl) (by kernel_rfl) calm_put hS (by rfl) ?_ ?_
  rotate_left
  · intro W hW; clear hW; go_simp; try (with_reducible rfl)
  simp only [Act.put, List.getElem_toArray, List.getElem_cons_succ, List.getElem_cons_zero, List.setIfInBounds_toArray, List.set_cons_zero, List.set_cons_succ]
  refine wpAnyE_take (i := 30) (v := ?_) (listed' := #[true, true, true, true, true, true, true, true, true, true, true, true, true, true, true, true, true, true, true, true, true, true, true, true, true, true, true, true, true, true, true, false, false, false, false, false, false, false, false, false, false, false, false, false, false, false, false, false, false, false, false, false, false, false, false]) (by rfl) (by kernel_rfl) (by kernel_rfl) calm_put hS (by rfl) ?_ ?_
  rotate_left
  · intro W hW; clear hW; go_simp; try (with_reducible rfl)
  simp only [Act.put, List.getElem_toArray, List.getElem_cons_succ, List.getElem_cons_zero, List.setIfInBounds_toArray, List.set_cons_zero, List.set_cons_succ]
  refine wpAnyE_take (i := 31) (v := ?_) (listed' := #[true, true, true, true, true, true, true, true, true, true, true, true, true, true, true, true, true, true, true, true, true, true, true, true, true, true, true, true, true, true, true, true, false, false, false, false, false, false, false, false, false, false, false, false, false, false, false, false, false, false, false, false, false, false, false]) (by rfl) (by kernel_rfl) (by kernel_rfl) calm_put hS (by rfl) ?_ ?_
  rotate_left
  · intro W hW; clear hW; go_simp; try (with_reducible rfl)
  simp only [Act.put, List.getElem_toArray, List.getElem_cons_succ, List.getElem_cons_zero, List.setIfInBounds_toArray, List.set_cons_zero, List.set_cons_succ]
  refine wpAnyE_take (i := 32) (v := ?_) (listed' := #[true, true, true, true, true, true, true, true, true, true, true, true, true, true, true, true, true, true, true, true, true, true, true, true, true, true, true, true, true, true, true, true, true, false, false, false, false, false, false, false, false, false, false, false, false, false, false, false, false, false, false, false, false, false, false]) (by rfl) (by kernel_rfl) (by kernel_rfl) calm_put hS (by rfl) ?_ ?_
  rotate_left
  · intro W hW; clear hW; go_simp; try (with_reducible rfl)
  simp only [Act.put, List.getElem_toArray, List.getElem_cons_succ, List.getElem_cons_zero, List.setIfInBounds_toArray, List.set_cons_zero, List.set_cons_succ]
  refine wpAnyE_take (i := 33) (v := ?_) (listed' := #[true, true, true, true, true, true, true, true, true, true, true, true, true, true, true, true, true, true, true, true, true, true, true, true, true, true, true, true, true, true, true, true, true, true, false, false, false, false, false, false, false, false, false, false, false, false, false, false, false, false, false, false, false, false, false]) (by rfl) (by kernel_rfl) (by kernel_rfl) calm_put hS (by rfl) ?_ ?_
  rotate_left
  · intro W hW; clear hW; go_simp; try (with_reducible rfl)
  simp only [Act.put, List.getElem_toArray, List.getElem_cons_succ, List.getElem_cons_zero, List.setIfInBounds_toArray, List.set_cons_zero, List.set_cons_succ]
  refine wpAnyE_take (i := 34) (v := ?_) (listed' := #[true, true, true, true, true, true, true, true, true, true, true, true, true, true, true, true, true, true, true, true, true, true, true, true, true, true, true, true, true, true, true, true, true, true, true, false, false, false, false, false, false, false, false, false, false, false, false, false, false, false, false, false, false, false, false]) (by rfl) (by kernel_rfl) (by kernel_rfl) calm_put hS (by rfl) ?_ ?_
  rotate_left
  · intro W hW; clear hW; go_simp; try (with_reducible rfl)
  simp only [Act.put, List.getElem_toArray, List.getElem_cons_succ, List.getElem_cons_zero, List.setIfInBounds_toArray, List.set_cons_zero, List.set_cons_succ]
  refine wpAnyE_take (i := 35) (v := ?_) (listed' := #[true, true, true, true, true, true, true, true, true, true, true, true, true, true, true, true, true, true, true, true, true, true, true, true, true, true, true, true, true, true, true, true, true, true, true, true, false, false, false, false, false, false, false, false, false, false, false, false, false, false, false, false, false, false, false]) (by rfl) (by kernel_rfl) (by kernel_rfl) calm_put hS (by rfl) ?_ ?_
  rotate_left
  · intro W hW; clear hW; go_simp; try (with_reducible rfl)
  simp only [Act.put, List.getElem_toArray, List.getElem_cons_succ, List.getElem_cons_zero, List.setIfInBounds_toArray, List.set_cons_zero, List.set_cons_succ]
  refine wpAnyE_take (i := 36) (v := ?_) (listed' := #[true, true, true, true, true, true, true, true, true, true, true, true, true, true, true, true, true, true, true, true, true, true, true, true, true, true, true, true, true, true, true, true, true, true, true, true, true, false, false, false, false, false, false, false, false, false, false, false, false, false, false, false, false, false, false]) (by rfl) (by kernel_rfl) (by kernel_rfl) calm_put hS (by rfl) ?_ ?_
  rotate_left
  · intro W hW; clear hW; go_simp; try (with_reducible rfl)
  simp only [Act.put, List.getElem_toArray, List.getElem_cons_succ, List.getElem_cons_zero, List.setIfInBounds_toArray, List.set_cons_zero, List.set_cons_succ]
  refine wpAnyE_take (i := 37) (v := ?_) (listed' := #[true, true, true, true, true, true, true, true, true, true, true, true, true, true, true, true, true, true, true, true, true, true, true, true, true, true, true, true, true, true, true, true, true, true, true, true, true, true, false, false, false, false, false, false, false, false, false, false, false, false, false, false, false, false, false]) (by rfl) (by kernel_rfl) (by kernel_rfl) calm_put hS (by rfl) ?_ ?_
  rotate_left
  · intro W hW; clear hW; go_simp; try (with_reducible rfl)
  simp only [Act.put, List.getElem_toArray, List.getElem_cons_succ, List.getElem_cons_zero, List.setIfInBounds_toArray, List.set_cons_zero, List.set_cons_succ]
  refine wpAnyE_take (i := 38) (v := .agg (u8s (secN 2)).toArray) (listed' := #[true, true, true, true, true, true, true, true, true, true, true, true, true, true, true, true, true, true, true, true, true, true, true, true, true, true, true, true, true, true, true, true, true, true, true, true, true, true, true, false, false, false, false, false, false, false, false, false, false, false, false, false, false, false, false]) (by rfl) (by kernel_rfl) (by kernel_rfl) calm_put hS (by rfl) ?_ ?_
  · intro W hW; skip; exact exec_load_sec _ rfl Sr rfl (secN 2) (secN_len 2) (by simpa using Cells.of_block hW.2.2.2)
  simp only [Act.put, List.getElem_toArray, List.getElem_cons_succ, List.getElem_cons_zero, List.setIfInBounds_toArray, List.set_cons_zero, List.set_cons_succ]
  refine wpAnyE_one (i := 39) (listed' := #[true, true, true, true, true, true, true, true, true, true, true, true, true, true, true, true, true, true, true, true, true, true, true, true, true, true, true, true, true, true, true, true, true, true, true, true, true, true, true, true, false, false, false, false, false, false, false, false, false, false, false, false, false, false, false]) (by rfl) (by kernel_rfl) (by kernel_rfl) (by rfl) (fun K hK => ?_)
  simp only [Act.put, List.getElem_toArray, List.getElem_cons_succ, List.getElem_cons_zero, List.setIfInBounds_toArray, List.set_cons_zero, List.set_cons_succ]
  go_wp2_with fail
  refine Calls.mono (s_sector 2 _) ?_
  rintro e wsec ⟨rfl, hks⟩
  have hS := (⟨hS.1.trans hks, hks.block hS.2.1, hks.block hS.2.2.1, hks.block hS.2.2.2⟩ : _ ∧ _ ∧ _ ∧ _)
  clear hks
  refine hK _ _ (fun _ => hS) ?_; clear hK K
  refine wpAnyE_take (i := 40) (v := .bool true) (listed' := #[true, true, true, true, true, true, true, true, true, true, true, true, true, true, true, true, true, true, true, true, true, true, true, true, true, true, true, true, true, true, true, true, true, true, true, true, true, true, true, true, true, false, false, false, false, false, false, false, false, false, false, false, false, false, false]) (by rfl) (by kernel_rfl) (by kernel_rfl) calm_put hS (by rfl) ?_ ?_
  · intro W hW; clear hW; exact exec_cmp_secE _ _ rfl (secN 2) (secN_len 2) rfl rfl
  simp only [Act.put, List.getElem_toArray, List.getElem_cons_succ, List.getElem_cons_zero, List.setIfInBounds_toArray, List.set_cons_zero, List.set_cons_succ]
  refine wpAnyE_take (i := 41) (v := ?_) (listed' := #[true, true, true, true, true, true, true, true, true, true, true, true, true, true, true, true, true, true, true, true, true, true, true, true, true, true, true, true, true, true, true, true, true, true, true, true, true, true, true, true, true, true, false, false, false, false, false, false, false, false, false, false, false, false, false]) (by rfl) (by kernel_rfl) (by kernel_rfl) calm_put hS (by rfl) ?_ ?_
  rotate_left
  · intro W hW; clear hW; go_simp; try (with_reducible rfl)
  simp only [Act.put, List.getElem_toArray, List.getElem_cons_succ, List.getElem_cons_zero, List.setIfInBounds_toArray, List.set_cons_zero, List.set_cons_succ]
  refine wpAnyE_take (i := 42) (v := ?_) (listed' := #[true, true, true, true, true, true, true, true, true, true, true, true, true, true, true, true, true, true, true, true, true, true, true, true, true, true, true, true, true, true, true, true, true, true, true, true, true, true, true, true, true, true, true, false, false, false, false, false, false, false, false, false, false, false, false]) (by rfl) (by kernel_rfl) (by kernel_rfl) calm_put hS (by rfl) ?_ ?_
  rotate_left
  · intro W hW; clear hW; go_simp; try (with_reducible rfl)
  simp only [Act.put, List.getElem_toArray, List.getElem_cons_succ, List.getElem_cons_zero, List.setIfInBounds_toArray, List.set_cons_zero, List.set_cons_succ]
  refine wpAnyE_take (i := 43) (v := ?_) (listed' := #[true, true, true, true, true, true, true, true, true, true, true, true, true, true, true, true, true, true, true, true, true, true, true, true, true, true, true, true, true, true, true, true, true, true, true, true, true, true, true, true, true, true, true, true, false, false, false, false, false, false, false, false, false, false, false]) (by rfl) (by kernel_rfl) (by kernel_rfl) calm_put hS (by rfl) ?_ ?_
  rotate_left
  · intro W hW; clear hW; go_simp; try (with_reducible rfl)
  simp only [Act.put, List.getElem_toArray, List.getElem_cons_succ, List.getElem_cons_zero, List.setIfInBounds_toArray, List.set_cons_zero, List.set_cons_succ]
  refine wpAnyE_take (i := 44) (v := ?_) (listed' := #[true, true, true, true, true, true, true, true, true, true, true, true, true, true, true, true, true, true, true, true, true, true, true, true, true, true, true, true, true, true, true, true, true, true, true, true, true, true, true, true, true, true, true, true, true, false, false, false, false, false, false, false, false, false, false]) (by rfl) (by kernel_rfl) (by kernel_rfl) calm_put hS (by rfl) ?_ ?_
  rotate_left
  · intro W hW; clear hW; go_simp; try (with_reducible rfl)
  simp only [Act.put, List.getElem_toArray, List.getElem_cons_succ, List.getElem_cons_zero, List.setIfInBounds_toArray, List.set_cons_zero, List.set_cons_succ]
  refine wpAnyE_take (i := 45) (v := ?_) (listed' := #[true, true, true, true, true, true, true, true, true, true, true, true, true, true, true, true, true, true, true, true, true, true, true, true, true, true, true, true, true, true, true, true, true, true, true, true, true, true, true, true, true, true, true, true, true, true, false, false, false, false, false, false, false, false, false]) (by rfl) (by kernel_rfl) (by kernel_rfl) calm_put hS (by rfl) ?_ ?_
  rotate_left
  · intro W hW; clear hW; go_simp; try (with_reducible rfl)
  simp only [Act.put, List.getElem_toArray, List.getElem_cons_succ, List.getElem_cons_zero, List.setIfInBounds_toArray, List.set_cons_zero, List.set_cons_succ]
  refine wpAnyE_take (i := 46) (v := ?_) (listed' := #[true, true, true, true, true, true, true, true, true, true, true, true, true, true, true, true, true, true, true, true, true, true, true, true, true, true, true, true, true, true, true, true, true, true, true, true, true, true, true, true, true, true, true, true, true, true, true, false, false, false, false, false, false, false, false]) (by rfl) (by kernel_rfl) (by kernel_rfl) calm_put hS (by rfl) ?_ ?_
  rotate_left
  · intro W hW; clear hW; go_simp; try (with_reducible rfl)
  simp only [Act.put, List.getElem_toArray, List.getElem_cons_succ, List.getElem_cons_zero, List.setIfInBounds_toArray, List.set_cons_zero, List.set_cons_succ]
  refine wpAnyE_take (i := 47) (v := ?_) (listed' := #[true, true, true, true, true, true, true, true, true, true, true, true, true, true, true, true, true, true, true, true, true, true, true, true, true, true, true, true, true, true, true, true, true, true, true, true, true, true, true, true, true, true, true, true, true, true, true, true, false, false, false, false, false, false, false]) (by rfl) (by kernel_rfl) (by kernel_rfl) calm_put hS (by rfl) ?_ ?_
  rotate_left
  · intro W hW; clear hW; go_simp; try (with_reducible rfl)
  simp only [Act.put, List.getElem_toArray, List.getElem_cons_succ, List.getElem_cons_zero, List.setIfInBounds_toArray, List.set_cons_zero, List.set_cons_succ]
  refine wpAnyE_take (i := 48) (v := ?_) (listed' := #[true, true, true, true, true, true, true, true, true, true, true, true, true, true, true, true, true, true, true, true, true, true, true, true, true, true, true, true, true, true, true, true, true, true, true, true, true, true, true, true, true, true, true, true, true, true, true, true, true, false, false, false, false, false, false]) (by rfl) (by kernel_rfl) (by kernel_rfl) calm_put hS (by rfl) ?_ ?_
  rotate_left
  · intro W hW; clear hW; go_simp; try (with_reducible rfl)
  simp only [Act.put, List.getElem_toArray, List.getElem_cons_succ, List.getElem_cons_zero, List.setIfInBounds_toArray, List.set_cons_zero, List.set_cons_succ]
  refine wpAnyE_take (i := 49) (v := ?_) (listed' := #[true, true, true, true, true, true, true, true, true, true, true, true, true, true, true, true, true, true, true, true, true, true, true, true, true, true, true, true, true, true, true, true, true, true, true, true, true, true, true, true, true, true, true, true, true, true, true, true, true, true, false, false, false, false, false]) (by rfl) (by kernel_rfl) (by kernel_rfl) calm_put hS (by rfl) ?_ ?_
  rotate_left
  · intro W hW; clear hW; go_simp; try (with_reducible rfl)
  simp only [Act.put, List.getElem_toArray, List.getElem_cons_succ, List.getElem_cons_zero, List.setIfInBounds_toArray, List.set_cons_zero, List.set_cons_succ]
  refine wpAnyE_take (i := 50) (v := ?_) (listed' := #[true, true, true, true, true, true, true, true, true, true, true, true, true, true, true, true, true, true, true, true, true, true, true, true, true, true, true, true, true, true, true, true, true, true, true, true, true, true, true, true, true, true, true, true, true, true, true, true, true, true, true, false, false, false, false]) (by rfl) (by kernel_rfl) (by kernel_rfl) calm_put hS (by rfl) ?_ ?_
  rotate_left
  · intro W hW; clear hW; go_simp; try (with_reducible rfl)
  simp only [Act.put, List.getElem_toArray, List.getElem_cons_succ, List.getElem_cons_zero, List.setIfInBounds_toArray, List.set_cons_zero, List.set_cons_succ]
  refine wpAnyE_take (i := 51) (v := ?_) (listed' := #[true, true, true, true, true, true, true, true, true, true, true, true, true, true, true, true, true, true, true, true, true, true, true, true, true, true, true, true, true, true, true, true, true, true, true, true, true, true, true, true, true, true, true, true, true, true, true, true, true, true, true, true, false, false, false]) (by rfl) (by kernel_rfl) (by kernel_rfl) calm_put hS (by rfl) ?_ ?_
  rotate_left
  · intro W hW; clear hW; go_simp; try (with_reducible rfl)
  simp only [Act.put, List.getElem_toArray, List.getElem_cons_succ, List.getElem_cons_zero, List.setIfInBounds_toArray, List.set_cons_zero, List.set_cons_succ]
  refine wpAnyE_take (i := 52) (v := ?_) (listed' := #[true, true, true, true, true, true, true, true, true, true, true, true, true, true, true, true, true, true, true, true, true, true, true, true, true, true, true, true, true, true, true, true, true, true, true, true, true, true, true, true, true, true, true, true, true, true, true, true, true, true, true, true, true, false, false]) (by rfl) (by kernel_rfl) (by kernel_rfl) calm_put hS (by rfl) ?_ ?_
  rotate_left
  · intro W hW; clear hW; go_simp; try (with_reducible rfl)
  simp only [Act.put, List.getElem_toArray, List.getElem_cons_succ, List.getElem_cons_zero, List.setIfInBounds_toArray, List.set_cons_zero, List.set_cons_succ]
  refine wpAnyE_take (i := 53) (v := ?_) (listed' := #[true, true, true, true, true, true, true, true, true, true, true, true, true, true, true, true, true, true, true, true, true, true, true, true, true, true, true, true, true, true, true, true, true, true, true, true, true, true, true, true, true, true, true, true, true, true, true, true, true, true, true, true, true, true, false]) (by rfl) (by kernel_rfl) (by kernel_rfl) calm_put hS (by rfl) ?_ ?_
  rotate_left
  · intro W hW; clear hW; go_simp; try (with_reducible rfl)
  simp only [Act.put, List.getElem_toArray, List.getElem_cons_succ, List.getElem_cons_zero, List.setIfInBounds_toArray, List.set_cons_zero, List.set_cons_succ]
  refine wpAnyE_one (i := 54) (listed' := #[true, true, true, true, true, true, true, true, true, true, true, true, true, true, true, true, true, true, true, true, true, true, true, true, true, true, true, true, true, true, true, true, true, true, true, true, true, true, true, true, true, true, true, true, true, true, true, true, true, true, true, true, true, true, true]) (by rfl) (by kernel_rfl) (by kernel_rfl) (by rfl) (fun K hK => ?_)
  simp only [Act.put, List.getElem_toArray, List.getElem_cons_succ, List.getElem_cons_zero, List.setIfInBounds_toArray, List.set_cons_zero, List.set_cons_succ]
  go_wp2
  refine hK _ _ (fun _ => hS) ?_; clear hK K
  refine wpAnyE_done (by kernel_rfl) ?_ _
  refine calm_normal ?_
  go_wp2
  go_ret
  exact ⟨rfl, hS.1⟩
end
end Go.Proofs.YtglplhmclfekfaaGreat
