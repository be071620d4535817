/- metalog's Append walked. -/
import Derived.Test.YtpeclkhppgabfaaDoorLog
namespace Go.Proofs.YtpeclkhppgabfaaDoor
open Go.RowKit
set_option linter.unusedVariables false
set_option linter.unusedSimpArgs false

/-- what Append does -/
def LogT.app (t : LogT) (T : BankT) (L : List Int) (b : List Int) : LogT × BankT × Int :=
  if t.dead = true then (t, T, 9)
  else if 48 < t.pos + partsN b.length then (t, T, 10)
  else if (BankT.layM (2 + (t.pos : Int)) (splitB t.gen t.num b) L 0 T).2 = 0 then ({ t with num := t.num + 1, pos := t.pos + partsN b.length }, (BankT.layM (2 + (t.pos : Int)) (splitB t.gen t.num b) L 0 T).1, 0)
  else ({ t with dead := true }, (BankT.layM (2 + (t.pos : Int)) (splitB t.gen t.num b) L 0 T).1, (BankT.layM (2 + (t.pos : Int)) (splitB t.gen t.num b) L 0 T).2)
theorem SameR.three {R : Nat → Prop} {X p : Nat} {a b c d : World} (h1 : SameR R a b) (h2 : SameR (fun k => R k ∨ k = X) b c) (h3 : SameR (fun k => R k ∧ k ≠ p) c d) : SameR (fun k => R k ∧ k ≠ p) a d := fun k hk => (h3 k hk).trans ((h2 k (.inl hk.1)).trans (h1 k hk.1))
section
variable {w0 W : World} {R : Nat → Prop} {p q lg c : Nat} {T : BankT} {L : List Int} {t : LogT}
set_option maxHeartbeats 4000000
set_option maxRecDepth 100000
theorem meta_Append (h : BK w0 R W q T) (hl : LogD W p q lg c L t) (hp : R p) (hlg : R lg) (hp0 : w0.heap.size ≤ p) (hpl : lg ≠ p) (sv : Value) (b : List Int) (hs : Src W 1 sv b.length (u8s b)) (hb : b.length ≤ 2120) (hbb : ∀ y ∈ b, IsByte y) (hL : L.length ≤ 100) (u : T.UseN (L.length * partsN b.length)) (hg : 0 ≤ t.gen ∧ t.gen < 4294967296) (hn : t.num < 1000) (hpos : t.pos ≤ 48) :
    Calls Tryd.prog 27 #[.pointer (some ⟨p, 0, none⟩), sv] W fun e w' => e = .returned (.int .i64 (t.app T L b).2.2) ∧ BK w0 R w' q (t.app T L b).2.1 ∧ LogD w' p q lg c L (t.app T L b).1 ∧ SameR (fun k => R k ∧ k ≠ p) W w' := by
  obtain ⟨gen, num, pos, dead⟩ := t
  try simp only [] at hg hn hpos
  obtain ⟨pp1, pp2, _, _, _⟩ := partsN_pos hb
  obtain ⟨tr, Tr, cr, hres⟩ : ∃ tr Tr cr, (⟨gen, num, pos, dead⟩ : LogT).app T L b = (tr, Tr, cr) := ⟨_, _, _, rfl⟩
  rw [hres]
  unfold LogT.app at hres
  try simp only [] at hres ⊢
  have HC := Lib.hid (fun W' (hk : Kept W W') => record_Split gen (num : Int) sv b W' (hs.kept hk) hb hg ⟨by omega, by omega⟩)
  have HPS := Lib.hid (splitB_sec (gen := gen) (num := (num : Int)) hbb)
  have HPL := Lib.hid (splitB_len gen (num : Int) b)
  have HB0 := Lib.hid h
  have HL0 := Lib.hid hl
  have HU0 := Lib.hid u
  have HR := Lib.hid (And.intro hp (And.intro hlg (And.intro hp0 hpl)))
  clear h hl hp hlg hp0 hpl hs hbb u
  generalize splitB gen (num : Int) b = P at *
  obtain ⟨n, hpn⟩ : ∃ n, partsN b.length = n := ⟨_, rfl⟩
  rw [hpn] at hres HC HPL HU0 pp1 pp2
  clear hb hpn
  have hn0 : ((n : Int) == 0) = false := by simp; omega
  go_enter Tryd.func27, Tryd.ntmps27
  go_upto_region 1 with fail
  have hS : Kept W W.drew ∧ W.drew.heap[p]? = some (.cells (logVals q lg L.length c ⟨gen, num, pos, dead⟩).toArray 101 (0, 0)) := ⟨(Kept.refl W).drew, HL0.out.blk⟩
  refine wp_region_calm ?_
  refine wp_region_E (fun W' => Kept W W' ∧ W'.heap[p]? = some (.cells (logVals q lg L.length c ⟨gen, num, pos, dead⟩).toArray 101 (0, 0))) 100 (by kernel_rfl) ?_
  refine wpAnyE_take (i := 0) (v := ?_) (listed' := #[true, false, false, false, false, false, false, false, false, false, false]) (by rfl) (by kernel_rfl) (by kernel_rfl) calm_put hS (by rfl) ?_ ?_
  rotate_left
  · intro W hW; clear hW; go_simp; try (with_reducible rfl)
  simp only [Act.put, List.getElem_toArray, List.getElem_cons_succ, List.getElem_cons_zero, List.setIfInBounds_toArray, List.set_cons_zero, List.set_cons_succ]
  refine wpAnyE_take (i := 1) (v := ?_) (listed' := #[true, true, false, false, false, false, false, false, false, false, false]) (by rfl) (by kernel_rfl) (by kernel_rfl) calm_put hS (by rfl) ?_ ?_
  rotate_left
  · intro W hW; clear hW; go_simp; try (with_reducible rfl)
  simp only [Act.put, List.getElem_toArray, List.getElem_cons_succ, List.getElem_cons_zero, List.setIfInBounds_toArray, List.set_cons_zero, List.set_cons_succ]
  refine wpAnyE_take (i := 2) (v := ?_) (listed' := #[true, true, true, false, false, false, false, false, false, false, false]) (by rfl) (by kernel_rfl) (by kernel_rfl) calm_put hS (by rfl) ?_ ?_
  rotate_left
  · intro W hW; clear hW; go_simp; try (with_reducible rfl)
  simp only [Act.put, List.getElem_toArray, List.getElem_cons_succ, List.getElem_cons_zero, List.setIfInBounds_toArray, List.set_cons_zero, List.set_cons_succ]
  refine wpAnyE_take (i := 3) (v := .int .i64 gen) (listed' := #[true, true, true, true, false, false, false, false, false, false, false]) (by rfl) (by kernel_rfl) (by kernel_rfl) calm_put hS (by rfl) ?_ ?_
  · intro W hW; skip; have hc0 : W.cell? ⟨p, 2, none⟩ = some (.int .i64 gen) := cell_of_row _ _ 2 _ _ _ hW.2; clear hW; go_simp; try (with_reducible rfl)
  simp only [Act.put, List.getElem_toArray, List.getElem_cons_succ, List.getElem_cons_zero, List.setIfInBounds_toArray, List.set_cons_zero, List.set_cons_succ]
  refine wpAnyE_take (i := 4) (v := ?_) (listed' := #[true, true, true, true, true, false, false, false, false, false, false]) (by rfl) (by kernel_rfl) (by kernel_rfl) calm_put hS (by rfl) ?_ ?_
  rotate_left
  · intro W hW; clear hW; go_simp; try (with_reducible rfl)
  simp only [Act.put, List.getElem_toArray, List.getElem_cons_succ, List.getElem_cons_zero, List.setIfInBounds_toArray, List.set_cons_zero, List.set_cons_succ]
  refine wpAnyE_take (i := 5) (v := ?_) (listed' := #[true, true, true, true, true, true, false, false, false, false, false]) (by rfl) (by kernel_rfl) (by kernel_rfl) calm_put hS (by rfl) ?_ ?_
  rotate_left
  · intro W hW; clear hW; go_simp; try (with_reducible rfl)
  simp only [Act.put, List.getElem_toArray, List.getElem_cons_succ, List.getElem_cons_zero, List.setIfInBounds_toArray, List.set_cons_zero, List.set_cons_succ]
  refine wpAnyE_take (i := 6) (v := ?_) (listed' := #[true, true, true, true, true, true, true, false, false, false, false]) (by rfl) (by kernel_rfl) (by kernel_rfl) calm_put hS (by rfl) ?_ ?_
  rotate_left
  · intro W hW; clear hW; go_simp; try (with_reducible rfl)
  simp only [Act.put, List.getElem_toArray, List.getElem_cons_succ, List.getElem_cons_zero, List.setIfInBounds_toArray, List.set_cons_zero, List.set_cons_succ]
  refine wpAnyE_take (i := 7) (v := .int .i64 (num : Int)) (listed' := #[true, true, true, true, true, true, true, true, false, false, false]) (by rfl) (by kernel_rfl) (by kernel_rfl) calm_put hS (by rfl) ?_ ?_
  · intro W hW; skip; have hc4 : W.cell? ⟨p, 3, none⟩ = some (.int .i64 (num : Int)) := cell_of_row _ _ 3 _ _ _ hW.2; clear hW; go_simp; try (with_reducible rfl)
  simp only [Act.put, List.getElem_toArray, List.getElem_cons_succ, List.getElem_cons_zero, List.setIfInBounds_toArray, List.set_cons_zero, List.set_cons_succ]
  refine wpAnyE_take (i := 8) (v := ?_) (listed' := #[true, true, true, true, true, true, true, true, true, false, false]) (by rfl) (by kernel_rfl) (by kernel_rfl) calm_put hS (by rfl) ?_ ?_
  rotate_left
  · intro W hW; clear hW; go_simp; try (with_reducible rfl)
  simp only [Act.put, List.getElem_toArray, List.getElem_cons_succ, List.getElem_cons_zero, List.setIfInBounds_toArray, List.set_cons_zero, List.set_cons_succ]
  refine wpAnyE_one (i := 9) (listed' := #[true, true, true, true, true, true, true, true, true, true, false]) (by rfl) (by kernel_rfl) (by kernel_rfl) (by rfl) (fun K hK => ?_)
  simp only [Act.put, List.getElem_toArray, List.getElem_cons_succ, List.getElem_cons_zero, List.setIfInBounds_toArray, List.set_cons_zero, List.set_cons_succ]
  have HBd := Lib.hid (HB0.out.kept (Kept.refl W).drew).1
  have HSd := Lib.hid (HB0.out.kept (Kept.refl W).drew).2
  go_wp2_with fail
  refine Calls.mono (HC.out W.drew (Kept.refl W).drew) ?_
  rintro e w1 ⟨rfl, hz1, hk2⟩
  have hS := (⟨hS.1.trans hk2, hk2.block hS.2⟩ : _ ∧ _)
  refine hK _ _ (fun _ => hS) ?_; clear hK K
  refine wpAnyE_one (i := 10) (listed' := #[true, true, true, true, true, true, true, true, true, true, true]) (by rfl) (by kernel_rfl) (by kernel_rfl) (by rfl) (fun K hK => ?_)
  simp only [Act.put, List.getElem_toArray, List.getElem_cons_succ, List.getElem_cons_zero, List.setIfInBounds_toArray, List.set_cons_zero, List.set_cons_succ]
  go_wp2
  refine hK _ _ (fun _ => hS) ?_; clear hK K
  refine wpAnyE_done (by kernel_rfl) ?_ _
  refine calm_normal ?_
  have hk1 := hS.1
  have hlt1 : W.drew.heap.size = W.heap.size := rfl
  have HX1 := Lib.hid hz1
  have HB1 := Lib.hid (HBd.out.more hk2 W.drew.heap.size (Nat.le_refl _) (Array.getElem?_eq_some_iff.1 hz1).1)
  have HS1 := Lib.hid (HSd.out.trans (HBd.out.kept hk2).2)
  have HL1 := Lib.hid (HL0.out.kept hk1)
  have HXW := Lib.hid (show ∀ k', R k' → k' ≠ W.drew.heap.size from fun k' hk' e => by have := (by obtain ⟨_, _, hh⟩ := HBd.out; exact (hh.off k' hk').1 : k' < W.drew.heap.size); omega)
  have HLd := Lib.hid (HL0.out.kept (Kept.refl W).drew)
  generalize W.drew.heap.size = X at *
  have c5 := HL1.out.c5
  try simp only [] at c5
  clear hz1 hk1 hk2 hS hlt1 HBd HSd HC
  cases dead with
  | true =>
    rw [if_pos rfl] at hres
    obtain ⟨rfl, rfl, rfl⟩ : (⟨gen, num, pos, true⟩ : LogT) = tr ∧ T = Tr ∧ 9 = cr := by cases hres; exact ⟨rfl, rfl, rfl⟩
    clear hres
    go_wp2
    go_ret
    exact ⟨rfl, HB1.out.less fun k hk => .inl hk, HL1.out, fun k hk => HS1.out k hk.1⟩
  | false =>
    rw [if_neg (by decide)] at hres
    have HROOM := Lib.hid (meta_Room HL1.out hpos)
    try simp only [] at HROOM
    by_cases hfit : 48 < pos + n
    · rw [if_pos hfit] at hres
      obtain ⟨rfl, rfl, rfl⟩ : (⟨gen, num, pos, false⟩ : LogT) = tr ∧ T = Tr ∧ 10 = cr := by cases hres; exact ⟨rfl, rfl, rfl⟩
      have hf1 : 48 - (pos : Int) < (n : Int) := by omega
      clear hres hfit
      go_wp2_with fail
      refine Calls.mono HROOM.out ?_
      rintro e w' ⟨rfl, rfl⟩
      go_wp2
      go_ret
      exact ⟨rfl, HB1.out.less fun k hk => .inl hk, HL1.out, fun k hk => HS1.out k hk.1⟩
    · rw [if_neg hfit] at hres
      have hf1 : ¬ (48 - (pos : Int) < (n : Int)) := by omega
      have HFIT := Lib.hid hfit
      obtain ⟨Tm, cm, hm⟩ : ∃ Tm cm, BankT.layM (2 + (pos : Int)) P L 0 T = (Tm, cm) := ⟨_, _, rfl⟩
      rw [hm] at hres
      try simp only [] at hres
      have HRES := Lib.hid hres
      have HM := Lib.hid (show BankT.layM (2 + (pos : Int)) P (L.drop 0) 0 T = (Tm, cm) from hm)
      have HUZ := Lib.hid (show T.UseN ((L.length - 0) * n) from HU0.out)
      have HSZ := Lib.hid (SameR.refl (fun k => R k ∨ k = X) w1)
      have c1 := HL1.out.c1
      try simp only [] at c1
      clear hres hm hfit HU0
      go_wp2_with fail
      refine Calls.mono HROOM.out ?_
      rintro e w' ⟨rfl, rfl⟩
      go_wp2
      clear c1
      go_loopw [6, 40] (fun m i wr => ∃ (t k : Nat) (T : BankT), t ≤ L.length ∧ k ≤ t ∧ i = .int .i64 t ∧ m = .int .i64 k ∧ Hid (BankT.layM (2 + (pos : Int)) P (L.drop t) k T = (Tm, cm)) ∧ Hid (T.UseN ((L.length - t) * n)) ∧ Hid (BK w0 (fun k => R k ∨ k = X) wr q T) ∧ Hid (SameR (fun k => R k ∨ k = X) w1 wr)) (fun _ i _ => L.length - (intOf i).toNat)
      case atStart => exact ⟨0, 0, T, Nat.zero_le _, Nat.le_refl _, rfl, rfl, HM, HUZ, HB1, HSZ⟩
      case round =>
        clear HM HUZ HB1 HSZ c5
        obtain ⟨t, k, T, ht, hkt, rfl, rfl, HM, HU, HB, HS⟩ := hrel
        have HL := Lib.hid (HL1.out.same HS.out (.inl HR.out.1) (.inl HR.out.2.1))
        by_cases hlt : t < L.length
        · have hcell := cell_ints HL.out.live hlt
          have HX := Lib.hid ((HS.out X (.inr rfl)).trans HX1.out)
          replace HM : Hid (BankT.layM (2 + (pos : Int)) P (L.getD t 0 :: L.drop (t + 1)) k T = (Tm, cm)) := Lib.hid (by rw [← drop_int hlt]; exact HM.out)
          generalize L.getD t 0 = d at *
          obtain ⟨T1, c1, hw⟩ : ∃ T1 c1, BankT.layL d (2 + (pos : Int)) P T = (T1, c1) := ⟨_, _, rfl⟩
          have hu : T.UseN ((L.length - (t + 1)) * n + n) := by
            have := HU.out
            rw [show L.length - t = L.length - (t + 1) + 1 by omega, Nat.succ_mul] at this
            exact this
          have hu1 := BankT.UseN.layL (k := (L.length - (t + 1)) * n) d P (T := T) (2 + (pos : Int)) (by rw [HPL.out]; exact hu) HPS.out
          rw [hw] at hu1
          have HU1 := Lib.hid hu1
          have HLAY := Lib.hid (meta_member HB.out HL.out (.inl HR.out.1) (.inl HR.out.2.1) P HPS.out (by rw [HPL.out]; omega) (by rw [HPL.out]; exact hu.less (by omega)) d hpos X (.inr rfl) HX.out)
          try simp only [] at HLAY
          rw [hw, HPL.out] at HLAY
          unfold BankT.layM at HM
          rw [hw] at HM
          try simp only [] at HM HU1 HLAY
          clear hu hu1 hw HU HX HL
          go_wp2_with fail
          refine Calls.mono HLAY.out ?_
          rintro e w3 ⟨rfl, hb3, hs3⟩
          have HB3 := Lib.hid hb3
          have HS3 := Lib.hid (HS.out.trans hs3)
          clear hb3 hs3 HB HS HLAY hcell
          by_cases hc : c1 = 0
          · subst hc
            replace HM : Hid (BankT.layM (2 + (pos : Int)) P (L.drop (t + 1)) (k + 1) T1 = (Tm, cm)) := Lib.hid (by have := HM.out; rw [if_pos rfl] at this; exact this)
            go_wp2
            go_roundw
            case rel => exact ⟨t + 1, k + 1, T1, hlt, by omega, by go_num, by go_num, HM, HU1, HB3, HS3⟩
            case measure => simp [intOf]; omega
          · have hcb : (c1 == 0) = false := by simpa using hc
            have hr := HM.out
            rw [if_neg hc] at hr
            clear HM hc
            rcases hpass : passE c1 with _ | _
            · rw [if_neg (by rw [hpass]; decide)] at hr
              obtain ⟨rfl, rfl⟩ : T1 = Tm ∧ 6 = cm := by cases hr; exact ⟨rfl, rfl⟩
              have hr2 := HRES.out
              rw [if_neg (by decide)] at hr2
              obtain ⟨rfl, rfl, rfl⟩ : (⟨gen, num, pos, true⟩ : LogT) = tr ∧ T1 = Tr ∧ 6 = cr := by cases hr2; exact ⟨rfl, rfl, rfl⟩
              have HPA := Lib.hid hpass
              have HL3 := Lib.hid (HL1.out.same HS3.out (.inl HR.out.1) (.inl HR.out.2.1))
              have HFA := Lib.hid (meta_fails HL3.out 6)
              try simp only [] at HFA
              clear hr hr2 hpass
              go_wp2_with fail
              refine Calls.mono (meta_passed c1 _) ?_
              rintro e w' ⟨rfl, rfl⟩
              rw [HPA.out]
              go_wp2_with fail
              refine Calls.mono HFA.out ?_
              rintro e w4 ⟨rfl, hw4⟩
              have HB4 := Lib.hid (HB3.out.wrote hw4 (.inl HR.out.1) HR.out.2.2.1)
              have HL4 : Hid (LogD w4 p q lg c L ⟨gen, num, pos, true⟩) := Lib.hid ⟨hw4.blk, fun j hj => (World.cell?_of_block (hw4.oth lg HR.out.2.2.2)).trans (HL3.out.live j hj)⟩
              have HS4 := Lib.hid (show SameR (fun k => R k ∧ k ≠ p) w3 w4 from fun k hk => hw4.oth k hk.2)
              clear hw4
              go_wp2
              go_ret
              exact ⟨rfl, HB4.out.less fun k hk => .inl hk, HL4.out, SameR.three HS1.out HS3.out HS4.out⟩
            · rw [if_pos hpass] at hr
              have HM := Lib.hid hr
              have HPA := Lib.hid hpass
              clear hr hpass
              go_wp2_with fail
              refine Calls.mono (meta_passed c1 _) ?_
              rintro e w' ⟨rfl, rfl⟩
              rw [HPA.out]
              go_wp2
              go_roundw
              case rel => exact ⟨t + 1, k, T1, hlt, by omega, by go_num, rfl, HM, HU1, HB3, HS3⟩
              case measure => simp [intOf]; omega
        · have htn : t = L.length := by omega
          have hr := HM.out
          rw [htn, List.drop_length] at hr
          unfold BankT.layM at hr
          have hge : L.length ≤ t := by omega
          by_cases hk0 : k = 0
          · rw [if_pos hk0] at hr
            obtain ⟨rfl, rfl⟩ : T = Tm ∧ 5 = cm := by cases hr; exact ⟨rfl, rfl⟩
            have hr2 := HRES.out
            rw [if_neg (by decide)] at hr2
            obtain ⟨rfl, rfl, rfl⟩ : (⟨gen, num, pos, true⟩ : LogT) = tr ∧ T = Tr ∧ 5 = cr := by cases hr2; exact ⟨rfl, rfl, rfl⟩
            have hkb : ((k : Int) == 0) = true := by simp [hk0]
            have HFA := Lib.hid (meta_fails HL.out 5)
            try simp only [] at HFA
            clear hr hr2 HM htn hk0
            go_wp2_with fail
            refine Calls.mono HFA.out ?_
            rintro e w4 ⟨rfl, hw4⟩
            have HB4 := Lib.hid (HB.out.wrote hw4 (.inl HR.out.1) HR.out.2.2.1)
            have HL4 : Hid (LogD w4 p q lg c L ⟨gen, num, pos, true⟩) := Lib.hid ⟨hw4.blk, fun j hj => (World.cell?_of_block (hw4.oth lg HR.out.2.2.2)).trans (HL.out.live j hj)⟩
            have HS4 := Lib.hid (show SameR (fun k => R k ∧ k ≠ p) wr w4 from fun k hk => hw4.oth k hk.2)
            clear hw4
            go_wp2
            go_ret
            exact ⟨rfl, HB4.out.less fun k hk => .inl hk, HL4.out, SameR.three HS1.out HS.out HS4.out⟩
          · rw [if_neg hk0] at hr
            obtain ⟨rfl, rfl⟩ : T = Tm ∧ 0 = cm := by cases hr; exact ⟨rfl, rfl⟩
            have hr2 := HRES.out
            rw [if_pos rfl] at hr2
            obtain ⟨rfl, rfl, rfl⟩ : (⟨gen, num + 1, pos + n, false⟩ : LogT) = tr ∧ T = Tr ∧ 0 = cr := by cases hr2; exact ⟨rfl, rfl, rfl⟩
            have hkb : ((k : Int) == 0) = false := by simp [hk0]
            have c3 := HL.out.c3
            try simp only [] at c3
            have hpn : pos + n ≤ 48 := by have := HFIT.out; omega
            clear hr hr2 HM htn hk0
            go_wp2_with (refine stop_at (o := ⟨none, .store _ _ _, _, _, _, _⟩) ?_)
            refine Stop.mk ?_
            refine wpList_set_cell rfl _ _ rfl size_int p 3 rfl (.int .i64 ((num : Int) + 1)) rfl rfl rfl _ _ HL.out.blk (show 3 < 6 by decide) ?_
            intro w4 hw4
            have HW4 := Lib.hid hw4
            have c4 : w4.cell? ⟨p, 4, none⟩ = some (.int .i64 (pos : Int)) := cell_of_row _ _ 4 _ _ _ hw4.blk
            clear hw4 c3
            go_wp2_with (refine stop_at (o := ⟨none, .store _ _ _, _, _, _, _⟩) ?_)
            refine Stop.mk ?_
            refine wpList_set_cell rfl _ _ rfl size_int p 4 rfl (.int .i64 ((pos : Int) + (n : Int))) rfl rfl rfl _ _ HW4.out.blk (show 4 < 6 by decide) ?_
            intro w5 hw5
            have hw := HW4.out.again hw5
            have HB5 := Lib.hid (HB.out.wrote hw (.inl HR.out.1) HR.out.2.2.1)
            have HL5 : Hid (LogD w5 p q lg c L ⟨gen, num + 1, pos + n, false⟩) := Lib.hid ⟨by have := hw.blk; simpa [logVals] using this, fun j hj => (World.cell?_of_block (hw.oth lg HR.out.2.2.2)).trans (HL.out.live j hj)⟩
            have HS5 := Lib.hid (show SameR (fun k => R k ∧ k ≠ p) wr w5 from fun k hk => hw.oth k hk.2)
            clear hw hw5 HW4 c4
            go_wp2
            go_ret
            exact ⟨rfl, HB5.out.less fun k hk => .inl hk, HL5.out, SameR.three HS1.out HS.out HS5.out⟩
end
end Go.Proofs.YtpeclkhppgabfaaDoor
