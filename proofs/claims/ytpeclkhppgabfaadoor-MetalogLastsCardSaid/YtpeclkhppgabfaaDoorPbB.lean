/- PbB: several texts in one: Apd Jqp Shd Iby. -/
import Derived.Test.YtpeclkhppgabfaaDoorPbA
import Derived.Test.YtpeclkhppgabfaaDoorPaN
import Derived.Test.YtpeclkhppgabfaaDoorPaL
import Derived.Test.YtpeclkhppgabfaaDoorPaM
import Derived.Test.YtpeclkhppgabfaaDoorPaH
import Derived.ProofKit
import Derived.OpenShut
import Derived.ChangeOld
import Derived.Deep.MidRow
/- metalog's Append walked. -/
namespace Go.Proofs.YtpeclkhppgabfaaDoor
open Go.RowKit
set_option linter.unusedVariables false
set_option linter.unusedSimpArgs false

/-- what Append does -/
def LogT.app (t : LogT) (T : BankT) (L : List Int) (b : List Int) : LogT × BankT × Int :=
  if t.dead = true then (t, T, 9)
  else if 48 < t.pos + partsN b.length then (t, T, 10)
  else if (BankT.layM (2 + (t.pos : Int)) (splitB t.gen t.num b) L 0 T).2 = 0 then ({ t with num := t.num + 1, pos := t.pos + partsN b.length }, (BankT.layM (2 + (t.pos : Int)) (splitB t.gen t.num b) L 0 T).1, 0)
  else ({ t with dead := true }, (BankT.layM (2 + (t.pos : Int)) (splitB t.gen t.num b) L 0 T).1, (BankT.layM (2 + (t.pos : Int)) (splitB t.gen t.num b) L 0 T).2)
theorem SameR.three {R : Nat → Prop} {X p : Nat} {a b c d : World} (h1 : SameR R a b) (h2 : SameR (fun k => R k ∨ k = X) b c) (h3 : SameR (fun k => R k ∧ k ≠ p) c d) : SameR (fun k => R k ∧ k ≠ p) a d := fun k hk => (h3 k hk).trans ((h2 k (.inl hk.1)).trans (h1 k hk.1))
section
variable {w0 W : World} {R : Nat → Prop} {p q lg c : Nat} {T : BankT} {L : List Int} {t : LogT}
set_option maxHeartbeats 4000000
set_option maxRecDepth 100000
theorem meta_Append (h : BK w0 R W q T) (hl : LogD W p q lg c L t) (hp : R p) (hlg : R lg) (hp0 : w0.heap.size ≤ p) (hpl : lg ≠ p) (sv : Value) (b : List Int) (hs : Src W 1 sv b.length (u8s b)) (hb : b.length ≤ 2120) (hbb : ∀ y ∈ b, IsByte y) (hL : L.length ≤ 100) (u : T.UseN (L.length * partsN b.length)) (hg : 0 ≤ t.gen ∧ t.gen < 4294967296) (hn : t.num < 1000) (hpos : t.pos ≤ 48) :
    Calls Tryd.prog 27 #[.pointer (some ⟨p, 0, none⟩), sv] W fun e w' => e = .returned (.int .i64 (t.app T L b).2.2) ∧ BK w0 R w' q (t.app T L b).2.1 ∧ LogD w' p q lg c L (t.app T L b).1 ∧ SameR (fun k => R k ∧ k ≠ p) W w' := by
  obtain ⟨gen, num, pos, dead⟩ := t
  try simp only [] at hg hn hpos
  obtain ⟨pp1, pp2, _, _, _⟩ := partsN_pos hb
  obtain ⟨tr, Tr, cr, hres⟩ : ∃ tr Tr cr, (⟨gen, num, pos, dead⟩ : LogT).app T L b = (tr, Tr, cr) := ⟨_, _, _, rfl⟩
  rw [hres]
  unfold LogT.app at hres
  try simp only [] at hres ⊢
  have HC := Lib.hid (fun W' (hk : Kept W W') => record_Split gen (num : Int) sv b W' (hs.kept hk) hb hg ⟨by omega, by omega⟩)
  have HPS := Lib.hid (splitB_sec (gen := gen) (num := (num : Int)) hbb)
  have HPL := Lib.hid (splitB_len gen (num : Int) b)
  have HB0 := Lib.hid h
  have HL0 := Lib.hid hl
  have HU0 := Lib.hid u
  have HR := Lib.hid (And.intro hp (And.intro hlg (And.intro hp0 hpl)))
  clear h hl hp hlg hp0 hpl hs hbb u
  generalize splitB gen (num : Int) b = P at *
  obtain ⟨n, hpn⟩ : ∃ n, partsN b.length = n := ⟨_, rfl⟩
  rw [hpn] at hres HC HPL HU0 pp1 pp2
  clear hb hpn
  have hn0 : ((n : Int) == 0) = false := by simp; omega
  go_enter Tryd.func27, Tryd.ntmps27
  go_upto_region 1 with fail
  have hS : Kept W W.drew ∧ W.drew.heap[p]? = some (.cells (logVals q lg L.length c ⟨gen, num, pos, dead⟩).toArray 101 (0, 0)) := ⟨(Kept.refl W).drew, HL0.out.blk⟩
  refine wp_region_calm ?_
  refine wp_region_E (fun W' => Kept W W' ∧ W'.heap[p]? = some (.cells (logVals q lg L.length c ⟨gen, num, pos, dead⟩).toArray 101 (0, 0))) 100 (by kernel_rfl) ?_
  refine wpAnyE_take (i := 0) (v := ?_) (listed' := #[true, false, false, false, false, false, false, false, false, false, false]) (by rfl) (by kernel_rfl) (by kernel_rfl) calm_put hS (by rfl) ?_ ?_
  rotate_left
  · intro W hW; clear hW; go_simp; try (with_reducible rfl)
  simp only [Act.put, List.getElem_toArray, List.getElem_cons_succ, List.getElem_cons_zero, List.setIfInBounds_toArray, List.set_cons_zero, List.set_cons_succ]
  refine wpAnyE_take (i := 1) (v := ?_) (listed' := #[true, true, false, false, false, false, false, false, false, false, false]) (by rfl) (by kernel_rfl) (by kernel_rfl) calm_put hS (by rfl) ?_ ?_
  rotate_left
  · intro W hW; clear hW; go_simp; try (with_reducible rfl)
  simp only [Act.put, List.getElem_toArray, List.getElem_cons_succ, List.getElem_cons_zero, List.setIfInBounds_toArray, List.set_cons_zero, List.set_cons_succ]
  refine wpAnyE_take (i := 2) (v := ?_) (listed' := #[true, true, true, false, false, false, false, false, false, false, false]) (by rfl) (by kernel_rfl) (by kernel_rfl) calm_put hS (by rfl) ?_ ?_
  rotate_left
  · intro W hW; clear hW; go_simp; try (with_reducible rfl)
  simp only [Act.put, List.getElem_toArray, List.getElem_cons_succ, List.getElem_cons_zero, List.setIfInBounds_toArray, List.set_cons_zero, List.set_cons_succ]
  refine wpAnyE_take (i := 3) (v := .int .i64 gen) (listed' := #[true, true, true, true, false, false, false, false, false, false, false]) (by rfl) (by kernel_rfl) (by kernel_rfl) calm_put hS (by rfl) ?_ ?_
  · intro W hW; skip; have hc0 : W.cell? ⟨p, 2, none⟩ = some (.int .i64 gen) := cell_of_row _ _ 2 _ _ _ hW.2; clear hW; go_simp; try (with_reducible rfl)
  simp only [Act.put, List.getElem_toArray, List.getElem_cons_succ, List.getElem_cons_zero, List.setIfInBounds_toArray, List.set_cons_zero, List.set_cons_succ]
  refine wpAnyE_take (i := 4) (v := ?_) (listed' := #[true, true, true, true, true, false, false, false, false, false, false]) (by rfl) (by kernel_rfl) (by kernel_rfl) calm_put hS (by rfl) ?_ ?_
  rotate_left
  · intro W hW; clear hW; go_simp; try (with_reducible rfl)
  simp only [Act.put, List.getElem_toArray, List.getElem_cons_succ, List.getElem_cons_zero, List.setIfInBounds_toArray, List.set_cons_zero, List.set_cons_succ]
  refine wpAnyE_take (i := 5) (v := ?_) (listed' := #[true, true, true, true, true, true, false, false, false, false, false]) (by rfl) (by kernel_rfl) (by kernel_rfl) calm_put hS (by rfl) ?_ ?_
  rotate_left
  · intro W hW; clear hW; go_simp; try (with_reducible rfl)
  simp only [Act.put, List.getElem_toArray, List.getElem_cons_succ, List.getElem_cons_zero, List.setIfInBounds_toArray, List.set_cons_zero, List.set_cons_succ]
  refine wpAnyE_take (i := 6) (v := ?_) (listed' := #[true, true, true, true, true, true, true, false, false, false, false]) (by rfl) (by kernel_rfl) (by kernel_rfl) calm_put hS (by rfl) ?_ ?_
  rotate_left
  · intro W hW; clear hW; go_simp; try (with_reducible rfl)
  simp only [Act.put, List.getElem_toArray, List.getElem_cons_succ, List.getElem_cons_zero, List.setIfInBounds_toArray, List.set_cons_zero, List.set_cons_succ]
  refine wpAnyE_take (i := 7) (v := .int .i64 (num : Int)) (listed' := #[true, true, true, true, true, true, true, true, false, false, false]) (by rfl) (by kernel_rfl) (by kernel_rfl) calm_put hS (by rfl) ?_ ?_
  · intro W hW; skip; have hc4 : W.cell? ⟨p, 3, none⟩ = some (.int .i64 (num : Int)) := cell_of_row _ _ 3 _ _ _ hW.2; clear hW; go_simp; try (with_reducible rfl)
  simp only [Act.put, List.getElem_toArray, List.getElem_cons_succ, List.getElem_cons_zero, List.setIfInBounds_toArray, List.set_cons_zero, List.set_cons_succ]
  refine wpAnyE_take (i := 8) (v := ?_) (listed' := #[true, true, true, true, true, true, true, true, true, false, false]) (by rfl) (by kernel_rfl) (by kernel_rfl) calm_put hS (by rfl) ?_ ?_
  rotate_left
  · intro W hW; clear hW; go_simp; try (with_reducible rfl)
  simp only [Act.put, List.getElem_toArray, List.getElem_cons_succ, List.getElem_cons_zero, List.setIfInBounds_toArray, List.set_cons_zero, List.set_cons_succ]
  refine wpAnyE_one (i := 9) (listed' := #[true, true, true, true, true, true, true, true, true, true, false]) (by rfl) (by kernel_rfl) (by kernel_rfl) (by rfl) (fun K hK => ?_)
  simp only [Act.put, List.getElem_toArray, List.getElem_cons_succ, List.getElem_cons_zero, List.setIfInBounds_toArray, List.set_cons_zero, List.set_cons_succ]
  have HBd := Lib.hid (HB0.out.kept (Kept.refl W).drew).1
  have HSd := Lib.hid (HB0.out.kept (Kept.refl W).drew).2
  go_wp2_with fail
  refine Calls.mono (HC.out W.drew (Kept.refl W).drew) ?_
  rintro e w1 ⟨rfl, hz1, hk2⟩
  have hS := (⟨hS.1.trans hk2, hk2.block hS.2⟩ : _ ∧ _)
  refine hK _ _ (fun _ => hS) ?_; clear hK K
  refine wpAnyE_one (i := 10) (listed' := #[true, true, true, true, true, true, true, true, true, true, true]) (by rfl) (by kernel_rfl) (by kernel_rfl) (by rfl) (fun K hK => ?_)
  simp only [Act.put, List.getElem_toArray, List.getElem_cons_succ, List.getElem_cons_zero, List.setIfInBounds_toArray, List.set_cons_zero, List.set_cons_succ]
  go_wp2
  refine hK _ _ (fun _ => hS) ?_; clear hK K
  refine wpAnyE_done (by kernel_rfl) ?_ _
  refine calm_normal ?_
  have hk1 := hS.1
  have hlt1 : W.drew.heap.size = W.heap.size := rfl
  have HX1 := Lib.hid hz1
  have HB1 := Lib.hid (HBd.out.more hk2 W.drew.heap.size (Nat.le_refl _) (Array.getElem?_eq_some_iff.1 hz1).1)
  have HS1 := Lib.hid (HSd.out.trans (HBd.out.kept hk2).2)
  have HL1 := Lib.hid (HL0.out.kept hk1)
  have HXW := Lib.hid (show ∀ k', R k' → k' ≠ W.drew.heap.size from fun k' hk' e => by have := (by obtain ⟨_, _, hh⟩ := HBd.out; exact (hh.off k' hk').1 : k' < W.drew.heap.size); omega)
  have HLd := Lib.hid (HL0.out.kept (Kept.refl W).drew)
  generalize W.drew.heap.size = X at *
  have c5 := HL1.out.c5
  try simp only [] at c5
  clear hz1 hk1 hk2 hS hlt1 HBd HSd HC
  cases dead with
  | true =>
    rw [if_pos rfl] at hres
    obtain ⟨rfl, rfl, rfl⟩ : (⟨gen, num, pos, true⟩ : LogT) = tr ∧ T = Tr ∧ 9 = cr := by cases hres; exact ⟨rfl, rfl, rfl⟩
    clear hres
    go_wp2
    go_ret
    exact ⟨rfl, HB1.out.less fun k hk => .inl hk, HL1.out, fun k hk => HS1.out k hk.1⟩
  | false =>
    rw [if_neg (by decide)] at hres
    have HROOM := Lib.hid (meta_Room HL1.out hpos)
    try simp only [] at HROOM
    by_cases hfit : 48 < pos + n
    · rw [if_pos hfit] at hres
      obtain ⟨rfl, rfl, rfl⟩ : (⟨gen, num, pos, false⟩ : LogT) = tr ∧ T = Tr ∧ 10 = cr := by cases hres; exact ⟨rfl, rfl, rfl⟩
      have hf1 : 48 - (pos : Int) < (n : Int) := by omega
      clear hres hfit
      go_wp2_with fail
      refine Calls.mono HROOM.out ?_
      rintro e w' ⟨rfl, rfl⟩
      go_wp2
      go_ret
      exact ⟨rfl, HB1.out.less fun k hk => .inl hk, HL1.out, fun k hk => HS1.out k hk.1⟩
    · rw [if_neg hfit] at hres
      have hf1 : ¬ (48 - (pos : Int) < (n : Int)) := by omega
      have HFIT := Lib.hid hfit
      obtain ⟨Tm, cm, hm⟩ : ∃ Tm cm, BankT.layM (2 + (pos : Int)) P L 0 T = (Tm, cm) := ⟨_, _, rfl⟩
      rw [hm] at hres
      try simp only [] at hres
      have HRES := Lib.hid hres
      have HM := Lib.hid (show BankT.layM (2 + (pos : Int)) P (L.drop 0) 0 T = (Tm, cm) from hm)
      have HUZ := Lib.hid (show T.UseN ((L.length - 0) * n) from HU0.out)
      have HSZ := Lib.hid (SameR.refl (fun k => R k ∨ k = X) w1)
      have c1 := HL1.out.c1
      try simp only [] at c1
      clear hres hm hfit HU0
      go_wp2_with fail
      refine Calls.mono HROOM.out ?_
      rintro e w' ⟨rfl, rfl⟩
      go_wp2
      clear c1
      go_loopw [6, 40] (fun m i wr => ∃ (t k : Nat) (T : BankT), t ≤ L.length ∧ k ≤ t ∧ i = .int .i64 t ∧ m = .int .i64 k ∧ Hid (BankT.layM (2 + (pos : Int)) P (L.drop t) k T = (Tm, cm)) ∧ Hid (T.UseN ((L.length - t) * n)) ∧ Hid (BK w0 (fun k => R k ∨ k = X) wr q T) ∧ Hid (SameR (fun k => R k ∨ k = X) w1 wr)) (fun _ i _ => L.length - (intOf i).toNat)
      case atStart => exact ⟨0, 0, T, Nat.zero_le _, Nat.le_refl _, rfl, rfl, HM, HUZ, HB1, HSZ⟩
      case round =>
        clear HM HUZ HB1 HSZ c5
        obtain ⟨t, k, T, ht, hkt, rfl, rfl, HM, HU, HB, HS⟩ := hrel
        have HL := Lib.hid (HL1.out.same HS.out (.inl HR.out.1) (.inl HR.out.2.1))
        by_cases hlt : t < L.length
        · have hcell := cell_ints HL.out.live hlt
          have HX := Lib.hid ((HS.out X (.inr rfl)).trans HX1.out)
          replace HM : Hid (BankT.layM (2 + (pos : Int)) P (L.getD t 0 :: L.drop (t + 1)) k T = (Tm, cm)) := Lib.hid (by rw [← drop_int hlt]; exact HM.out)
          generalize L.getD t 0 = d at *
          obtain ⟨T1, c1, hw⟩ : ∃ T1 c1, BankT.layL d (2 + (pos : Int)) P T = (T1, c1) := ⟨_, _, rfl⟩
          have hu : T.UseN ((L.length - (t + 1)) * n + n) := by
            have := HU.out
            rw [show L.length - t = L.length - (t + 1) + 1 by omega, Nat.succ_mul] at this
            exact this
          have hu1 := BankT.UseN.layL (k := (L.length - (t + 1)) * n) d P (T := T) (2 + (pos : Int)) (by rw [HPL.out]; exact hu) HPS.out
          rw [hw] at hu1
          have HU1 := Lib.hid hu1
          have HLAY := Lib.hid (meta_member HB.out HL.out (.inl HR.out.1) (.inl HR.out.2.1) P HPS.out (by rw [HPL.out]; omega) (by rw [HPL.out]; exact hu.less (by omega)) d hpos X (.inr rfl) HX.out)
          try simp only [] at HLAY
          rw [hw, HPL.out] at HLAY
          unfold BankT.layM at HM
          rw [hw] at HM
          try simp only [] at HM HU1 HLAY
          clear hu hu1 hw HU HX HL
          go_wp2_with fail
          refine Calls.mono HLAY.out ?_
          rintro e w3 ⟨rfl, hb3, hs3⟩
          have HB3 := Lib.hid hb3
          have HS3 := Lib.hid (HS.out.trans hs3)
          clear hb3 hs3 HB HS HLAY hcell
          by_cases hc : c1 = 0
          · subst hc
            replace HM : Hid (BankT.layM (2 + (pos : Int)) P (L.drop (t + 1)) (k + 1) T1 = (Tm, cm)) := Lib.hid (by have := HM.out; rw [if_pos rfl] at this; exact this)
            go_wp2
            go_roundw
            case rel => exact ⟨t + 1, k + 1, T1, hlt, by omega, by go_num, by go_num, HM, HU1, HB3, HS3⟩
            case measure => simp [intOf]; omega
          · have hcb : (c1 == 0) = false := by simpa using hc
            have hr := HM.out
            rw [if_neg hc] at hr
            clear HM hc
            rcases hpass : passE c1 with _ | _
            · rw [if_neg (by rw [hpass]; decide)] at hr
              obtain ⟨rfl, rfl⟩ : T1 = Tm ∧ 6 = cm := by cases hr; exact ⟨rfl, rfl⟩
              have hr2 := HRES.out
              rw [if_neg (by decide)] at hr2
              obtain ⟨rfl, rfl, rfl⟩ : (⟨gen, num, pos, true⟩ : LogT) = tr ∧ T1 = Tr ∧ 6 = cr := by cases hr2; exact ⟨rfl, rfl, rfl⟩
              have HPA := Lib.hid hpass
              have HL3 := Lib.hid (HL1.out.same HS3.out (.inl HR.out.1) (.inl HR.out.2.1))
              have HFA := Lib.hid (meta_fails HL3.out 6)
              try simp only [] at HFA
              clear hr hr2 hpass
              go_wp2_with fail
              refine Calls.mono (meta_passed c1 _) ?_
              rintro e w' ⟨rfl, rfl⟩
              rw [HPA.out]
              go_wp2_with fail
              refine Calls.mono HFA.out ?_
              rintro e w4 ⟨rfl, hw4⟩
              have HB4 := Lib.hid (HB3.out.wrote hw4 (.inl HR.out.1) HR.out.2.2.1)
              have HL4 : Hid (LogD w4 p q lg c L ⟨gen, num, pos, true⟩) := Lib.hid ⟨hw4.blk, fun j hj => (World.cell?_of_block (hw4.oth lg HR.out.2.2.2)).trans (HL3.out.live j hj)⟩
              have HS4 := Lib.hid (show SameR (fun k => R k ∧ k ≠ p) w3 w4 from fun k hk => hw4.oth k hk.2)
              clear hw4
              go_wp2
              go_ret
              exact ⟨rfl, HB4.out.less fun k hk => .inl hk, HL4.out, SameR.three HS1.out HS3.out HS4.out⟩
            · rw [if_pos hpass] at hr
              have HM := Lib.hid hr
              have HPA := Lib.hid hpass
              clear hr hpass
              go_wp2_with fail
              refine Calls.mono (meta_passed c1 _) ?_
              rintro e w' ⟨rfl, rfl⟩
              rw [HPA.out]
              go_wp2
              go_roundw
              case rel => exact ⟨t + 1, k, T1, hlt, by omega, by go_num, rfl, HM, HU1, HB3, HS3⟩
              case measure => simp [intOf]; omega
        · have htn : t = L.length := by omega
          have hr := HM.out
          rw [htn, List.drop_length] at hr
          unfold BankT.layM at hr
          have hge : L.length ≤ t := by omega
          by_cases hk0 : k = 0
          · rw [if_pos hk0] at hr
            obtain ⟨rfl, rfl⟩ : T = Tm ∧ 5 = cm := by cases hr; exact ⟨rfl, rfl⟩
            have hr2 := HRES.out
            rw [if_neg (by decide)] at hr2
            obtain ⟨rfl, rfl, rfl⟩ : (⟨gen, num, pos, true⟩ : LogT) = tr ∧ T = Tr ∧ 5 = cr := by cases hr2; exact ⟨rfl, rfl, rfl⟩
            have hkb : ((k : Int) == 0) = true := by simp [hk0]
            have HFA := Lib.hid (meta_fails HL.out 5)
            try simp only [] at HFA
            clear hr hr2 HM htn hk0
            go_wp2_with fail
            refine Calls.mono HFA.out ?_
            rintro e w4 ⟨rfl, hw4⟩
            have HB4 := Lib.hid (HB.out.wrote hw4 (.inl HR.out.1) HR.out.2.2.1)
            have HL4 : Hid (LogD w4 p q lg c L ⟨gen, num, pos, true⟩) := Lib.hid ⟨hw4.blk, fun j hj => (World.cell?_of_block (hw4.oth lg HR.out.2.2.2)).trans (HL.out.live j hj)⟩
            have HS4 := Lib.hid (show SameR (fun k => R k ∧ k ≠ p) wr w4 from fun k hk => hw4.oth k hk.2)
            clear hw4
            go_wp2
            go_ret
            exact ⟨rfl, HB4.out.less fun k hk => .inl hk, HL4.out, SameR.three HS1.out HS.out HS4.out⟩
          · rw [if_neg hk0] at hr
            obtain ⟨rfl, rfl⟩ : T = Tm ∧ 0 = cm := by cases hr; exact ⟨rfl, rfl⟩
            have hr2 := HRES.out
            rw [if_pos rfl] at hr2
            obtain ⟨rfl, rfl, rfl⟩ : (⟨gen, num + 1, pos + n, false⟩ : LogT) = tr ∧ T = Tr ∧ 0 = cr := by cases hr2; exact ⟨rfl, rfl, rfl⟩
            have hkb : ((k : Int) == 0) = false := by simp [hk0]
            have c3 := HL.out.c3
            try simp only [] at c3
            have hpn : pos + n ≤ 48 := by have := HFIT.out; omega
            clear hr hr2 HM htn hk0
            go_wp2_with (refine stop_at (o := ⟨none, .store _ _ _, _, _, _, _⟩) ?_)
            refine Stop.mk ?_
            refine wpList_set_cell rfl _ _ rfl size_int p 3 rfl (.int .i64 ((num : Int) + 1)) rfl rfl rfl _ _ HL.out.blk (show 3 < 6 by decide) ?_
            intro w4 hw4
            have HW4 := Lib.hid hw4
            have c4 : w4.cell? ⟨p, 4, none⟩ = some (.int .i64 (pos : Int)) := cell_of_row _ _ 4 _ _ _ hw4.blk
            clear hw4 c3
            go_wp2_with (refine stop_at (o := ⟨none, .store _ _ _, _, _, _, _⟩) ?_)
            refine Stop.mk ?_
            refine wpList_set_cell rfl _ _ rfl size_int p 4 rfl (.int .i64 ((pos : Int) + (n : Int))) rfl rfl rfl _ _ HW4.out.blk (show 4 < 6 by decide) ?_
            intro w5 hw5
            have hw := HW4.out.again hw5
            have HB5 := Lib.hid (HB.out.wrote hw (.inl HR.out.1) HR.out.2.2.1)
            have HL5 : Hid (LogD w5 p q lg c L ⟨gen, num + 1, pos + n, false⟩) := Lib.hid ⟨by have := hw.blk; simpa [logVals] using this, fun j hj => (World.cell?_of_block (hw.oth lg HR.out.2.2.2)).trans (HL.out.live j hj)⟩
            have HS5 := Lib.hid (show SameR (fun k => R k ∧ k ≠ p) wr w5 from fun k hk => hw.oth k hk.2)
            clear hw hw5 HW4 c4
            go_wp2
            go_ret
            exact ⟨rfl, HB5.out.less fun k hk => .inl hk, HL5.out, SameR.three HS1.out HS.out HS5.out⟩
end
end Go.Proofs.YtpeclkhppgabfaaDoor
/- A journal on a quiet bank: plain Lean. -/
namespace Go.Proofs.YtpeclkhppgabfaaDoor
open Go.RowKit
set_option linter.unusedVariables false
set_option linter.unusedSimpArgs false

/-- what the journal's places hold: the records' parts, one behind the other -/
def jourL (gen : Int) : Nat → List (List Int) → List (List Int)
  | _, [] => []
  | k, b :: R => splitB gen (k : Int) b ++ jourL gen (k + 1) R
theorem jourL_len (gen : Int) : ∀ (R : List (List Int)) (k : Nat), (jourL gen k R).length = posN R
  | [], k => rfl
  | b :: R, k => by unfold jourL posN; rw [List.length_append, splitB_len, jourL_len gen R]
theorem jourL_append (gen : Int) (S : List (List Int)) : ∀ (R : List (List Int)) (k : Nat), jourL gen k (R ++ S) = jourL gen k R ++ jourL gen (k + R.length) S
  | [], k => by simp [jourL]
  | b :: R, k => by
    have e : k + 1 + R.length = k + (R.length + 1) := by omega
    show splitB gen (k : Int) b ++ jourL gen (k + 1) (R ++ S) = (splitB gen (k : Int) b ++ jourL gen (k + 1) R) ++ jourL gen (k + (b :: R).length) S
    rw [jourL_append gen S R (k + 1), List.append_assoc, List.length_cons, e]
theorem getD_append_l {α : Type} {l m : List α} {i : Nat} (h : i < l.length) (d : α) : (l ++ m).getD i d = l.getD i d := by
  rw [List.getD_eq_getElem?_getD, List.getD_eq_getElem?_getD, List.getElem?_append_left h]
theorem getD_append_r {α : Type} {l m : List α} {i : Nat} (h : l.length ≤ i) (d : α) : (l ++ m).getD i d = m.getD (i - l.length) d := by
  rw [List.getD_eq_getElem?_getD, List.getD_eq_getElem?_getD, List.getElem?_append_right h]
theorem jourL_get (gen : Int) : ∀ (R : List (List Int)) (k r i : Nat), r < R.length → i < partsN (R.getD r []).length → (jourL gen k R).getD (posN (R.take r) + i) [] = (splitB gen ((k + r : Nat) : Int) (R.getD r [])).getD i []
  | [], k, r, i, h, _ => by cases h
  | b :: R, k, 0, i, h, hi => by
    have hi' : i < partsN b.length := hi
    unfold jourL
    simp only [List.take_zero, posN, Nat.zero_add, Nat.add_zero]
    rw [getD_append_l (by rw [splitB_len]; exact hi')]
    rfl
  | b :: R, k, r + 1, i, h, hi => by
    have hi' : i < partsN (R.getD r []).length := hi
    have h' : r < R.length := by simpa using h
    unfold jourL
    rw [List.take_succ_cons]
    unfold posN
    rw [getD_append_r (by rw [splitB_len]; omega), splitB_len, show partsN b.length + posN (R.take r) + i - partsN b.length = posN (R.take r) + i by omega, jourL_get gen R (k + 1) r i h' hi', show k + 1 + r = k + (r + 1) by omega]
    rfl
theorem jourL_at (gen : Int) : ∀ (R : List (List Int)) (k p : Nat), p < posN R → ∃ r i, r < R.length ∧ i < partsN (R.getD r []).length ∧ p = posN (R.take r) + i
  | [], k, p, h => by cases h
  | b :: R, k, p, h => by
    unfold posN at h
    by_cases hp : p < partsN b.length
    · exact ⟨0, p, by simp, hp, by simp [posN]⟩
    · obtain ⟨r, i, hr, hi, e⟩ := jourL_at gen R (k + 1) (p - partsN b.length) (by omega)
      refine ⟨r + 1, i, by simp; exact hr, hi, ?_⟩
      rw [List.take_succ_cons]; unfold posN; omega
/-- what lies on the living disks: of generation gen nothing but R's parts -/
def OnlyJ (N : Nat → Nat → List Int) (al : List Nat) (gen : Int) (R : List (List Int)) : Prop := ∀ d ∈ al, ∀ p, p < 48 → isTag (N d (2 + p)) = true → (tagRaw (N d (2 + p))).gen = gen → p < posN R ∧ N d (2 + p) = (jourL gen 0 R).getD p []
/-- .. and all of them -/
def AllJ (N : Nat → Nat → List Int) (al : List Nat) (gen : Int) (R : List (List Int)) : Prop := ∀ d ∈ al, ∀ p, p < posN R → N d (2 + p) = (jourL gen 0 R).getD p []
structure RecsOk (R : List (List Int)) : Prop where
  len : ∀ b ∈ R, b.length ≤ 2120
  byte : ∀ b ∈ R, ∀ y ∈ b, IsByte y
  fit : posN R ≤ 48
section
variable {T : BankT} {n z t : Nat} {dd : Nat → Bool} {N : Nat → Nat → List Int} {ls al : List Nat} {gen : Int} {R : List (List Int)}
theorem Quiet.jour (h : Quiet T n z dd N t) (hz : 50 ≤ z) (hls : ∀ d ∈ ls, d < n) (hal : (ls.filter fun d => !dd d) = al) (h0 : al ≠ []) (hg : 0 ≤ gen ∧ gen < 4294967296) (hR : RecsOk R) (ho : OnlyJ N al gen R) : Jour T.read (natI ls) gen R := by
  have hsee : ∀ p : Nat, p < 48 → sees T.read (natI ls) (2 + (p : Int)) = al.map (fun d => N d (2 + p)) ∧ CalmR T.read (natI ls) (2 + (p : Int)) := fun p hp => by
    have := h.seesQ (a := 2 + p) (by omega) ls hls
    rw [show ((2 + p : Nat) : Int) = 2 + (p : Int) by omega, hal] at this
    exact this
  refine ⟨hg, hR.len, hR.fit, fun p hp => ⟨(hsee p hp).2, by rw [(hsee p hp).1]; simpa using h0⟩, fun p hp s hs h1 h2 => ?_⟩
  rw [(hsee p hp).1, List.mem_map] at hs
  obtain ⟨d, hd, rfl⟩ := hs
  obtain ⟨hlt, e⟩ := ho d hd p hp h1 h2
  obtain ⟨r, i, hr, hi, rfl⟩ := jourL_at gen R 0 p hlt
  refine ⟨r, i, hr, hi, rfl, ?_⟩
  rw [e, jourL_get gen R 0 r i hr hi, Nat.zero_add]
theorem Quiet.full (h : Quiet T n z dd N t) (hz : 50 ≤ z) (hls : ∀ d ∈ ls, d < n) (hal : (ls.filter fun d => !dd d) = al) (hR : posN R ≤ 48) {r : Nat} (hr : r < R.length)
    (ha : ∀ i, i < partsN (R.getD r []).length → ∃ d ∈ al, N d (2 + (posN (R.take r) + i)) = (jourL gen 0 R).getD (posN (R.take r) + i) []) : FullR T.read (natI ls) gen R r := by
  intro i hi
  obtain ⟨d, hd, e⟩ := ha i hi
  have hp1 := posN_take hr
  have hp2 := posN_le R (r + 1)
  have := h.seesQ (a := 2 + (posN (R.take r) + i)) (by omega) ls hls
  rw [show ((2 + (posN (R.take r) + i) : Nat) : Int) = 2 + ((posN (R.take r) : Int) + (i : Int)) by omega, hal] at this
  rw [this.1, List.mem_map]
  refine ⟨d, hd, ?_⟩
  rw [e, jourL_get gen R 0 r i hr hi, Nat.zero_add]
/-- Scan tells all -/
theorem Quiet.scan (h : Quiet T n z dd N t) (hz : 50 ≤ z) (hls : ∀ d ∈ ls, d < n) (hal : (ls.filter fun d => !dd d) = al) (h0 : al ≠ []) (hg : 0 ≤ gen ∧ gen < 4294967296) (hR : RecsOk R) (ho : OnlyJ N al gen R) (ha : AllJ N al gen R) : scanL T.read (natI ls) gen 48 0 [] = (R, posN R, 0) := by
  have hj := h.jour hz hls hal h0 hg hR ho
  obtain ⟨d, hd⟩ := List.exists_mem_of_ne_nil _ h0
  have := hj.scan0 (m := R.length) (Nat.le_refl _) (fun r hr => h.full hz hls hal hR.fit hr fun i hi => ⟨d, hd, ha d hd _ (by have := posN_take hr; have := posN_le R (r + 1); omega)⟩) (fun hh => absurd hh (Nat.lt_irrefl _))
  rw [List.take_length] at this
  exact this
/-- Append on a quiet bank -/
theorem Quiet.app_full (lt : LogT) (hd : lt.dead = false) {b : List Int} (hf : 48 < lt.pos + partsN b.length) (L : List Int) : lt.app T L b = (lt, T, 10) := by
  unfold LogT.app; rw [if_neg (by rw [hd]; decide), if_pos hf]
theorem Quiet.app (h : Quiet T n z dd N t) (hz : 50 ≤ z) (hls : ∀ d ∈ ls, d < n) (hal : ∃ d ∈ ls, dd d = false) (hg : 0 ≤ gen ∧ gen < 4294967296) {b : List Int} (hb : ∀ y ∈ b, IsByte y) {num pos : Nat} (hp1 : 1 ≤ partsN b.length) (hf : pos + partsN b.length ≤ 48) :
    ∃ T', (⟨gen, num, pos, false⟩ : LogT).app T (natI ls) b = (⟨gen, num + 1, pos + partsN b.length, false⟩, T', 0) ∧ Quiet T' n z dd (layAll N (2 + pos) (splitB gen num b) ls) (t + ls.length * (partsN b.length + 1)) := by
  obtain ⟨T', e, h'⟩ := Quiet.layM (n := n) (z := z) (dd := dd) (p := 2 + pos) (splitB_sec (gen := gen) (num := (num : Int)) hb) (by rw [splitB_len]; omega) (by omega) ls 0 hls h
  rw [splitB_len] at h'
  refine ⟨T', ?_, h'⟩
  have hno : ¬ ((0 : Nat) = 0 ∧ ∀ d ∈ ls, dd d = true) := fun hh => by
    obtain ⟨d, hd, e⟩ := hal
    have := hh.2 d hd
    rw [e] at this; cases this
  rw [if_neg hno, show ((2 + pos : Nat) : Int) = 2 + (pos : Int) by omega] at e
  unfold LogT.app natI
  simp only []
  rw [if_neg (by decide), if_neg (by omega), e]
  simp only [if_true]
theorem posN_snoc (R : List (List Int)) (b : List Int) : posN (R ++ [b]) = posN R + partsN b.length := by rw [posN_append]; simp [posN]
theorem jourL_snoc (gen : Int) (R : List (List Int)) (b : List Int) : jourL gen 0 (R ++ [b]) = jourL gen 0 R ++ splitB gen (R.length : Int) b := by
  rw [jourL_append]; simp [jourL]
theorem AllJ.app (ha : AllJ N al gen R) (hs : ∀ d ∈ al, d ∈ ls) (b : List Int) : AllJ (layAll N (2 + posN R) (splitB gen R.length b) ls) al gen (R ++ [b]) := by
  intro d hd p hp
  rw [posN_snoc] at hp
  rw [layAll_at, splitB_len, jourL_snoc]
  by_cases h : p < posN R
  · rw [if_neg (by omega), ha d hd p h, getD_append_l (by rw [jourL_len]; exact h)]
  · rw [if_pos ⟨hs d hd, by omega, by omega⟩, getD_append_r (by rw [jourL_len]; omega), jourL_len, show 2 + p - (2 + posN R) = p - posN R by omega]
theorem OnlyJ.app (ho : OnlyJ N al gen R) (hs : ∀ d ∈ al, d ∈ ls) (b : List Int) : OnlyJ (layAll N (2 + posN R) (splitB gen R.length b) ls) al gen (R ++ [b]) := by
  intro d hd p hp h1 h2
  rw [posN_snoc, jourL_snoc]
  rw [layAll_at, splitB_len] at h1 h2 ⊢
  by_cases h : posN R ≤ p ∧ p < posN R + partsN b.length
  · rw [if_pos ⟨hs d hd, by omega, by omega⟩] at h1 h2 ⊢
    refine ⟨by omega, ?_⟩
    rw [getD_append_r (by rw [jourL_len]; omega), jourL_len, show 2 + p - (2 + posN R) = p - posN R by omega]
  · rw [if_neg (by omega)] at h1 h2 ⊢
    obtain ⟨h3, h4⟩ := ho d hd p hp h1 h2
    exact ⟨by omega, by rw [h4, getD_append_l (by rw [jourL_len]; exact h3)]⟩
theorem RecsOk.app (hR : RecsOk R) {b : List Int} (hl : b.length ≤ 2120) (hb : ∀ y ∈ b, IsByte y) (hf : posN R + partsN b.length ≤ 48) : RecsOk (R ++ [b]) := by
  refine ⟨fun x hx => ?_, fun x hx => ?_, by rw [posN_snoc]; exact hf⟩
  · rcases List.mem_append.1 hx with hx | hx
    · exact hR.len x hx
    · rw [List.mem_singleton] at hx; exact hx ▸ hl
  · rcases List.mem_append.1 hx with hx | hx
    · exact hR.byte x hx
    · rw [List.mem_singleton] at hx; exact hx ▸ hb
end
theorem RecsOk.nil : RecsOk [] := ⟨(fun _ h => by cases h), (fun _ h => by cases h), by decide⟩
theorem OnlyJ.zero (al : List Nat) (gen : Int) : OnlyJ (fun _ _ => zeroB) al gen [] := fun d _ p _ h => by rw [zero_no] at h; cases h
theorem AllJ.nil (N : Nat → Nat → List Int) (al : List Nat) (gen : Int) : AllJ N al gen [] := fun d _ p h => by cases h
/-- a log of its own on a quiet bank: what was taken -/
structure LogQ (T : BankT) (n : Nat) (dd : Nat → Bool) (N : Nat → Nat → List Int) (t : Nat) (al : List Nat) (gen : Int) (R : List (List Int)) : Prop where
  q : Quiet T n 200 dd N t
  ok : RecsOk R
  only : OnlyJ N al gen R
  all : AllJ N al gen R
theorem LogQ.start {n : Nat} (hn : n ≤ 31) (al : List Nat) (gen : Int) : LogQ (addZ 200 n) n (fun _ => false) (fun _ _ => zeroB) 0 al gen [] := ⟨Quiet.start (by decide) hn, RecsOk.nil, OnlyJ.zero al gen, AllJ.nil _ _ _⟩
theorem LogQ.num {T : BankT} {n : Nat} {dd : Nat → Bool} {N : Nat → Nat → List Int} {t : Nat} {al : List Nat} {gen : Int} {R : List (List Int)} (h : LogQ T n dd N t al gen R) : R.length ≤ 48 := by
  have := posN_ge R h.ok.len
  have := h.ok.fit
  omega
theorem LogQ.app {T : BankT} {n : Nat} {dd : Nat → Bool} {N : Nat → Nat → List Int} {t : Nat} {ls al : List Nat} {gen : Int} {R : List (List Int)} (h : LogQ T n dd N t al gen R) (hls : ∀ d ∈ ls, d < n) (hs : ∀ d ∈ al, d ∈ ls) (hal : ∃ d ∈ ls, dd d = false) (hg : 0 ≤ gen ∧ gen < 4294967296) {b : List Int} (hl : b.length ≤ 2120) (hb : ∀ y ∈ b, IsByte y) (hf : posN R + partsN b.length ≤ 48) :
    ∃ T', (⟨gen, R.length, posN R, false⟩ : LogT).app T (natI ls) b = (⟨gen, (R ++ [b]).length, posN (R ++ [b]), false⟩, T', 0) ∧ LogQ T' n dd (layAll N (2 + posN R) (splitB gen R.length b) ls) (t + ls.length * 49) al gen (R ++ [b]) := by
  have hp1 := (partsN_pos hl).1
  obtain ⟨T', e, h'⟩ := h.q.app (by decide) hls hal hg (b := b) hb (num := R.length) (pos := posN R) hp1 hf
  refine ⟨T', ?_, h'.mono (Nat.add_le_add_left (Nat.mul_le_mul_left _ (by omega)) _), h.ok.app hl hb hf, h.only.app hs b, h.all.app hs b⟩
  rw [e, posN_snoc, List.length_append]; rfl
theorem LogQ.scan {T : BankT} {n : Nat} {dd : Nat → Bool} {N : Nat → Nat → List Int} {t : Nat} {ls al : List Nat} {gen : Int} {R : List (List Int)} (h : LogQ T n dd N t al gen R) (hls : ∀ d ∈ ls, d < n) (hal : ∀ d, d ∈ (ls.filter fun d => !dd d) → d ∈ al) (h0 : ls.filter (fun d => !dd d) ≠ []) (hg : 0 ≤ gen ∧ gen < 4294967296) : scanL T.read (natI ls) gen 48 0 [] = (R, posN R, 0) :=
  h.q.scan (by decide) hls rfl h0 hg h.ok (fun d hd => h.only d (hal d hd)) (fun d hd => h.all d (hal d hd))
/-- what lies on the living disks is of generations that G has -/
def FromJ (N : Nat → Nat → List Int) (al : List Nat) (G : Int → Prop) : Prop := ∀ d ∈ al, ∀ p, p < 48 → isTag (N d (2 + p)) = true → G (tagRaw (N d (2 + p))).gen
theorem FromJ.zero (al : List Nat) (G : Int → Prop) : FromJ (fun _ _ => zeroB) al G := fun d _ p _ h => by rw [zero_no] at h; cases h
theorem FromJ.only {N : Nat → Nat → List Int} {al : List Nat} {G : Int → Prop} (h : FromJ N al G) {gen : Int} (hg : ¬ G gen) : OnlyJ N al gen [] := fun d hd p hp h1 h2 => absurd (h2 ▸ h d hd p hp h1) hg
theorem FromJ.app {N : Nat → Nat → List Int} {al ls : List Nat} {G : Int → Prop} (h : FromJ N al G) {gen : Int} (hg : 0 ≤ gen ∧ gen < 4294967296) (hG : G gen) {b : List Int} (hl : b.length ≤ 2120) {num : Nat} (hn : num < 1000) (pos : Nat) : FromJ (layAll N (2 + pos) (splitB gen num b) ls) al G := by
  intro d hd p hp h1
  rw [layAll_at, splitB_len] at h1 ⊢
  by_cases hh : d ∈ ls ∧ 2 + pos ≤ 2 + p ∧ 2 + p < 2 + pos + partsN b.length
  · rw [if_pos hh]
    have ht := (RecRange.tag (gen := gen) (num := (num : Int)) (b := b) ⟨hg, ⟨by omega, by omega⟩, hl⟩ (i := 2 + p - (2 + pos)) (by omega)).2
    rw [ht]; exact hG
  · rw [if_neg hh] at h1 ⊢
    exact h d hd p hp h1
theorem RIn.at {W0 W : World} {v : Value} {R : List (List Int)} (h : RIn W0 W v R) {i : Nat} (hi : i < R.length) : ∃ g cap bv, v = .slice (some ⟨g, 0, none⟩) R.length cap ∧ R.length ≤ cap ∧ W.cell? ⟨g, i, none⟩ = some bv ∧ Src W 1 bv (R.getD i []).length (u8s (R.getD i [])) := by
  obtain ⟨vs, h1, h2, h3⟩ := h.vs
  rcases owns_form h2 with ⟨_, h0, _⟩ | ⟨g, c, rfl, hb, _, hc, hcs⟩
  · omega
  · have hi' : i < vs.length := by omega
    have := hcs i hi'
    rw [Nat.zero_add] at this
    refine ⟨g, c, vs.getD i undef, rfl, hc, ?_, own_src (h3 i hi)⟩
    rw [this, List.getD_eq_getElem?_getD, List.getElem?_eq_getElem hi']; rfl
theorem BK.pushRs {w0 W W' : World} {l : List Nat} {q : Nat} {T : BankT} (h : BK w0 (fun k => k ∈ l) W q T) (hk : Kept W W') (Bs : List Nat) (hB : ∀ B ∈ Bs, W.heap.size ≤ B ∧ B < W'.heap.size) : BK w0 (fun k => k ∈ Bs ++ l) W' q T := by
  obtain ⟨Y, h0, h⟩ := h
  have hkept := (h.kept hk).1
  refine ⟨Y, h0, hkept.d, hkept.keeps, hkept.own, fun k hkk => ?_⟩
  rcases List.mem_append.1 hkk with h1 | h1
  · have := (h.more hk k (hB k h1).1 (hB k h1).2).off k (.inr rfl)
    exact this
  · exact hkept.off k h1
end Go.Proofs.YtpeclkhppgabfaaDoor
/- What law09 must show in any case. -/
namespace Go.Proofs.YtpeclkhppgabfaaDoor
open Go.RowKit
set_option linter.unusedVariables false
set_option linter.unusedSimpArgs false

def abB : List Int := [97, 98]
theorem abB_byte : ∀ x ∈ abB, IsByte x := by intro x hx; simp [abB] at hx; rcases hx with rfl | rfl <;> exact ⟨by decide, by decide⟩
theorem shown09_plain : ∃ T1, (⟨7, 0, 0, false⟩ : LogT).app (addZ 200 2) [0, 1] abB = (⟨7, 1, 1, false⟩, T1, 0) ∧ T1.Use ∧ scanL T1.read [1] 7 48 0 [] = ([abB], 1, 0) ∧ scanL T1.read [0, 1] 8 48 0 [] = ([], 0, 0) := by
  have h0 := LogQ.start (n := 2) (by decide) [0, 1] 7
  obtain ⟨T1, e, h1⟩ := h0.app (ls := [0, 1]) (by intro d hd; simp at hd; omega) (fun d hd => hd) ⟨0, by simp, rfl⟩ (by decide) (b := abB) (by decide) abB_byte (by decide)
  have hf := (FromJ.zero [0, 1] (fun g => g = 7)).app (ls := [0, 1]) (gen := 7) (by decide) rfl (b := abB) (by decide) (num := 0) (by decide) 0
  have s1 := h1.scan (ls := [1]) (by intro d hd; simp at hd; omega) (by intro d hd; simp at hd ⊢; omega) (by simp) (by decide)
  have s2 := h1.q.scan (by decide) (ls := [0, 1]) (gen := 8) (by intro d hd; simp at hd; omega) (al := [0, 1]) rfl (by simp) (by decide) RecsOk.nil (hf.only (by decide)) (AllJ.nil _ _ _)
  exact ⟨T1, e, h1.q.use (by decide) (by decide), s1, s2⟩
section
set_option maxHeartbeats 4000000
set_option maxRecDepth 100000
theorem law_shown09 (w : World) : Calls Tryd.prog 23 #[] w fun e w' => e = .returned (.bool true) ∧ Kept w w' := by
  obtain ⟨T1, ha, hu1, hs1, hs2⟩ := shown09_plain
  have HA := Lib.hid ha
  have HU1 := Lib.hid hu1
  have HS1 := Lib.hid hs1
  have HS2 := Lib.hid hs2
  have HU0 := Lib.hid ((Quiet.start (z := 200) (n := 2) (by decide) (by decide)).useN (by decide) 100 (by decide))
  clear ha hu1 hs1 hs2
  go_enter Tryd.func23, Tryd.ntmps23
  go_wp2_with fail
  refine Calls.mono (bank09 2 (by decide) w w (fun k => k ∈ ([] : List Nat)) (Kept.refl _) (fun k h => by cases h)) ?_
  rintro e w1 ⟨q, rfl, hb1, _⟩
  have HB1 := Lib.hid hb1
  clear hb1
  go_wp2_with (refine stop_at (o := ⟨some 14, _, _, _, _, _⟩) ?_)
  refine Stop.mk ?_
  refine wpList_lit_ints rfl 2 (by decide) _ rfl [0, 1] (by kernel_rfl) ?_
  intro w2 hz2 hs2 hk2
  have HC2 := Lib.hid (by simpa using Cells.of_block hz2.out : Cells w2 w1.heap.size 0 (ints [0, 1]))
  have HB2 := Lib.hid (HB1.out.kept hk2).1
  generalize w1.heap.size = B at *
  clear hz2 hs2 hk2 HB1
  go_wp2_with fail
  refine Calls.mono (meta_New q B 2 [0, 1] 7 w2 (by decide) (by decide) (by decide) HC2.out) ?_
  rintro e w3 ⟨p, lg, cap, rfl, hl3, hlg, hlp, hps, hk3⟩
  have HB3 := Lib.hid (HB2.out.pushRs hk3 [p, lg] (by intro k hk; simp at hk; rcases hk with rfl | rfl <;> omega))
  have HL3 := Lib.hid hl3
  have HP := Lib.hid (And.intro (Nat.le_trans HB2.out.keeps.size (Nat.le_trans hlg (Nat.le_of_lt hlp))) (Nat.ne_of_lt hlp))
  clear hl3 hlg hlp hps hk3 HB2 HC2
  go_wp2_with (refine stop_at (o := ⟨some 19, _, _, _, _, _⟩) ?_)
  refine Stop.mk ?_
  refine wpList_str_bytes rfl rfl 2 (by decide) _ rfl _ rfl abB (by kernel_rfl) rfl ?_
  intro w4 hz4 hs4 hk4
  have HX4 := hz4
  have HB4 := Lib.hid (HB3.out.kept hk4).1
  have HL4 := Lib.hid (HL3.out.kept hk4)
  generalize w3.heap.size = B3 at *
  clear hz4 hs4 hk4 HB3 HL3
  have hc := meta_Append HB4.out HL4.out (by simp) (by simp) HP.out.1 HP.out.2 (.slice (some ⟨B3, 0, none⟩) 2 2) abB (Src.of_cells (n := 2) (c := 2) HX4.out rfl (by decide)) (by decide) abB_byte (by decide) (HU0.out.less (by decide)) (by decide) (by decide) (by decide)
  rw [HA.out] at hc
  have HC := Lib.hid hc
  clear hc
  go_wp2_with fail
  refine Calls.mono HC.out ?_
  rintro e w5 ⟨rfl, hb5, hl5, hs5⟩
  have HB5 : Hid (BK w (fun k => k ∈ [p, lg]) w5 q T1) := Lib.hid hb5
  have HL5 := Lib.hid hl5
  clear hb5 hl5 hs5 HC HB4 HL4 HX4
  go_wp2_with (refine stop_at (o := ⟨some 24, _, _, _, _, _⟩) ?_)
  refine Stop.mk ?_
  refine wpList_lit_ints rfl 1 (by decide) _ rfl [1] (by kernel_rfl) ?_
  intro w6 hz6 hs6 hk6
  have HC6 := Lib.hid (by simpa using Cells.of_block hz6.out : Cells w6 w5.heap.size 0 (ints [1]))
  have HB6 := Lib.hid (HB5.out.kept hk6).1
  have HL6 := Lib.hid (HL5.out.kept hk6)
  have HSZ := Lib.hid hs6
  generalize w5.heap.size = B6 at *
  clear hz6 hs6 hk6 HB5 HL5
  have hc := meta_Scan HB6.out HU1.out B6 1 [1] HC6.out HSZ.out (by decide) 7
  rw [HS1.out] at hc
  have HC := Lib.hid hc
  clear hc
  go_wp2_with fail
  refine Calls.mono HC.out ?_
  rintro e w7 ⟨v1, rfl, hr7, hk7⟩
  have HB7 := Lib.hid (HB6.out.kept hk7).1
  have HL7 := Lib.hid (HL6.out.kept hk7)
  have HR7 := Lib.hid hr7
  clear hr7 hk7 HC HC6 HB6 HL6 HSZ
  go_wp2_with (refine stop_at (o := ⟨some 31, _, _, _, _, _⟩) ?_)
  refine Stop.mk ?_
  refine wpList_lit_ints rfl 2 (by decide) _ rfl [0, 1] (by kernel_rfl) ?_
  intro w8 hz8 hs8 hk8
  have HC8 := Lib.hid (by simpa using Cells.of_block hz8.out : Cells w8 w7.heap.size 0 (ints [0, 1]))
  have HB8 := Lib.hid (HB7.out.kept hk8).1
  have HL8 := Lib.hid (HL7.out.kept hk8)
  have HR8 := Lib.hid (HR7.out.kept hk8)
  have HSZ := Lib.hid hs8
  generalize w7.heap.size = B8 at *
  clear hz8 hs8 hk8 HB7 HL7 HR7
  have hc := meta_Scan HB8.out HU1.out B8 2 [0, 1] HC8.out HSZ.out (by decide) 8
  rw [HS2.out] at hc
  have HC := Lib.hid hc
  clear hc
  go_wp2_with fail
  refine Calls.mono HC.out ?_
  rintro e w9 ⟨v2, rfl, hr9, hk9⟩
  have HK9 := Lib.hid (HB8.out.kept hk9).1.keeps
  have HL9 := Lib.hid (HL8.out.kept hk9)
  have HR9 := Lib.hid (HR8.out.kept hk9)
  obtain ⟨ao, c2, rfl⟩ := hr9.slice
  clear hr9 hk9 HC HC8 HB8 HL8 HR8 HSZ
  obtain ⟨g, c1, bv, rfl, hc1, hcell, hsrc⟩ := HR9.out.at (i := 0) (by decide)
  have HSR := Lib.hid hsrc
  clear hsrc HR9
  go_wp2_with fail
  refine Calls.mono (meta_Room HL9.out (by decide)) ?_
  rintro e w10 ⟨rfl, rfl⟩
  go_wp2_with fail
  refine Calls.mono (meta_Next HL9.out) ?_
  rintro e w11 ⟨rfl, rfl⟩
  go_wp2_with (refine stop_at (o := ⟨some 57, _, _, _, _, _⟩) ?_)
  refine Stop.mk ?_
  refine wpList_conv_str rfl _ rfl bv rfl abB HSR.out abB_byte ?_
  have hstr : (strB abB).toList = [97, 98] := by rw [strB_toList]; decide
  go_wp2
  go_ret
  exact ⟨rfl, HK9.out⟩
end
end Go.Proofs.YtpeclkhppgabfaaDoor
/- A slice of bytes that comes in, and the head of it. -/
namespace Go.Proofs.YtpeclkhppgabfaaDoor
open Go.RowKit
set_option linter.unusedVariables false
set_option linter.unusedSimpArgs false

/-- a slice that reads the bytes l -/
def BSrc (w : World) (v : Value) (l : List Int) : Prop := Src w 1 v l.length (u8s l) ∧ ∀ x ∈ l, IsByte x
theorem open_bsrc {H : Type} {enc : TypeId × Value → H} {w : World} {base : Nat} {spare : Nat → Bool} {held : Bool} {fuel : Nat} {v : Value} {x : DataW H × List MemPlace}
    (h : DataW.trod enc Tryd.prog w base spare held fuel 25 [v] = some x) : ∃ l, BSrc w v l := by
  rcases Go.ChangeShapes.open_ints Tryd.underlying25 Tryd.underlying5 (by kernel_rfl) h with ⟨hcs, _⟩ | ⟨a, len, cap, zs, hcs, _, hl, hm, hlen, _, hc, hwf⟩
  · simp at hcs; subst hcs
    exact ⟨[], Src.nil, fun x hx => by cases hx⟩
  · simp at hcs; subst hcs
    have hzl : len ≤ zs.length := by rw [hlen]; split <;> omega
    refine ⟨zs.take len, ⟨by rw [u8s_length]; omega, some a, cap, by simp [Nat.min_eq_left hzl], ?_, (fun hn => by cases hn), fun ad had j u hj => ?_⟩, fun x hx => ?_⟩
    · rw [List.length_take, Nat.min_eq_left hzl]; exact hl
    · cases had
      have hj' : j < (zs.take len).length := by
        have := (List.getElem?_eq_some_iff.1 hj).1; rw [u8s_length] at this; exact this
      have hj2 : j < zs.length := by rw [List.length_take] at hj'; omega
      rw [hc j hj2]
      have e : (u8s (zs.take len))[j]? = some (.int .u8 (zs.getD j 0)) := by
        have hjl : j < len := by rw [List.length_take] at hj'; omega
        simp [u8s, List.getElem?_take, hjl, hj2, List.getD_eq_getElem?_getD]
      rw [e] at hj; exact hj
    · have := hwf x (List.mem_of_mem_take hx)
      simp [Lit.wf, IntKind.min, IntKind.max, IntKind.signed, IntKind.bits] at this
      exact ⟨by omega, by omega⟩
theorem BSrc.cut {w : World} {ax : Option Addr} {n c : Nat} {l : List Int} (h : BSrc w (.slice ax n c) l) (k : Nat) (hk : k = min n 300 ∨ k = min n 600) : k ≤ c ∧ BSrc w (.slice ax k c) (l.take k) ∧ (l.take k).length = k := by
  obtain ⟨hl, ax0, c0, hv, hcap, hnone, hc⟩ := id h.1
  cases hv
  rw [u8s_length, Nat.mul_one] at hl
  have hkl : k ≤ l.length := by omega
  have e : (l.take k).length = k := by rw [List.length_take]; omega
  refine ⟨by omega, ⟨⟨by rw [u8s_length]; omega, ax, c, by rw [e], by rw [e]; omega, fun hn => ?_, fun ad had j u hj => ?_⟩, fun x hx => h.2 x (List.mem_of_mem_take hx)⟩, e⟩
  · have := hnone hn; rw [e]; omega
  · refine hc ad had j u ?_
    have : u8s (l.take k) = (u8s l).take k := by simp [u8s]
    rw [this, List.getElem?_take] at hj
    split at hj
    · exact hj
    · cases hj
theorem wpList_slice_to {ops : Array Oper} {rest : List Oper} {o : Oper} {a : Act} {w : World} {Q : Exit → Act → World → Prop} (hgd : o.guard = none) (x y : Operand) (ho : o.op = .slice 25 x none (some y) none) (ax : Option Addr) (n c : Nat) (hx : a.eval x = .slice ax n c) (k : Nat) (hy : a.eval y = .int .i64 (k : Int)) (hk : k ≤ c)
    (h : wpList Tryd.prog ops Q rest (a.put o.dst (.slice ax k c)) w) : wpList Tryd.prog ops Q (o :: rest) a w := by
  refine wpList_plain hgd fun K hK => ?_
  have hb := ty_bytes
  obtain ⟨i, z, hi, _, hsz, _, _⟩ := hb.i
  have he : Tryd.prog.elem 25 = 5 := by kernel_rfl
  have ht : Tryd.prog.underlying 25 = some (.slice (Tryd.prog.elem 25)) := by rw [he]; exact hb.ht
  have hr := run_slice_h (P := Tryd.prog) w 25 ax n c ht .i64 (k : Int) (by omega) (by omega)
  rw [he] at hr
  have hr' : (Instr.slice 25 (.slice ax n c) none (some (.int .i64 (k : Int))) none).run Tryd.prog w = .ok (.slice ax k c) w := by
    rw [hr]
    simp [sizeOf, typeInfo, hi, hsz, sliced]
    intro e
    cases ax <;> simp [Addr.add]
  unfold Oper.wp execOp
  simp only [ho, hx, hy, Option.map_some, Option.map_none, Sem.run_bind, run_sliceAt_slice (P := Tryd.prog) w _ _ _ _ _ ht, hr', Result.andThen_ok, Sem.run_pure]
  exact hK _ _ h
end Go.Proofs.YtpeclkhppgabfaaDoor
