/- The document's Load of a label. -/
import Derived.Test.YtglplhmclfekfaaFcA
import Derived.Test.YtglplhmclfekfaaLabT
import Derived.Test.YtglplhmclfekfaaFeA
namespace Go.Proofs.Ytglplhmclfekfaa
open Go.RowKit
set_option linter.unusedVariables false
set_option linter.unusedSimpArgs false

/-- the members of a label that is right lie in no block of five cells -/
theorem MSl.not5 {W : World} {v : Value} {ms : List Mem} (h : MSl W v ms) (hl : 2 ≤ ms.length) {b : Nat} {cs : Array Value} {t : TypeId} (hb : W.heap[b]? = some (.cells cs t (0, 0))) (hc : cs.size = 5) : v.ownBlock ≠ some b := by
  intro e
  rcases h with ⟨rfl, rfl⟩ | ⟨b', off, cap, rfl, h⟩
  · simp at hl
  · simp only [Value.ownBlock, Option.some.injEq] at e
    subst e
    have h2 := (h 1 (by omega)).2.2
    simp only [World.cell?, hb] at h2
    have := (Array.getElem?_eq_some_iff.1 h2).1
    omega
theorem parse_len {bs : List Int} (h : ofOk bs = true) : 3 ≤ (parse bs).ms.length := by
  have hr : rightB (parse bs) = true := by
    simp only [ofOk, Bool.and_eq_true] at h
    first | exact h.1.2 | exact h.2.1 | exact h.1
  simp only [rightB, headB, inB, Bool.and_eq_true, decide_eq_true_eq] at hr
  omega
theorem BankT.cands_len (T : BankT) (d : Int) : ∀ k, (T.cands d k).length ≤ k
  | 0 => Nat.le_refl _
  | k + 1 => by
    have h := BankT.cands_len T d k
    rw [BankT.cands, List.length_append]
    have : (candL d (T.read d (k : Int)).1).length ≤ 1 := by unfold candL; split <;> simp
    omega
theorem pick_add {C : List Lab} (h : C.length ≤ 1) (l : Lab) : (pickL (C ++ [l])).1 = if C = [] then l else if (pickL C).1.gen < l.gen then l else (pickL C).1 := by
  rcases C with _ | ⟨x, _ | ⟨y, C⟩⟩
  · rfl
  · show (if x.gen < l.gen then l else x) = _
    rw [if_neg (show ¬ ([x] = []) by simp)]; rfl
  · simp at h
theorem pick_ok {C : List Lab} (h : C ≠ []) : (pickL C).2 = 0 := by
  rcases C with _ | ⟨x, _ | ⟨y, C⟩⟩
  · exact absurd rfl h
  · rfl
  · rfl
section
variable {w0 W : World} {R : Nat → Prop} {q : Nat} {T : BankT}
set_option maxHeartbeats 4000000
set_option maxRecDepth 100000
theorem doc_Load (h : RB w0 R W q T) (u : T.Doc) (d : Int) :
    Calls Try.prog 52 #[.pointer (some ⟨q, 0, none⟩), .int .i64 d] W fun e w' => ∃ sl, e = .returned (.tuple #[(T.loadL d).1.val sl, .int .i64 (T.loadL d).2]) ∧ MSl w' sl (T.loadL d).1.ms ∧ Kept W w' := by
  have HRD := Lib.hid (fun (k : Nat) (W' : World) (hk : Kept W W') => rb_Read (h.kept hk).1 u d (k : Int))
  have HIS := Lib.hid (fun (k : Nat) => T.read_is u.inv.ok d (k : Int))
  clear h u
  obtain ⟨res, hres⟩ : ∃ res, T.loadL d = res := ⟨_, rfl⟩
  have HRES := Lib.hid hres
  rw [hres]
  clear hres
  go_enter Try.func52, Try.ntmps52
  go_wp2_with (refine stop_at (o := ⟨some 4, _, _, _, _, _⟩) ?_)
  refine Stop.mk ?_
  refine wpList_alloc_abs rfl 80 rfl [.int .i64 0, .int .i64 0, .int .i64 0, .int .i64 0, .slice none 0 0] zero_lab ?_
  intro w1 hz1 hs1 hn1 hk1
  have HX1 := hz1
  have HK1 := Lib.hid hk1
  have HXS := Lib.hid (Nat.le_refl W.heap.size)
  obtain ⟨X, hX⟩ : ∃ b, b = W.heap.size := ⟨_, rfl⟩
  rw [← hX] at HX1 ⊢
  have HXW := Lib.hid (Nat.le_of_eq hX.symm)
  clear hz1 hs1 hn1 hk1 hX
  go_wp2_with (refine stop_at (o := ⟨some 6, _, _, _, _, _⟩) ?_)
  refine Stop.mk ?_
  refine wpList_alloc_abs rfl 80 rfl [.int .i64 0, .int .i64 0, .int .i64 0, .int .i64 0, .slice none 0 0] zero_lab ?_
  intro w2 hz2 hs2 hn2 hk2
  have HX2 := Lib.hid (hk2.block HX1.out)
  have HY2 := hz2
  have HK2 := Lib.hid (HK1.out.trans hk2)
  have hsz := HK1.out.size
  have hlt1 := (Array.getElem?_eq_some_iff.1 HX1.out).1
  obtain ⟨Y, hY⟩ : ∃ b, b = w1.heap.size := ⟨_, rfl⟩
  rw [← hY] at HY2 ⊢
  have HYW : Hid (W.heap.size ≤ Y ∧ X ≠ Y) := Lib.hid ⟨by omega, by omega⟩
  clear hz2 hs2 hn2 hk2 hY hsz hlt1 HX1 HK1
  go_wp2
  go_loopw [7, 8] (fun fv i wr => ∃ (k : Nat) (fb : Bool) (best : Lab) (sl : Value), k ≤ 2 ∧ i = .int .i64 k ∧ fv = .bool fb ∧ Hid (fb = true ↔ T.cands d k ≠ []) ∧ Hid (wr.heap[Y]? = some (.cells (Lab.vals best sl).toArray 80 (0, 0))) ∧ Hid (MSl wr sl best.ms ∧ (fb = true → 3 ≤ best.ms.length)) ∧ Hid ((pickL (T.cands d k)).1 = best) ∧ Hid (wr.heap[X]? = some (.cells (Lab.vals Lab.zero (.slice none 0 0)).toArray 80 (0, 0))) ∧ Hid (Kept W wr) ∧ Hid (∀ j : Nat, j < k → (T.read d (j : Int)).2 = 0)) (fun _ i _ => 2 - (intOf i).toNat)
  case atStart => exact ⟨0, false, Lab.zero, .slice none 0 0, Nat.zero_le _, rfl, rfl, Lib.hid (by simp [BankT.cands]), HY2, Lib.hid ⟨.inl ⟨rfl, rfl⟩, fun h => by cases h⟩, Lib.hid rfl, HX2, HK2, Lib.hid (fun j h => absurd h (Nat.not_lt_zero _))⟩
  case round =>
    clear HX2 HY2 HK2
    obtain ⟨k, fb, best, sl, hk, rfl, rfl, HF, HY, HM, HP, HX, HK, HE⟩ := hrel
    by_cases hlt : k < 2
    · have HR1 := Lib.hid (HRD.out k)
      have HS64 := Lib.hid (HIS.out k)
      obtain ⟨s, c, hr⟩ : ∃ s c, T.read d (k : Int) = (s, c) := ⟨_, _, rfl⟩
      rw [hr] at HR1 HS64
      simp only at HR1 HS64
      have HR := Lib.hid hr
      clear hr
      go_wp2_with fail
      refine Calls.mono (HR1.out _ HK.out) ?_
      rintro e w3 ⟨rfl, hk3⟩
      have HY3 := Lib.hid (hk3.block HY.out)
      have HX3 := Lib.hid (hk3.block HX.out)
      have HM3 : Hid (MSl w3 sl best.ms ∧ (fb = true → 3 ≤ best.ms.length)) := Lib.hid ⟨HM.out.1.kept hk3, HM.out.2⟩
      have HK3 := Lib.hid (HK.out.trans hk3)
      clear hk3 HY HX HM HK HR1
      go_wp2_with (refine stop_at (o := ⟨some 9, _, _, _, _, _⟩) ?_)
      refine Stop.mk ?_
      refine wpList_new_row rfl rfl _ _ rfl rfl ty_sec (u8s zeroB) zero_sec (by rw [u8s_length, zeroB_length]) (u8s s) rfl (by rw [u8s_length, HS64.out.1]) (u8s_one _) rfl ?_
      intro w4 hz4 hs4 hk4
      have HZ4 := hz4
      have HY4 := Lib.hid (hk4.block HY3.out)
      have HX4 := Lib.hid (hk4.block HX3.out)
      have HM4 : Hid (MSl w4 sl best.ms ∧ (fb = true → 3 ≤ best.ms.length)) := Lib.hid ⟨HM3.out.1.kept hk4, HM3.out.2⟩
      have HK4 := Lib.hid (HK3.out.trans hk4)
      obtain ⟨Z, hZ⟩ : ∃ b, b = w3.heap.size := ⟨_, rfl⟩
      rw [← hZ] at HZ4 ⊢
      clear hz4 hs4 hk4 hZ HY3 HX3 HM3 HK3
      by_cases hc : c = 0
      · subst hc
        have HE7 : Hid (∀ j : Nat, j < k + 1 → (T.read d (j : Int)).2 = 0) := Lib.hid fun j hj => by
          by_cases e : j = k
          · rw [e, HR.out]
          · exact HE.out j (by omega)
        have HCD : Hid (T.cands d (k + 1) = T.cands d k ++ candL d s) := Lib.hid (by rw [BankT.cands, HR.out])
        clear HE HR
        go_wp2_with (refine stop_at (o := ⟨some 30, _, _, _, _, _⟩) ?_)
        refine Stop.mk ?_
        refine wpList_load_agg rfl _ rfl ty_sec Z 0 rfl (u8s s) (by simpa using Cells.of_block HZ4.out) (by rw [u8s_length, HS64.out.1]) ?_
        go_wp2_with fail
        refine Calls.mono (ref_Of s w4 HS64.out.2 HS64.out.1) ?_
        rintro e w5 ⟨hk5, hof⟩
        have HY5 := Lib.hid (hk5.block HY4.out)
        have HX5 := Lib.hid (hk5.block HX4.out)
        have HM5 : Hid (MSl w5 sl best.ms ∧ (fb = true → 3 ≤ best.ms.length)) := Lib.hid ⟨HM4.out.1.kept hk5, HM4.out.2⟩
        have HK5 := Lib.hid (HK4.out.trans hk5)
        clear hk5 HY4 HX4 HM4 HK4 HZ4
        rcases hof with ⟨hok, sl2, rfl, hm⟩ | ⟨hno, rfl⟩
        · have HL3 := Lib.hid (parse_len hok)
          have HM2 := Lib.hid hm
          have HCA : Hid ((parse s).member = d → candL d s = [parse s]) := Lib.hid fun e => if_pos ⟨hok, e⟩
          have HCN : Hid ((parse s).member ≠ d → candL d s = []) := Lib.hid fun e => if_neg (fun h => e h.2)
          clear hm hok
          generalize parse s = l at *
          go_wp2_with (refine stop_at (o := ⟨some 11, _, _, _, _, _⟩) ?_)
          refine Stop.mk ?_
          refine wpList_new_row rfl rfl _ _ rfl rfl ty_lab [.int .i64 0, .int .i64 0, .int .i64 0, .int .i64 0, .slice none 0 0] zero_lab rfl (Lab.vals l sl2) rfl rfl (lab_one l sl2 HM2.out.one) rfl ?_
          intro w6 hz6 hs6 hk6
          have HV6 := hz6
          have HY6 := Lib.hid (hk6.block HY5.out)
          have HX6 := Lib.hid (hk6.block HX5.out)
          have HM6 : Hid (MSl w6 sl best.ms ∧ (fb = true → 3 ≤ best.ms.length)) := Lib.hid ⟨HM5.out.1.kept hk6, HM5.out.2⟩
          have HM7 := Lib.hid (HM2.out.kept hk6)
          have HK6 := Lib.hid (HK5.out.trans hk6)
          obtain ⟨V, hV⟩ : ∃ b, b = w5.heap.size := ⟨_, rfl⟩
          rw [← hV] at HV6 ⊢
          clear hz6 hs6 hk6 hV HY5 HX5 HM5 HM2 HK5
          have p1 : w6.cell? ⟨V, 1, none⟩ = some (.int .i64 l.gen) := cell_of_row _ _ 1 _ _ _ HV6.out
          have p2 : w6.cell? ⟨V, 2, none⟩ = some (.int .i64 l.member) := cell_of_row _ _ 2 _ _ _ HV6.out
          have p3 : w6.cell? ⟨Y, 1, none⟩ = some (.int .i64 best.gen) := cell_of_row _ _ 1 _ _ _ HY6.out
          by_cases hmem : l.member = d
          · have hmd : (l.member == d) = true := by simpa using hmem
            have HC1 : Hid (T.cands d (k + 1) = T.cands d k ++ [l]) := Lib.hid (by rw [HCD.out, HCA.out hmem])
            have HC2 : Hid (T.cands d (k + 1) ≠ []) := Lib.hid (by rw [HC1.out]; simp)
            have HPA := Lib.hid (pick_add (C := T.cands d k) (by have := T.cands_len d k; omega) l)
            clear hmem HCA HCN HCD
            by_cases hnew : fb = false ∨ best.gen < l.gen
            · have HP8 : Hid ((pickL (T.cands d (k + 1))).1 = l) := Lib.hid (by
                rw [HC1.out, HPA.out]
                rcases hnew with e | e
                · rw [if_pos (by have := HF.out; rw [e] at this; simpa using this)]
                · split
                  · rfl
                  · rw [HP.out, if_pos e])
              have hn5 : Hid (sl2.ownBlock ≠ some Y ∧ sl2.ownBlock ≠ some X) := Lib.hid ⟨HM7.out.not5 (by have := HL3.out; omega) HY6.out rfl, HM7.out.not5 (by have := HL3.out; omega) HX6.out rfl⟩
              clear HPA HP HC1
              cases hfb : fb with
              | false =>
                subst hfb
                clear hnew p3
                go_wp2_with (refine stop_at (o := ⟨some 53, _, _, _, _, _⟩) ?_)
                refine Stop.mk ?_
                refine wpList_load_agg rfl _ rfl ty_lab V 0 rfl (Lab.vals l sl2) (by simpa using Cells.of_block HV6.out) rfl ?_
                go_wp2_with (refine stop_at (o := ⟨none, .store _ _ _, _, _, _, _⟩) ?_)
                refine Stop.mk ?_
                refine wpList_store_agg rfl _ _ rfl ty_lab Y 0 rfl (Lab.vals l sl2) rfl rfl (lab_one l sl2 HM7.out.one) _ _ HY6.out (by simp [Lab.vals]) ?_
                intro w7 hw7
                replace hw7 := hw7.all rfl
                have HY7 := Lib.hid hw7.blk
                have HX7 := Lib.hid ((hw7.oth X HYW.out.2).trans HX6.out)
                have HM8 : Hid (MSl w7 sl2 l.ms ∧ (true = true → 3 ≤ l.ms.length)) := Lib.hid ⟨HM7.out.same fun b hb => hw7.oth b (fun e => hn5.out.1 (by rw [← e]; exact hb)), fun _ => HL3.out⟩
                have HK7 := Lib.hid (hw7.kept HK6.out HYW.out.1)
                have HF7 : Hid (true = true ↔ T.cands d (k + 1) ≠ []) := Lib.hid ⟨fun _ => HC2.out, fun _ => rfl⟩
                clear hw7 HY6 HX6 HM6 HM7 HK6 HF p1 p2 hmd HV6
                go_wp2
                go_roundw
                case rel => exact ⟨k + 1, true, l, sl2, hlt, by go_num, rfl, HF7, HY7, HM8, HP8, HX7, HK7, HE7⟩
                case measure => simp [intOf]; omega
              | true =>
                subst hfb
                have hgt : best.gen < l.gen := by rcases hnew with e | e; cases e; exact e
                clear hnew
                go_wp2_with (refine stop_at (o := ⟨some 53, _, _, _, _, _⟩) ?_)
                refine Stop.mk ?_
                refine wpList_load_agg rfl _ rfl ty_lab V 0 rfl (Lab.vals l sl2) (by simpa using Cells.of_block HV6.out) rfl ?_
                go_wp2_with (refine stop_at (o := ⟨none, .store _ _ _, _, _, _, _⟩) ?_)
                refine Stop.mk ?_
                refine wpList_store_agg rfl _ _ rfl ty_lab Y 0 rfl (Lab.vals l sl2) rfl rfl (lab_one l sl2 HM7.out.one) _ _ HY6.out (by simp [Lab.vals]) ?_
                intro w7 hw7
                replace hw7 := hw7.all rfl
                have HY7 := Lib.hid hw7.blk
                have HX7 := Lib.hid ((hw7.oth X HYW.out.2).trans HX6.out)
                have HM8 : Hid (MSl w7 sl2 l.ms ∧ (true = true → 3 ≤ l.ms.length)) := Lib.hid ⟨HM7.out.same fun b hb => hw7.oth b (fun e => hn5.out.1 (by rw [← e]; exact hb)), fun _ => HL3.out⟩
                have HK7 := Lib.hid (hw7.kept HK6.out HYW.out.1)
                have HF7 : Hid (true = true ↔ T.cands d (k + 1) ≠ []) := Lib.hid ⟨fun _ => HC2.out, fun _ => rfl⟩
                clear hw7 HY6 HX6 HM6 HM7 HK6 HF p1 p2 p3 hmd HV6 hgt
                go_wp2
                go_roundw
                case rel => exact ⟨k + 1, true, l, sl2, hlt, by go_num, rfl, HF7, HY7, HM8, HP8, HX7, HK7, HE7⟩
                case measure => simp [intOf]; omega
            · have hfb : fb = true := by cases fb <;> simp at hnew ⊢
              subst hfb
              have hgt : ¬ best.gen < l.gen := fun h => hnew (.inr h)
              have HP8 : Hid ((pickL (T.cands d (k + 1))).1 = best) := Lib.hid (by
                rw [HC1.out, HPA.out, if_neg (HF.out.1 rfl), HP.out, if_neg hgt])
              have HF7 : Hid (true = true ↔ T.cands d (k + 1) ≠ []) := Lib.hid ⟨fun _ => HC2.out, fun _ => rfl⟩
              clear hnew HPA HP HC1 HF
              go_wp2
              go_roundw
              case rel => exact ⟨k + 1, true, best, sl, hlt, by go_num, rfl, HF7, HY6, HM6, HP8, HX6, HK6, HE7⟩
              case measure => simp [intOf]; omega
          · have hmd : (l.member == d) = false := by simpa using hmem
            have HC1 : Hid (T.cands d (k + 1) = T.cands d k) := Lib.hid (by rw [HCD.out, HCN.out hmem, List.append_nil])
            have HF7 : Hid (fb = true ↔ T.cands d (k + 1) ≠ []) := Lib.hid (by rw [HC1.out]; exact HF.out)
            have HP7 : Hid ((pickL (T.cands d (k + 1))).1 = best) := Lib.hid (by rw [HC1.out]; exact HP.out)
            clear hmem HCD HCA HCN HF HP HC1
            go_wp2
            go_roundw
            case rel => exact ⟨k + 1, fb, best, sl, hlt, by go_num, rfl, HF7, HY6, HM6, HP7, HX6, HK6, HE7⟩
            case measure => simp [intOf]; omega
        · have HC1 : Hid (T.cands d (k + 1) = T.cands d k) := Lib.hid (by rw [HCD.out, show candL d s = [] from if_neg (fun h => by rw [hno] at h; cases h.1), List.append_nil])
          have HF7 : Hid (fb = true ↔ T.cands d (k + 1) ≠ []) := Lib.hid (by rw [HC1.out]; exact HF.out)
          have HP7 : Hid ((pickL (T.cands d (k + 1))).1 = best) := Lib.hid (by rw [HC1.out]; exact HP.out)
          clear hno HCD HF HP HC1
          go_wp2_with (refine stop_at (o := ⟨some 11, _, _, _, _, _⟩) ?_)
          refine Stop.mk ?_
          refine wpList_new_row rfl rfl _ _ rfl rfl ty_lab [.int .i64 0, .int .i64 0, .int .i64 0, .int .i64 0, .slice none 0 0] zero_lab rfl (Lab.vals Lab.zero (.slice none 0 0)) rfl rfl (lab_one Lab.zero (.slice none 0 0) rfl) rfl ?_
          intro w6 hz6 hs6 hk6
          have HY6 := Lib.hid (hk6.block HY5.out)
          have HX6 := Lib.hid (hk6.block HX5.out)
          have HM6 : Hid (MSl w6 sl best.ms ∧ (fb = true → 3 ≤ best.ms.length)) := Lib.hid ⟨HM5.out.1.kept hk6, HM5.out.2⟩
          have HK6 := Lib.hid (HK5.out.trans hk6)
          clear hz6 hs6 hk6 HY5 HX5 HM5 HK5
          go_wp2
          go_roundw
          case rel => exact ⟨k + 1, fb, best, sl, hlt, by go_num, rfl, HF7, HY6, HM6, HP7, HX6, HK6, HE7⟩
          case measure => simp [intOf]; omega
      · have hcb : (c == 0) = false := by simpa using hc
        have hrc : res = (Lab.zero, c) := by
          rw [← HRES.out]
          unfold BankT.loadL
          have hk2 : k = 0 ∨ k = 1 := by omega
          rcases hk2 with rfl | rfl
          · have h0 : T.read d 0 = (s, c) := HR.out
            rw [h0, if_pos hc]
          · have h0 := HE.out 0 (by decide)
            have h1 : T.read d 1 = (s, c) := HR.out
            rw [show T.read d 0 = T.read d ((0 : Nat) : Int) from rfl, if_neg (by rw [h0]; decide), h1, if_pos hc]
        have HRC := Lib.hid hrc
        clear hrc HE HM4 HF HP HR
        go_wp2_with (refine stop_at (o := ⟨some 27, _, _, _, _, _⟩) ?_)
        refine Stop.mk ?_
        refine wpList_build_zero rfl rfl (Lab.zero.val (.slice none 0 0)) build_lab ?_
        go_wp2_with (refine stop_at (o := ⟨none, .store _ _ _, _, _, _, _⟩) ?_)
        refine Stop.mk ?_
        refine wpList_store_agg rfl _ _ rfl ty_lab X 0 rfl (Lab.vals Lab.zero (.slice none 0 0)) rfl rfl (lab_one Lab.zero (.slice none 0 0) rfl) _ _ HX4.out (by decide) ?_
        intro w5 hw5
        replace hw5 := hw5.all rfl
        have hkw := Lib.hid (hw5.kept HK4.out HXW.out)
        have hwb := Lib.hid hw5.cells
        clear hw5 HX4 HY4 HZ4 HK4
        go_wp2
        refine bodyPost_ret (results_lab rfl _ _ X Lab.zero (.slice none 0 0) rfl hwb.out) rfl ?_
        exact ⟨.slice none 0 0, by rw [HRC.out]; rfl, by rw [HRC.out]; exact .inl ⟨rfl, rfl⟩, hkw.out⟩
    · have hk2 : k = 2 := by omega
      have hrc : res = pickL (T.cands d k) := by
        rw [← HRES.out]
        unfold BankT.loadL
        have h0 := HE.out 0 (by omega)
        have h1 := HE.out 1 (by omega)
        rw [show T.read d 0 = T.read d ((0 : Nat) : Int) from rfl, show T.read d 1 = T.read d ((1 : Nat) : Int) from rfl, if_neg (by rw [h0]; decide), if_neg (by rw [h1]; decide), hk2]
        simp [BankT.cands]
      cases fb with
      | false =>
        have HRC : Hid (res = (Lab.zero, 8)) := Lib.hid (by
          have e : T.cands d k = [] := by have := HF.out; simpa using this
          rw [hrc, e]; rfl)
        clear hrc HE HM HF HP HRES
        go_wp2_with (refine stop_at (o := ⟨some 56, _, _, _, _, _⟩) ?_)
        refine Stop.mk ?_
        refine wpList_build_zero rfl rfl (Lab.zero.val (.slice none 0 0)) build_lab ?_
        go_wp2_with (refine stop_at (o := ⟨none, .store _ _ _, _, _, _, _⟩) ?_)
        refine Stop.mk ?_
        refine wpList_store_agg rfl _ _ rfl ty_lab X 0 rfl (Lab.vals Lab.zero (.slice none 0 0)) rfl rfl (lab_one Lab.zero (.slice none 0 0) rfl) _ _ HX.out (by decide) ?_
        intro w5 hw5
        replace hw5 := hw5.all rfl
        have hkw := Lib.hid (hw5.kept HK.out HXW.out)
        have hwb := Lib.hid hw5.cells
        clear hw5 HX HY HK
        go_wp2
        refine bodyPost_ret (results_lab rfl _ _ X Lab.zero (.slice none 0 0) rfl hwb.out) rfl ?_
        exact ⟨.slice none 0 0, by rw [HRC.out]; rfl, by rw [HRC.out]; exact .inl ⟨rfl, rfl⟩, hkw.out⟩
      | true =>
        have HRC : Hid (res = (best, 0)) := Lib.hid (by
          have h2 := pick_ok (HF.out.1 rfl)
          rw [hrc]
          exact Prod.ext HP.out h2)
        have hn5 : Hid (sl.ownBlock ≠ some X) := Lib.hid (HM.out.1.not5 (by have := HM.out.2 rfl; omega) HX.out rfl)
        clear hrc HE HF HP HRES
        go_wp2_with (refine stop_at (o := ⟨some 57, _, _, _, _, _⟩) ?_)
        refine Stop.mk ?_
        refine wpList_load_agg rfl _ rfl ty_lab Y 0 rfl (Lab.vals best sl) (by simpa using Cells.of_block HY.out) rfl ?_
        go_wp2_with (refine stop_at (o := ⟨none, .store _ _ _, _, _, _, _⟩) ?_)
        refine Stop.mk ?_
        refine wpList_store_agg rfl _ _ rfl ty_lab X 0 rfl (Lab.vals best sl) rfl rfl (lab_one best sl HM.out.1.one) _ _ HX.out (by decide) ?_
        intro w5 hw5
        replace hw5 := hw5.all rfl
        have hkw := Lib.hid (hw5.kept HK.out HXW.out)
        have hwb := Lib.hid hw5.cells
        have hms := Lib.hid (HM.out.1.same fun b hb => hw5.oth b (fun e => hn5.out (by rw [← e]; exact hb)))
        clear hw5 HX HY HK
        go_wp2
        refine bodyPost_ret (results_lab rfl _ _ X best sl rfl hwb.out) rfl ?_
        exact ⟨sl, by rw [HRC.out]; rfl, by rw [HRC.out]; exact hms.out, hkw.out⟩
end
end Go.Proofs.Ytglplhmclfekfaa
