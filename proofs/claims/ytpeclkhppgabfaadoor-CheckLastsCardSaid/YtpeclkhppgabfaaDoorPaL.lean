/- PaL: several texts in one: Ldb Ltr. -/
import Derived.Test.YtpeclkhppgabfaaDoorPaK
import Derived.Lib.BufferRead
import Derived.Laws.IdiomStrings
/- check.Load walked. -/
namespace Go.Proofs.YtpeclkhppgabfaaDoor
open Go.RowKit
set_option linter.unusedVariables false
set_option linter.unusedSimpArgs false

def bestAt (a : Nat) (A : List (List (List Int))) (b : Best) (row : List (List Int)) (m : Nat) : Best := (row.take m).foldl (Best.look (a : Int) A) b
theorem bestAt_succ {a : Nat} {A : List (List (List Int))} {b : Best} {row : List (List Int)} {m : Nat} (hm : m < row.length) : bestAt a A b row (m + 1) = Best.look (a : Int) A (bestAt a A b row m) (row.getD m []) := by
  unfold bestAt
  rw [List.take_add_one, List.foldl_append, List.getD_eq_getElem?_getD, List.getElem?_eq_getElem hm]
  rfl
theorem look_skip {a : Int} {A : List (List (List Int))} {b : Best} {s : List Int} (h : (tagRaw s).part ≠ 0 ∨ 32 < (tagRaw s).parts ∨ (b.found = true ∧ (tagRaw s).gen ≤ b.gen)) : Best.look a A b s = b := by
  unfold Best.look; rw [if_pos h]
theorem look_none {a : Int} {A : List (List (List Int))} {b : Best} {s : List Int} (h : wholeB A (tagRaw s) = none) : Best.look a A b s = b := by
  unfold Best.look; rw [h]; split <;> rfl
theorem look_some {a : Int} {A : List (List (List Int))} {b : Best} {s x : List Int} (hn : ¬ ((tagRaw s).part ≠ 0 ∨ 32 < (tagRaw s).parts ∨ (b.found = true ∧ (tagRaw s).gen ≤ b.gen))) (h : wholeB A (tagRaw s) = some x) : Best.look a A b s = { b with area := a, gen := (tagRaw s).gen, bytes := x, found := true } := by
  unfold Best.look; rw [if_neg hn, h]
theorem best_one {w : World} {B0 n : Nat} {e : TypeId} {bv : Value} {xs : List Value} (h : w.ownsRow B0 e 1 bv n xs) {b : Best} : ∀ u ∈ bestVals b bv, u.oneCell' = true := by
  intro u hu
  simp only [bestVals, List.mem_cons, List.mem_nil_iff, or_false] at hu
  rcases hu with rfl | rfl | rfl | rfl
  · rfl
  · rfl
  · exact (own_slice h).2
  · rfl
section
variable {w0 W : World} {R : Nat → Prop} {q : Nat} {T : BankT}
set_option maxHeartbeats 8000000
set_option maxRecDepth 100000
theorem check_Load (h : BK w0 R W q T) (u : T.Use) (B c : Nat) (L : List Int) (hlv : Cells W B 0 (ints L)) (hL : L.length ≤ 100) :
    Calls Tryd.prog 16 #[.pointer (some ⟨q, 0, none⟩), .slice (some ⟨B, 0, none⟩) L.length c] W fun e w' => ∃ bv, e = .returned (.tuple #[.agg (bestVals (loadC T.read L).1 bv).toArray, .int .i64 (loadC T.read L).2]) ∧ w'.ownsRow W.heap.size 5 1 bv (loadC T.read L).1.bytes.length (u8s (loadC T.read L).1.bytes) ∧ Kept W w' := by
  obtain ⟨res, hres⟩ : ∃ res, loadC T.read L = res := ⟨_, rfl⟩
  rw [hres]
  have HRES := Lib.hid hres
  have HB := Lib.hid h; have HU := Lib.hid u; have HLV := Lib.hid hlv
  clear h u hlv hres
  go_enter Tryd.func16, Tryd.ntmps16
  go_wp2_with (refine stop_at (o := ⟨some 4, _, _, _, _, _⟩) ?_)
  refine Stop.mk ?_
  refine wpList_alloc_abs rfl 30 rfl zeroF zero_found ?_
  intro w1 hz1 hs1 hn1 hk1
  go_wp2_with (refine stop_at (o := ⟨some 6, _, _, _, _, _⟩) ?_)
  refine Stop.mk ?_
  refine wpList_alloc_abs rfl 30 rfl zeroF zero_found ?_
  intro w2 hz2 hs2 hn2 hk2
  have HD2 : Hid (LdI W w2 w1.heap.size W.heap.size (bestTo T.read L 0) (.slice none 0 0)) := Lib.hid ⟨hk1.trans hk2, ⟨hk1.size, by have := hs1; omega, Nat.le_refl _⟩, ⟨hz2.out, World.ownsRow_nil _ _ _ _⟩, hk2.block hz1.out⟩
  generalize w1.heap.size = E at *
  have HFW := Lib.hid (Nat.le_refl W.heap.size)
  generalize hF : W.heap.size = F at HD2 HFW ⊢
  have HF := Lib.hid hF
  clear hz1 hs1 hn1 hk1 hz2 hs2 hn2 hk2 hF HFW
  go_wp2
  go_loopw [7, 20] (fun f i wr => ∃ (a : Nat) (bv : Value), a ≤ 2 ∧ i = .int .i64 a ∧ f = .bool (bestTo T.read L a).found ∧ Hid (LdI W wr E F (bestTo T.read L a) bv) ∧ Hid (∀ j : Nat, j < a → (areaTo T.read L (50 + 32 * (j : Int)) 32).2 = 0)) (fun _ i _ => 2 - (intOf i).toNat)
  case atStart => exact ⟨0, _, Nat.zero_le _, rfl, rfl, HD2, Lib.hid fun j h => absurd h (Nat.not_lt_zero _)⟩
  case round =>
    obtain ⟨a, bv, ha, rfl, rfl, HD, HE⟩ := hrel
    obtain ⟨wo, hwo⟩ : ∃ wo, wo = wr := ⟨_, rfl⟩
    subst hwo
    clear HD2
    by_cases hlt : a < 2
    · have HBN : Hid (∀ X, bestTo T.read L (a + 1) = X ↔ (bestTo T.read L a).inArea (a : Int) (areaTo T.read L (50 + 32 * (a : Int)) 32).1 = X) := Lib.hid fun X => Iff.rfl
      generalize bestTo T.read L a = b at *
      go_wp2_with (refine stop_at (o := ⟨some 23, _, _, _, _, _⟩) ?_)
      refine Stop.mk ?_
      refine wpList_make_rows rfl _ _ rfl rfl rfl ?_
      intro w3 hz3 hs3 hk3
      have HD3 := Lib.hid (HD.out.next hk3)
      have HA3 : Hid (AllV W w3 wo.heap.size _ (padA [])) := Lib.hid (AllV.zero hz3.out)
      have HGE := Lib.hid HD.out.kept.size
      generalize wo.heap.size = G at *
      clear hz3 hs3 hk3 HD
      go_wp2
      go_loopw [26] (fun i wx => ∃ (k : Nat) (vs : List Value), k ≤ 32 ∧ i = .int .i64 k ∧ Hid ((areaTo T.read L (50 + 32 * (a : Int)) k).2 = 0) ∧ Hid (LdI W wx E F { b with seen := (areaTo T.read L (50 + 32 * (a : Int)) k).1.foldl (fun x l => seenL l x) b.seen } bv) ∧ Hid (AllV W wx G vs (padA (areaTo T.read L (50 + 32 * (a : Int)) k).1))) (fun i _ => 32 - (intOf i).toNat)
      case atStart => exact ⟨0, _, Nat.zero_le _, rfl, Lib.hid rfl, HD3, HA3⟩
      case round =>
        obtain ⟨k, vs, hk, rfl, H0, HD, HA⟩ := hrel
        clear HD3 HA3
        obtain ⟨wp, hwp⟩ : ∃ wp, wp = wr := ⟨_, rfl⟩
        subst hwp
        by_cases hk32 : k < 32
        · have HLEN := Lib.hid (areaTo_len H0.out).1
          have HER := Lib.hid (fun e he h => areaTo_err (rd := T.read) (L := L) (p := 50 + 32 * (a : Int)) H0.out hk32 (e := e) he h)
          have HSU := Lib.hid (fun h1 h2 => areaTo_succ (rd := T.read) (L := L) (p := 50 + 32 * (a : Int)) (k := k) H0.out h1 h2)
          have HLE := Lib.hid (fun e he h => loadC_err (rd := T.read) (L := L) hlt HE.out (e := e) he h)
          have HPT := Lib.hid (check_parts (HB.out.kept HD.out.kept).1 HU.out B c L (HLV.out.kept HD.out.kept) hL (50 + 32 * (a : Int) + (k : Int)))
          have HPL := Lib.hid (partsL_len T.read (50 + 32 * (a : Int) + (k : Int)) L [] 0)
          generalize partsL T.read (50 + 32 * (a : Int) + (k : Int)) L [] 0 = r at *
          obtain ⟨row, n, e⟩ := r
          simp only [] at HPT HER HSU HPL
          generalize hA : (areaTo T.read L (50 + 32 * (a : Int)) k).1 = A at *
          clear hA
          go_wp2_with fail
          refine Calls.mono (check_first a hlt _) ?_
          rintro e' w' ⟨rfl, rfl⟩
          go_wp2_with fail
          refine Calls.mono HPT.out ?_
          rintro e' w4 ⟨v, rfl, hp4, _, hk4⟩
          have HD4 := Lib.hid (HD.out.next hk4)
          have HA4 := Lib.hid (HA.out.next hk4)
          have HP4 : Hid (PIn W w4 v row) := Lib.hid ⟨hp4.own, fun g hg => Nat.le_trans HD.out.kept.size (hp4.fresh g hg), hp4.sec⟩
          clear hp4 hk4 HPT HD HA
          by_cases he : e = 0
          · subst he
            by_cases hn : n = 0
            · subst hn
              have HRR : Hid (res = (Best.zero, 5)) := Lib.hid (by rw [← HRES.out]; exact HLE.out 5 (by decide) (HER.out 5 (by decide) (.inr ⟨rfl, rfl, rfl⟩)))
              clear HER HSU HLE HRES
              go_wp2_with (refine stop_at (o := ⟨some 48, _, _, _, _, _⟩) ?_)
              refine Stop.mk ?_
              refine wpList_build_zeroR rfl rfl (.agg zeroF.toArray) build_found ?_
              refine wpList_store_agg rfl _ _ rfl ty_found F 0 rfl zeroF rfl rfl (by decide) zeroF _ HD4.out.fz (by decide) ?_
              intro w5 hw5
              replace hw5 := hw5.all rfl
              have HK5 := Lib.hid (hw5.kept HD4.out.kept HD4.out.ge.2.2)
              have HF5 := Lib.hid hw5.cells
              clear hw5 HD4 HA4 HP4
              go_wp2
              refine bodyPost_ret (results_found rfl _ _ F zeroF rfl rfl HF5.out) rfl ?_
              exact ⟨.slice none 0 0, by rw [HRR.out]; rfl, by rw [HRR.out]; exact World.ownsRow_nil _ _ _ _, HK5.out⟩
            · have hnb : ((n : Int) == 0) = false := by simpa using hn
              have HSC := Lib.hid (HSU.out rfl hn)
              obtain ⟨ao, cap, hv⟩ := HP4.out.slice
              subst hv
              clear HER HSU HLE hn
              go_wp2_with (refine stop_at (o := ⟨none, .store _ _ _, _, _, _, _⟩) ?_)
              refine Stop.mk ?_
              refine wpList_set_cell rfl _ _ rfl size_rows G k rfl (.slice ao row.length cap) rfl rfl rfl vs _ HA4.out.blk (by rw [HA4.out.len, padA_len (by rw [HLEN.out]; omega)]; exact hk32) ?_
              intro w5 hw5
              have HD5 := Lib.hid (HD4.out.setG hw5 HA4.out.blk HGE.out)
              have hA5 := HA4.out.set (k := k) (by rw [padA_len (by rw [HLEN.out]; omega)]; exact hk32) HP4.out hw5
              rw [show k = A.length from HLEN.out.symm, padA_set (by rw [HLEN.out]; exact hk32), show A.length = k from HLEN.out] at hA5
              have HA5 := Lib.hid hA5
              have HVS : Hid (∀ X, (vs.set k X).getD k undef = X) := Lib.hid fun X => by
                rw [List.getD_eq_getElem?_getD, List.getElem?_set_self (by rw [HA4.out.len, padA_len (by rw [HLEN.out]; omega)]; exact hk32)]; rfl
              have HRA : Hid ((padA (A ++ [row])).getD k [] = row) := Lib.hid (by
                unfold padA
                rw [List.getD_eq_getElem?_getD, List.append_assoc, List.getElem?_append_right (by rw [HLEN.out]; omega), HLEN.out, Nat.sub_self]; rfl)
              have HAL : Hid (k < (padA (A ++ [row])).length) := Lib.hid (by rw [padA_len (by rw [List.length_append, List.length_singleton, HLEN.out]; omega)]; exact hk32)
              have hrl : row.length ≤ 1000 := by have := HPL.out; simp only [List.length_nil] at this; omega
              have HPR : Hid (∀ wz, AllV W wz G (vs.set k (.slice ao row.length cap)) (padA (A ++ [row])) → PIn W wz (.slice ao row.length cap) row) := Lib.hid fun wz hz => by
                have := hz.row k HAL.out
                rw [HVS.out, HRA.out] at this
                exact this
              have HS0 : Hid (∀ X, (A ++ [row]).foldl (fun x l => seenL l x) X = seenL row (A.foldl (fun x l => seenL l x) X)) := Lib.hid fun X => by rw [List.foldl_append]; rfl
              have HS1 := Lib.hid (HS0.out b.seen)
              generalize A.foldl (fun x l => seenL l x) b.seen = s0 at HD5 HS1
              clear hw5 hA5 HD4 HA4 HP4 HS0 HVS HRA HAL hnb
              generalize vs.set k (.slice ao row.length cap) = vs2 at *
              generalize hA2 : padA (A ++ [row]) = A2 at *
              have HA2 := Lib.hid hA2
              clear hA2
              go_wp2
              go_loopw [55] (fun j wx => ∃ m : Nat, m ≤ row.length ∧ j = .int .i64 m ∧ Hid (LdI W wx E F { b with seen := seenL (row.take m) s0 } bv) ∧ Hid (AllV W wx G vs2 A2)) (fun j _ => row.length - (intOf j).toNat)
              case atStart => exact ⟨0, Nat.zero_le _, rfl, HD5, HA5⟩
              case round =>
                clear HD5 HA5
                obtain ⟨m, hm, rfl, HD, HA⟩ := hrel
                by_cases hml : m < row.length
                · obtain ⟨g, rfl, hc, hsec⟩ := (HPR.out _ HA.out).cellsAt hml
                  have HSS := Lib.hid (seenL_succ row hml s0)
                  obtain ⟨s, hse⟩ : ∃ s, row.getD m [] = s := ⟨_, rfl⟩
                  rw [hse] at hc hsec HSS
                  have HC := Lib.hid hc
                  have HSB := Lib.hid hsec
                  have HPW := Lib.hid (partVals_len hsec.1)
                  obtain ⟨sm, hsm⟩ : ∃ sm, seenL (row.take m) s0 = sm := ⟨_, rfl⟩
                  rw [hsm] at HD HSS
                  clear hc hsec hse hsm
                  go_wp2_with (refine stop_at (o := ⟨some 58, _, _, _, _, _⟩) ?_)
                  refine Stop.mk ?_
                  refine wpList_load_agg rfl _ rfl ty_part g (m * 69) rfl (partVals s) HC.out HPW.out ?_
                  refine wpList_new_row rfl rfl _ _ rfl rfl ty_part (List.replicate 64 (Value.int .u8 0) ++ List.replicate 5 (Value.int .i64 0)) zero_part rfl (partVals s) rfl HPW.out (partVals_one s) rfl ?_
                  intro w6 hz6 hs6 hk6
                  have HD6 := Lib.hid (HD.out.next hk6)
                  have HA6 := Lib.hid (HA.out.next hk6)
                  have k0 : w6.cell? ⟨wr.heap.size, 64, none⟩ = some (.int .i64 (tagRaw s).gen) := by
                    rw [cell_of_row _ _ 64 _ _ _ hz6.out, List.getElem?_toArray]; exact partVals_at HSB.out.1 0
                  have k3 : w6.cell? ⟨E, 3, none⟩ = some (.int .i64 sm) := cell_of_row _ _ 3 _ _ _ HD6.out.best.1
                  generalize (tagRaw s).gen = gs at *
                  generalize wr.heap.size = Y at *
                  clear hz6 hs6 hk6 HD HA HC
                  go_wp2_with (refine stop_at (o := ⟨none, .store _ _ _, _, _, _, _⟩) ?_)
                  refine Stop.mk ?_
                  refine wpList_set_cell rfl _ _ rfl size_int E 3 rfl (.int .i64 (max sm gs)) rfl rfl rfl _ _ HD6.out.best.1 (show 3 < 4 by decide) ?_
                  intro w7 hw7
                  have HD7 : Hid (LdI W w7 E F { b with seen := max sm gs } bv) := Lib.hid (HD6.out.setE (b' := { b with seen := max sm gs }) hw7 HD6.out.best.2)
                  have HA7 := Lib.hid (HA6.out.setE hw7 HD6.out.best.1)
                  rw [← HSS.out] at HD7
                  clear hw7 HD6 HA6 k0 k3
                  go_wp2
                  go_roundw
                  case rel => exact ⟨m + 1, hml, by go_num, HD7, HA7⟩
                  case measure => simp [intOf]; omega
                · have hmr : m = row.length := by omega
                  have HD7 : Hid (LdI W wr E F { b with seen := seenL row s0 } bv) := Lib.hid (by have := HD.out; rw [hmr, List.take_length] at this; exact this)
                  have hge : row.length ≤ m := by omega
                  clear hmr HD
                  go_wp2
                  go_roundw
                  case rel => exact ⟨k + 1, vs2, hk32, by go_num, Lib.hid (by rw [HSC.out]), Lib.hid (by rw [HSC.out]; simp only []; rw [HS1.out]; exact HD7.out), Lib.hid (by rw [HSC.out, HA2.out]; exact HA.out)⟩
                  case measure => simp [intOf]; omega
          · have heb : (e == 0) = false := by simpa using he
            have HRR : Hid (res = (Best.zero, e)) := Lib.hid (by rw [← HRES.out]; exact HLE.out e he (HER.out e he (.inl rfl)))
            clear HER HSU HLE HRES he
            go_wp2_with (refine stop_at (o := ⟨some 43, _, _, _, _, _⟩) ?_)
            refine Stop.mk ?_
            refine wpList_build_zeroR rfl rfl (.agg zeroF.toArray) build_found ?_
            go_wp2_with (refine stop_at (o := ⟨none, .store _ _ _, _, _, _, _⟩) ?_)
            refine Stop.mk ?_
            refine wpList_store_agg rfl _ _ rfl ty_found F 0 rfl zeroF rfl rfl (by decide) zeroF _ HD4.out.fz (by decide) ?_
            intro w5 hw5
            replace hw5 := hw5.all rfl
            have HK5 := Lib.hid (hw5.kept HD4.out.kept HD4.out.ge.2.2)
            have HF5 := Lib.hid hw5.cells
            clear hw5 HD4 HA4 HP4
            go_wp2
            refine bodyPost_ret (results_found rfl _ _ F zeroF rfl rfl HF5.out) rfl ?_
            exact ⟨.slice none 0 0, by rw [HRR.out]; rfl, by rw [HRR.out]; exact World.ownsRow_nil _ _ _ _, HK5.out⟩
        · have hkk : k = 32 := by omega
          rw [hkk] at H0 HD HA
          have hge : 32 ≤ k := by omega
          obtain ⟨hal, hrows⟩ := areaTo_len H0.out
          have HE1 : Hid (∀ j : Nat, j < a + 1 → (areaTo T.read L (50 + 32 * (j : Int)) 32).2 = 0) := Lib.hid fun j hj => by
            by_cases e : j = a
            · rw [e]; exact H0.out
            · exact HE.out j (by omega)
          generalize (areaTo T.read L (50 + 32 * (a : Int)) 32).1 = A at *
          rw [padA_full hal] at HA
          have HAL := Lib.hid hal
          have HRW : Hid (∀ i, (A.getD i []).length ≤ 1000) := Lib.hid fun i => by
            by_cases hi : i < A.length
            · have : A.getD i [] ∈ A := by rw [List.getD_eq_getElem?_getD, List.getElem?_eq_getElem hi]; exact List.getElem_mem hi
              have := hrows _ this; omega
            · rw [List.getD_eq_getElem?_getD, List.getElem?_eq_none (by omega)]; simp
          have hrl : (A.getD 0 []).length ≤ 1000 := HRW.out 0
          obtain ⟨row, hrow⟩ : ∃ row, A.getD 0 [] = row := ⟨_, rfl⟩
          rw [hrow] at hrl
          have HROW := Lib.hid hrow
          have h0l : 0 < A.length := by omega
          obtain ⟨ao, cap, hv0⟩ : ∃ ao cap, vs.getD 0 undef = .slice ao row.length cap := by
            obtain ⟨ao, cap, e⟩ := (HA.out.row 0 h0l).slice
            rw [hrow] at e
            exact ⟨ao, cap, e⟩
          have HPR : Hid (∀ wz, AllV W wz G vs A → PIn W wz (.slice ao row.length cap) row) := Lib.hid fun wz hz => by
            have := hz.row 0 (by rw [HAL.out]; decide)
            rw [hv0, hrow] at this
            exact this
          have hcell : wp.cell? ⟨G, 0, none⟩ = some (.slice ao row.length cap) := by
            rw [cell_of_row _ _ 0 _ _ _ HA.out.blk, List.getElem?_toArray, ← hv0, List.getD_eq_getElem?_getD, List.getElem?_eq_getElem (by rw [HA.out.len]; exact h0l)]
            rfl
          have HB0 : Hid (∀ m, bestAt a A { b with seen := A.foldl (fun x l => seenL l x) b.seen } row m = bestAt a A { b with seen := A.foldl (fun x l => seenL l x) b.seen } row m) := Lib.hid fun m => rfl
          have HIN : Hid (b.inArea (a : Int) A = bestAt a A { b with seen := A.foldl (fun x l => seenL l x) b.seen } row row.length) := Lib.hid (by unfold Best.inArea bestAt; rw [hrow, List.take_length])
          have HBF : Hid (({ b with seen := A.foldl (fun x l => seenL l x) b.seen } : Best).found = b.found) := Lib.hid rfl
          generalize ({ b with seen := A.foldl (fun x l => seenL l x) b.seen } : Best) = b0 at *
          have hbf := HBF.out
          rw [← hbf]
          clear hkk hal hrows hrow hv0 h0l HB0 HBF hbf HE H0
          go_wp2
          clear hcell
          go_loopw [7, 72] (fun f j wx => ∃ (m : Nat) (bv : Value), m ≤ row.length ∧ j = .int .i64 m ∧ f = .bool (bestAt a A b0 row m).found ∧ Hid (LdI W wx E F (bestAt a A b0 row m) bv) ∧ Hid (AllV W wx G vs A)) (fun _ j _ => row.length - (intOf j).toNat)
          case atStart => exact ⟨0, bv, Nat.zero_le _, rfl, rfl, HD, HA⟩
          case round =>
            clear HD HA
            obtain ⟨m, bv, hm, rfl, rfl, HD, HA⟩ := hrel
            by_cases hml : m < row.length
            · obtain ⟨g, rfl, hc, hsec⟩ := (HPR.out _ HA.out).cellsAt hml
              have HSC := Lib.hid (bestAt_succ (a := a) (A := A) (b := b0) hml)
              obtain ⟨s, hse⟩ : ∃ s, row.getD m [] = s := ⟨_, rfl⟩
              rw [hse] at hc hsec HSC
              have HC := Lib.hid hc
              have HSB := Lib.hid hsec
              have HPW := Lib.hid (partVals_len hsec.1)
              obtain ⟨bm, hbm⟩ : ∃ bm, bestAt a A b0 row m = bm := ⟨_, rfl⟩
              rw [hbm] at HSC HD
              rw [hbm]
              obtain ⟨ba, bg, bb, bs, bf⟩ := bm
              have HPN := Lib.hid (parts_nonneg hsec)
              clear hc hsec hse hbm
              go_wp2_with (refine stop_at (o := ⟨some 75, _, _, _, _, _⟩) ?_)
              refine Stop.mk ?_
              refine wpList_load_agg rfl _ rfl ty_part g (m * 69) rfl (partVals s) HC.out HPW.out ?_
              refine wpList_new_row rfl rfl _ _ rfl rfl ty_part (List.replicate 64 (Value.int .u8 0) ++ List.replicate 5 (Value.int .i64 0)) zero_part rfl (partVals s) rfl HPW.out (partVals_one s) rfl ?_
              intro w6 hz6 hs6 hk6
              have HD6 := Lib.hid (HD.out.next hk6)
              have HA6 := Lib.hid (HA.out.next hk6)
              have k0 : w6.cell? ⟨wr.heap.size, 64, none⟩ = some (.int .i64 (tagRaw s).gen) := by
                rw [cell_of_row _ _ 64 _ _ _ hz6.out, List.getElem?_toArray]; exact partVals_at HSB.out.1 0
              have k2 : w6.cell? ⟨wr.heap.size, 66, none⟩ = some (.int .i64 (tagRaw s).part) := by
                rw [cell_of_row _ _ 66 _ _ _ hz6.out, List.getElem?_toArray]; exact partVals_at HSB.out.1 2
              have k3 : w6.cell? ⟨wr.heap.size, 67, none⟩ = some (.int .i64 (tagRaw s).parts) := by
                rw [cell_of_row _ _ 67 _ _ _ hz6.out, List.getElem?_toArray]; exact partVals_at HSB.out.1 3
              have x1 : w6.cell? ⟨E, 1, none⟩ = some (.int .i64 bg) := cell_of_row _ _ 1 _ _ _ HD6.out.best.1
              have HTC := Lib.hid (part_tail (by simpa using Cells.of_block hz6.out : Cells w6 wr.heap.size 0 (partVals s)) HSB.out.1)
              have HYB := hz6
              generalize wr.heap.size = Y at *
              clear hz6 hs6 hk6 HD HA HC
              by_cases hp : (tagRaw s).part = 0
              · by_cases h32 : 32 < (tagRaw s).parts
                · rw [hp] at k2
                  have HL := Lib.hid (HSC.out.trans (look_skip (b := ⟨ba, bg, bb, bs, bf⟩) (.inr (.inl h32))))
                  clear HSC
                  go_wp2
                  go_roundw
                  case rel => first | exact ⟨m + 1, bv, hml, by go_num, by rw [HL.out], Lib.hid (by rw [HL.out]; exact HD6.out), HA6⟩ | exact ⟨m + 1, hml, by go_num, by rw [HL.out], bv, Lib.hid (by rw [HL.out]; exact HD6.out)⟩
                  case measure => simp [intOf]; omega
                · by_cases hsk : bf = true ∧ (tagRaw s).gen ≤ bg
                  · obtain ⟨rfl, hgl⟩ := hsk
                    rw [hp] at k2
                    have HL := Lib.hid (HSC.out.trans (look_skip (b := ⟨ba, bg, bb, bs, true⟩) (.inr (.inr ⟨rfl, hgl⟩))))
                    clear HSC
                    go_wp2
                    go_roundw
                    case rel => first | exact ⟨m + 1, bv, hml, by go_num, by rw [HL.out], Lib.hid (by rw [HL.out]; exact HD6.out), HA6⟩ | exact ⟨m + 1, hml, by go_num, by rw [HL.out], bv, Lib.hid (by rw [HL.out]; exact HD6.out)⟩
                    case measure => simp [intOf]; omega
                  · have HNS : Hid (¬ ((tagRaw s).part ≠ 0 ∨ 32 < (tagRaw s).parts ∨ (bf = true ∧ (tagRaw s).gen ≤ bg))) := Lib.hid (by
                      rintro (h | h | h)
                      · exact h hp
                      · exact h32 h
                      · exact hsk h)
                    rw [hp] at k2
                    have hcases : bf = false ∨ (bf = true ∧ ¬ (tagRaw s).gen ≤ bg) := by
                      cases bf with
                      | false => exact .inl rfl
                      | true => exact .inr ⟨rfl, fun h => hsk ⟨rfl, h⟩⟩
                    have HLS := Lib.hid (fun x (hw : wholeB A (tagRaw s) = some x) => HSC.out.trans (look_some (a := (a : Int)) HNS.out hw))
                    have HLN := Lib.hid (fun (hw : wholeB A (tagRaw s) = none) => HSC.out.trans (look_none (a := (a : Int)) hw))
                    clear HNS HSC
                    have HWH := Lib.hid (check_whole HA6.out.all HAL.out HRW.out (tagRaw s) ⟨HPN.out, by omega⟩)
                    clear hsk hp
                    rcases hcases with rfl | ⟨rfl, hgl⟩
                    · go_wp2_with (refine stop_at (o := ⟨some 100, _, _, _, _, _⟩) ?_)
                      refine Stop.mk ?_
                      refine wpList_load_agg rfl _ rfl ty_tag Y 64 rfl (tagRaw s).vals HTC.out rfl ?_
                      go_wp2_with fail
                      refine Calls.mono HWH.out ?_
                      rintro e' w7 ⟨sv, rfl, hown, hk7⟩
                      have HD7 := Lib.hid (HD6.out.next hk7)
                      have HA7 := Lib.hid (HA6.out.next hk7)
                      have HOW := Lib.hid (ownsRow_base hown HD6.out.kept.size)
                      have HYB7 := Lib.hid (hk7.block HYB.out)
                      clear hown hk7 HWH HD6 HA6 k0 k2 k3 x1 HTC HYB
                      rcases hw : wholeB A (tagRaw s) with _ | x
                      · have HL := Lib.hid (HLN.out hw)
                        clear HLS HLN hw
                        go_wp2
                        go_roundw
                        case rel => first | exact ⟨m + 1, bv, hml, by go_num, by rw [HL.out], Lib.hid (by rw [HL.out]; exact HD7.out), HA7⟩ | exact ⟨m + 1, hml, by go_num, by rw [HL.out], bv, Lib.hid (by rw [HL.out]; exact HD7.out)⟩
                        case measure => simp [intOf]; omega
                      · have HL := Lib.hid (HLS.out x hw)
                        rw [hw] at HOW
                        simp only [Option.isSome_some, Option.getD_some] at HOW ⊢
                        have k0 : w7.cell? ⟨Y, 64, none⟩ = some (.int .i64 (tagRaw s).gen) := by
                          rw [cell_of_row _ _ 64 _ _ _ HYB7.out, List.getElem?_toArray]; exact partVals_at HSB.out.1 0
                        have HSV := Lib.hid (own_slice HOW.out)
                        have HYE : Hid (Y ≠ E) := Lib.hid fun e => by
                          have h1 := HYB7.out
                          rw [e, HD7.out.best.1] at h1
                          injection h1 with h1
                          injection h1 with _ h2 _
                          exact absurd h2 (by decide)
                        clear HLS HLN hw
                        go_upto_region 28 with fail
                        have HDw := Lib.hid (HD7.out.next (Kept.refl w7).drew)
                        have HAw := Lib.hid (HA7.out.next (Kept.refl w7).drew)
                        have HOw := Lib.hid (ownsRow_kept HOW.out (Kept.refl w7).drew)
                        have hS : w7.drew.cell? ⟨Y, 64, none⟩ = some (.int .i64 (tagRaw s).gen) := k0
                        obtain ⟨gs, hgs⟩ : ∃ gs, (tagRaw s).gen = gs := ⟨_, rfl⟩
                        rw [hgs] at hS HL
                        have hS0 := hS
                        clear k0 HD7 HA7 HOW HYB7
                        refine wp_region_calm ?_
                        refine wp_region_E (fun W => W.cell? ⟨Y, 64, none⟩ = some (.int .i64 gs)) 100 (by kernel_rfl) ?_
                        refine wpAnyE_take (i := 0) (v := ?_) (listed' := #[true, false, false, false, false, false, false, false, false, false, false, false]) (by rfl) (by kernel_rfl) (by kernel_rfl) calm_put hS (by rfl) ?_ ?_
                        rotate_left
                        · intro W hW; clear hW; go_simp; try (with_reducible rfl)
                        simp only [Act.put, List.getElem_toArray, List.getElem_cons_succ, List.getElem_cons_zero, List.setIfInBounds_toArray, List.set_cons_zero, List.set_cons_succ]
                        refine wpAnyE_take (i := 1) (v := ?_) (listed' := #[true, true, false, false, false, false, false, false, false, false, false, false]) (by rfl) (by kernel_rfl) (by kernel_rfl) calm_put hS (by rfl) ?_ ?_
                        rotate_left
                        · intro W hW; clear hW; go_simp; try (with_reducible rfl)
                        simp only [Act.put, List.getElem_toArray, List.getElem_cons_succ, List.getElem_cons_zero, List.setIfInBounds_toArray, List.set_cons_zero, List.set_cons_succ]
                        refine wpAnyE_take (i := 2) (v := ?_) (listed' := #[true, true, true, false, false, false, false, false, false, false, false, false]) (by rfl) (by kernel_rfl) (by kernel_rfl) calm_put hS (by rfl) ?_ ?_
                        rotate_left
                        · intro W hW; clear hW; go_simp; try (with_reducible rfl)
                        simp only [Act.put, List.getElem_toArray, List.getElem_cons_succ, List.getElem_cons_zero, List.setIfInBounds_toArray, List.set_cons_zero, List.set_cons_succ]
                        refine wpAnyE_take (i := 3) (v := .int .i64 gs) (listed' := #[true, true, true, true, false, false, false, false, false, false, false, false]) (by rfl) (by kernel_rfl) (by kernel_rfl) calm_put hS (by rfl) ?_ ?_
                        · intro W hW; have hW2 := hW; go_simp; try (with_reducible rfl)
                        simp only [Act.put, List.getElem_toArray, List.getElem_cons_succ, List.getElem_cons_zero, List.setIfInBounds_toArray, List.set_cons_zero, List.set_cons_succ]
                        refine wpAnyE_take (i := 4) (v := ?_) (listed' := #[true, true, true, true, true, false, false, false, false, false, false, false]) (by rfl) (by kernel_rfl) (by kernel_rfl) calm_put hS (by rfl) ?_ ?_
                        rotate_left
                        · intro W hW; clear hW; go_simp; try (with_reducible rfl)
                        simp only [Act.put, List.getElem_toArray, List.getElem_cons_succ, List.getElem_cons_zero, List.setIfInBounds_toArray, List.set_cons_zero, List.set_cons_succ]
                        refine wpAnyE_take (i := 5) (v := ?_) (listed' := #[true, true, true, true, true, true, false, false, false, false, false, false]) (by rfl) (by kernel_rfl) (by kernel_rfl) calm_put hS (by rfl) ?_ ?_
                        rotate_left
                        · intro W hW; clear hW; go_simp; try (with_reducible rfl)
                        simp only [Act.put, List.getElem_toArray, List.getElem_cons_succ, List.getElem_cons_zero, List.setIfInBounds_toArray, List.set_cons_zero, List.set_cons_succ]
                        refine wpAnyE_one (i := 6) (listed' := #[true, true, true, true, true, true, true, false, false, false, false, false]) (by rfl) (by kernel_rfl) (by kernel_rfl) (by rfl) (fun K hK => ?_)
                        simp only [Act.put, List.getElem_toArray, List.getElem_cons_succ, List.getElem_cons_zero, List.setIfInBounds_toArray, List.set_cons_zero, List.set_cons_succ]
                        refine wp_set_cell _ _ rfl size_int E 0 rfl (.int .i64 (a : Int)) rfl rfl rfl _ _ HDw.out.best.1 (show 0 < 4 by decide) ?_
                        intro wa1 hwa1
                        have hS := (World.cell?_of_block (hwa1.oth Y HYE.out)).trans hS0
                        refine hK _ _ (fun _ => hS) ?_; clear hK K
                        refine wpAnyE_take (i := 7) (v := ?_) (listed' := #[true, true, true, true, true, true, true, true, false, false, false, false]) (by rfl) (by kernel_rfl) (by kernel_rfl) calm_put hS (by rfl) ?_ ?_
                        rotate_left
                        · intro W hW; clear hW; go_simp; try (with_reducible rfl)
                        simp only [Act.put, List.getElem_toArray, List.getElem_cons_succ, List.getElem_cons_zero, List.setIfInBounds_toArray, List.set_cons_zero, List.set_cons_succ]
                        refine wpAnyE_one (i := 8) (listed' := #[true, true, true, true, true, true, true, true, true, false, false, false]) (by rfl) (by kernel_rfl) (by kernel_rfl) (by rfl) (fun K hK => ?_)
                        simp only [Act.put, List.getElem_toArray, List.getElem_cons_succ, List.getElem_cons_zero, List.setIfInBounds_toArray, List.set_cons_zero, List.set_cons_succ]
                        refine wp_set_cell _ _ rfl size_int E 1 rfl (.int .i64 gs) rfl rfl rfl _ _ hwa1.blk (show 1 < 4 by decide) ?_
                        intro wa2 hwa2
                        replace hwa2 := hwa1.again hwa2
                        have hS := (World.cell?_of_block (hwa2.oth Y HYE.out)).trans hS0
                        refine hK _ _ (fun _ => hS) ?_; clear hK K
                        refine wpAnyE_take (i := 9) (v := ?_) (listed' := #[true, true, true, true, true, true, true, true, true, true, false, false]) (by rfl) (by kernel_rfl) (by kernel_rfl) calm_put hS (by rfl) ?_ ?_
                        rotate_left
                        · intro W hW; clear hW; go_simp; try (with_reducible rfl)
                        simp only [Act.put, List.getElem_toArray, List.getElem_cons_succ, List.getElem_cons_zero, List.setIfInBounds_toArray, List.set_cons_zero, List.set_cons_succ]
                        refine wpAnyE_one (i := 10) (listed' := #[true, true, true, true, true, true, true, true, true, true, true, false]) (by rfl) (by kernel_rfl) (by kernel_rfl) (by rfl) (fun K hK => ?_)
                        simp only [Act.put, List.getElem_toArray, List.getElem_cons_succ, List.getElem_cons_zero, List.setIfInBounds_toArray, List.set_cons_zero, List.set_cons_succ]
                        refine wp_set_cell _ _ rfl size_bytes E 2 rfl (sv) rfl HSV.out.1 HSV.out.2 _ _ hwa2.blk (show 2 < 4 by decide) ?_
                        intro wa3 hwa3
                        replace hwa3 := hwa2.again hwa3
                        have hS := (World.cell?_of_block (hwa3.oth Y HYE.out)).trans hS0
                        refine hK _ _ (fun _ => hS) ?_; clear hK K
                        refine wpAnyE_one (i := 11) (listed' := #[true, true, true, true, true, true, true, true, true, true, true, true]) (by rfl) (by kernel_rfl) (by kernel_rfl) (by rfl) (fun K hK => ?_)
                        simp only [Act.put, List.getElem_toArray, List.getElem_cons_succ, List.getElem_cons_zero, List.setIfInBounds_toArray, List.set_cons_zero, List.set_cons_succ]
                        go_wp2
                        refine hK _ _ (fun _ => hS) ?_; clear hK K
                        refine wpAnyE_done (by kernel_rfl) ?_ _
                        refine calm_normal ?_
                        have HD8 : Hid (LdI W wa3 E F ⟨(a : Int), gs, x, bs, true⟩ sv) := Lib.hid (HDw.out.setE (b' := ⟨(a : Int), gs, x, bs, true⟩) (bv' := sv) hwa3 HOw.out)
                        have HA8 := Lib.hid (HAw.out.setE hwa3 HDw.out.best.1)
                        clear hwa1 hwa2 hwa3 HDw HAw HOw hS hS0
                        go_wp2
                        go_roundw
                        case rel => first | exact ⟨m + 1, sv, hml, by go_num, by rw [HL.out], Lib.hid (by rw [HL.out]; exact HD8.out), HA8⟩ | exact ⟨m + 1, hml, by go_num, by rw [HL.out], sv, Lib.hid (by rw [HL.out]; exact HD8.out)⟩
                        case measure => simp [intOf]; omega
                    · go_wp2_with (refine stop_at (o := ⟨some 100, _, _, _, _, _⟩) ?_)
                      refine Stop.mk ?_
                      refine wpList_load_agg rfl _ rfl ty_tag Y 64 rfl (tagRaw s).vals HTC.out rfl ?_
                      go_wp2_with fail
                      refine Calls.mono HWH.out ?_
                      rintro e' w7 ⟨sv, rfl, hown, hk7⟩
                      have HD7 := Lib.hid (HD6.out.next hk7)
                      have HA7 := Lib.hid (HA6.out.next hk7)
                      have HOW := Lib.hid (ownsRow_base hown HD6.out.kept.size)
                      have HYB7 := Lib.hid (hk7.block HYB.out)
                      clear hown hk7 HWH HD6 HA6 k0 k2 k3 x1 HTC HYB
                      rcases hw : wholeB A (tagRaw s) with _ | x
                      · have HL := Lib.hid (HLN.out hw)
                        clear HLS HLN hw
                        go_wp2
                        go_roundw
                        case rel => first | exact ⟨m + 1, bv, hml, by go_num, by rw [HL.out], Lib.hid (by rw [HL.out]; exact HD7.out), HA7⟩ | exact ⟨m + 1, hml, by go_num, by rw [HL.out], bv, Lib.hid (by rw [HL.out]; exact HD7.out)⟩
                        case measure => simp [intOf]; omega
                      · have HL := Lib.hid (HLS.out x hw)
                        rw [hw] at HOW
                        simp only [Option.isSome_some, Option.getD_some] at HOW ⊢
                        have k0 : w7.cell? ⟨Y, 64, none⟩ = some (.int .i64 (tagRaw s).gen) := by
                          rw [cell_of_row _ _ 64 _ _ _ HYB7.out, List.getElem?_toArray]; exact partVals_at HSB.out.1 0
                        have HSV := Lib.hid (own_slice HOW.out)
                        have HYE : Hid (Y ≠ E) := Lib.hid fun e => by
                          have h1 := HYB7.out
                          rw [e, HD7.out.best.1] at h1
                          injection h1 with h1
                          injection h1 with _ h2 _
                          exact absurd h2 (by decide)
                        clear HLS HLN hw
                        go_upto_region 28 with fail
                        have HDw := Lib.hid (HD7.out.next (Kept.refl w7).drew)
                        have HAw := Lib.hid (HA7.out.next (Kept.refl w7).drew)
                        have HOw := Lib.hid (ownsRow_kept HOW.out (Kept.refl w7).drew)
                        have hS : w7.drew.cell? ⟨Y, 64, none⟩ = some (.int .i64 (tagRaw s).gen) := k0
                        obtain ⟨gs, hgs⟩ : ∃ gs, (tagRaw s).gen = gs := ⟨_, rfl⟩
                        rw [hgs] at hS HL
                        have hS0 := hS
                        clear k0 HD7 HA7 HOW HYB7
                        refine wp_region_calm ?_
                        refine wp_region_E (fun W => W.cell? ⟨Y, 64, none⟩ = some (.int .i64 gs)) 100 (by kernel_rfl) ?_
                        refine wpAnyE_take (i := 0) (v := ?_) (listed' := #[true, false, false, false, false, false, false, false, false, false, false, false]) (by rfl) (by kernel_rfl) (by kernel_rfl) calm_put hS (by rfl) ?_ ?_
                        rotate_left
                        · intro W hW; clear hW; go_simp; try (with_reducible rfl)
                        simp only [Act.put, List.getElem_toArray, List.getElem_cons_succ, List.getElem_cons_zero, List.setIfInBounds_toArray, List.set_cons_zero, List.set_cons_succ]
                        refine wpAnyE_take (i := 1) (v := ?_) (listed' := #[true, true, false, false, false, false, false, false, false, false, false, false]) (by rfl) (by kernel_rfl) (by kernel_rfl) calm_put hS (by rfl) ?_ ?_
                        rotate_left
                        · intro W hW; clear hW; go_simp; try (with_reducible rfl)
                        simp only [Act.put, List.getElem_toArray, List.getElem_cons_succ, List.getElem_cons_zero, List.setIfInBounds_toArray, List.set_cons_zero, List.set_cons_succ]
                        refine wpAnyE_take (i := 2) (v := ?_) (listed' := #[true, true, true, false, false, false, false, false, false, false, false, false]) (by rfl) (by kernel_rfl) (by kernel_rfl) calm_put hS (by rfl) ?_ ?_
                        rotate_left
                        · intro W hW; clear hW; go_simp; try (with_reducible rfl)
                        simp only [Act.put, List.getElem_toArray, List.getElem_cons_succ, List.getElem_cons_zero, List.setIfInBounds_toArray, List.set_cons_zero, List.set_cons_succ]
                        refine wpAnyE_take (i := 3) (v := .int .i64 gs) (listed' := #[true, true, true, true, false, false, false, false, false, false, false, false]) (by rfl) (by kernel_rfl) (by kernel_rfl) calm_put hS (by rfl) ?_ ?_
                        · intro W hW; have hW2 := hW; go_simp; try (with_reducible rfl)
                        simp only [Act.put, List.getElem_toArray, List.getElem_cons_succ, List.getElem_cons_zero, List.setIfInBounds_toArray, List.set_cons_zero, List.set_cons_succ]
                        refine wpAnyE_take (i := 4) (v := ?_) (listed' := #[true, true, true, true, true, false, false, false, false, false, false, false]) (by rfl) (by kernel_rfl) (by kernel_rfl) calm_put hS (by rfl) ?_ ?_
                        rotate_left
                        · intro W hW; clear hW; go_simp; try (with_reducible rfl)
                        simp only [Act.put, List.getElem_toArray, List.getElem_cons_succ, List.getElem_cons_zero, List.setIfInBounds_toArray, List.set_cons_zero, List.set_cons_succ]
                        refine wpAnyE_take (i := 5) (v := ?_) (listed' := #[true, true, true, true, true, true, false, false, false, false, false, false]) (by rfl) (by kernel_rfl) (by kernel_rfl) calm_put hS (by rfl) ?_ ?_
                        rotate_left
                        · intro W hW; clear hW; go_simp; try (with_reducible rfl)
                        simp only [Act.put, List.getElem_toArray, List.getElem_cons_succ, List.getElem_cons_zero, List.setIfInBounds_toArray, List.set_cons_zero, List.set_cons_succ]
                        refine wpAnyE_one (i := 6) (listed' := #[true, true, true, true, true, true, true, false, false, false, false, false]) (by rfl) (by kernel_rfl) (by kernel_rfl) (by rfl) (fun K hK => ?_)
                        simp only [Act.put, List.getElem_toArray, List.getElem_cons_succ, List.getElem_cons_zero, List.setIfInBounds_toArray, List.set_cons_zero, List.set_cons_succ]
                        refine wp_set_cell _ _ rfl size_int E 0 rfl (.int .i64 (a : Int)) rfl rfl rfl _ _ HDw.out.best.1 (show 0 < 4 by decide) ?_
                        intro wa1 hwa1
                        have hS := (World.cell?_of_block (hwa1.oth Y HYE.out)).trans hS0
                        refine hK _ _ (fun _ => hS) ?_; clear hK K
                        refine wpAnyE_take (i := 7) (v := ?_) (listed' := #[true, true, true, true, true, true, true, true, false, false, false, false]) (by rfl) (by kernel_rfl) (by kernel_rfl) calm_put hS (by rfl) ?_ ?_
                        rotate_left
                        · intro W hW; clear hW; go_simp; try (with_reducible rfl)
                        simp only [Act.put, List.getElem_toArray, List.getElem_cons_succ, List.getElem_cons_zero, List.setIfInBounds_toArray, List.set_cons_zero, List.set_cons_succ]
                        refine wpAnyE_one (i := 8) (listed' := #[true, true, true, true, true, true, true, true, true, false, false, false]) (by rfl) (by kernel_rfl) (by kernel_rfl) (by rfl) (fun K hK => ?_)
                        simp only [Act.put, List.getElem_toArray, List.getElem_cons_succ, List.getElem_cons_zero, List.setIfInBounds_toArray, List.set_cons_zero, List.set_cons_succ]
                        refine wp_set_cell _ _ rfl size_int E 1 rfl (.int .i64 gs) rfl rfl rfl _ _ hwa1.blk (show 1 < 4 by decide) ?_
                        intro wa2 hwa2
                        replace hwa2 := hwa1.again hwa2
                        have hS := (World.cell?_of_block (hwa2.oth Y HYE.out)).trans hS0
                        refine hK _ _ (fun _ => hS) ?_; clear hK K
                        refine wpAnyE_take (i := 9) (v := ?_) (listed' := #[true, true, true, true, true, true, true, true, true, true, false, false]) (by rfl) (by kernel_rfl) (by kernel_rfl) calm_put hS (by rfl) ?_ ?_
                        rotate_left
                        · intro W hW; clear hW; go_simp; try (with_reducible rfl)
                        simp only [Act.put, List.getElem_toArray, List.getElem_cons_succ, List.getElem_cons_zero, List.setIfInBounds_toArray, List.set_cons_zero, List.set_cons_succ]
                        refine wpAnyE_one (i := 10) (listed' := #[true, true, true, true, true, true, true, true, true, true, true, false]) (by rfl) (by kernel_rfl) (by kernel_rfl) (by rfl) (fun K hK => ?_)
                        simp only [Act.put, List.getElem_toArray, List.getElem_cons_succ, List.getElem_cons_zero, List.setIfInBounds_toArray, List.set_cons_zero, List.set_cons_succ]
                        refine wp_set_cell _ _ rfl size_bytes E 2 rfl (sv) rfl HSV.out.1 HSV.out.2 _ _ hwa2.blk (show 2 < 4 by decide) ?_
                        intro wa3 hwa3
                        replace hwa3 := hwa2.again hwa3
                        have hS := (World.cell?_of_block (hwa3.oth Y HYE.out)).trans hS0
                        refine hK _ _ (fun _ => hS) ?_; clear hK K
                        refine wpAnyE_one (i := 11) (listed' := #[true, true, true, true, true, true, true, true, true, true, true, true]) (by rfl) (by kernel_rfl) (by kernel_rfl) (by rfl) (fun K hK => ?_)
                        simp only [Act.put, List.getElem_toArray, List.getElem_cons_succ, List.getElem_cons_zero, List.setIfInBounds_toArray, List.set_cons_zero, List.set_cons_succ]
                        go_wp2
                        refine hK _ _ (fun _ => hS) ?_; clear hK K
                        refine wpAnyE_done (by kernel_rfl) ?_ _
                        refine calm_normal ?_
                        have HD8 : Hid (LdI W wa3 E F ⟨(a : Int), gs, x, bs, true⟩ sv) := Lib.hid (HDw.out.setE (b' := ⟨(a : Int), gs, x, bs, true⟩) (bv' := sv) hwa3 HOw.out)
                        have HA8 := Lib.hid (HAw.out.setE hwa3 HDw.out.best.1)
                        clear hwa1 hwa2 hwa3 HDw HAw HOw hS hS0
                        go_wp2
                        go_roundw
                        case rel => first | exact ⟨m + 1, sv, hml, by go_num, by rw [HL.out], Lib.hid (by rw [HL.out]; exact HD8.out), HA8⟩ | exact ⟨m + 1, hml, by go_num, by rw [HL.out], sv, Lib.hid (by rw [HL.out]; exact HD8.out)⟩
                        case measure => simp [intOf]; omega
              · have hpz : ((tagRaw s).part == 0) = false := by simpa using hp
                have HL := Lib.hid (HSC.out.trans (look_skip (b := ⟨ba, bg, bb, bs, bf⟩) (.inl hp)))
                clear HSC
                go_wp2
                go_roundw
                case rel => first | exact ⟨m + 1, bv, hml, by go_num, by rw [HL.out], Lib.hid (by rw [HL.out]; exact HD6.out), HA6⟩ | exact ⟨m + 1, hml, by go_num, by rw [HL.out], bv, Lib.hid (by rw [HL.out]; exact HD6.out)⟩
                case measure => simp [intOf]; omega
            · have hmr : m = row.length := by omega
              have HDE : Hid (LdI W wr E F (bestTo T.read L (a + 1)) bv) := Lib.hid (by rw [(HBN.out _).2 HIN.out, ← hmr]; exact HD.out)
              have HFE : Hid ((bestAt a A b0 row m).found = (bestTo T.read L (a + 1)).found) := Lib.hid (by rw [(HBN.out _).2 HIN.out, ← hmr])
              have hge2 : row.length ≤ m := by omega
              rw [HFE.out]
              clear hmr HD
              go_wp2
              go_roundw
              case rel => exact ⟨a + 1, bv, hlt, by go_num, rfl, HDE, HE1⟩
              case measure => simp [intOf]; omega
    · have ha2 : a = 2 := by omega
      rw [ha2] at HE HD
      have HRR := Lib.hid (HRES.out.symm.trans (loadC_ok HE.out))
      have hge : 2 ≤ a := by omega
      rw [ha2]
      generalize bestTo T.read L 2 = b at *
      obtain ⟨ba, bg, bb, bs, bf⟩ := b
      simp only [] at HRR ⊢
      clear ha2 HE HRES
      cases bf with
      | false =>
        go_wp2_with (refine stop_at (o := ⟨some 117, _, _, _, _, _⟩) ?_)
        refine Stop.mk ?_
        refine wpList_load_agg rfl _ rfl ty_found E 0 rfl _ (by simpa using Cells.of_block HD.out.best.1) rfl ?_
        refine wpList_store_agg rfl _ _ rfl ty_found F 0 rfl (bestVals ⟨ba, bg, bb, bs, false⟩ bv) rfl rfl (best_one HD.out.best.2) zeroF _ HD.out.fz (by decide) ?_
        intro w5 hw5
        replace hw5 := hw5.all rfl
        have HK5 := Lib.hid (hw5.kept HD.out.kept HD.out.ge.2.2)
        have HO5 := Lib.hid (own_same HD.out.best.2 fun g hg => hw5.oth g (own_ne HD.out.best.2 HD.out.fz (by decide) g hg))
        have HF5 := Lib.hid hw5.cells
        clear hw5 HD
        go_wp2
        refine bodyPost_ret (results_found rfl _ _ F _ rfl rfl HF5.out) rfl ?_
        exact ⟨bv, by rw [HRR.out]; rfl, by rw [HRR.out]; exact HO5.out, HK5.out⟩
      | true =>
        go_wp2_with (refine stop_at (o := ⟨some 118, _, _, _, _, _⟩) ?_)
        refine Stop.mk ?_
        refine wpList_load_agg rfl _ rfl ty_found E 0 rfl _ (by simpa using Cells.of_block HD.out.best.1) rfl ?_
        refine wpList_store_agg rfl _ _ rfl ty_found F 0 rfl (bestVals ⟨ba, bg, bb, bs, true⟩ bv) rfl rfl (best_one HD.out.best.2) zeroF _ HD.out.fz (by decide) ?_
        intro w5 hw5
        replace hw5 := hw5.all rfl
        have HK5 := Lib.hid (hw5.kept HD.out.kept HD.out.ge.2.2)
        have HO5 := Lib.hid (own_same HD.out.best.2 fun g hg => hw5.oth g (own_ne HD.out.best.2 HD.out.fz (by decide) g hg))
        have HF5 := Lib.hid hw5.cells
        clear hw5 HD
        go_wp2
        refine bodyPost_ret (results_found rfl _ _ F _ rfl rfl HF5.out) rfl ?_
        exact ⟨bv, by rw [HRR.out]; rfl, by rw [HRR.out]; exact HO5.out, HK5.out⟩
end
end Go.Proofs.YtpeclkhppgabfaaDoor
/- Rules: a literal of ints or of bytes; a slice of bytes to a string. -/
namespace Go.Proofs.YtpeclkhppgabfaaDoor
open Go.RowKit
set_option linter.unusedVariables false
set_option linter.unusedSimpArgs false

section
variable {ops : Array Oper} {rest : List Oper} {o : Oper} {a : Act} {w : World} {Q : Exit → Act → World → Prop}
theorem wpList_lit_ints (hg : o.guard = none) (n : Nat) (hn : 0 < n ∧ n ≤ 1000) (parts : Array (Nat × Operand)) (ho : o.op = .buildSlice 28 n parts) (xs : List Int)
    (hf : Instr.fill (fun i => some (i * 1, 1)) ((Array.range (n * 1)).map ((Value.int .i64 0).cells[· % (Value.int .i64 0).cells.size]!)) (parts.map fun (i, x) => (i, a.eval x)).toList = some (ints xs).toArray)
    (h : ∀ w1, Hid (w1.heap[w.heap.size]? = some (.cells (ints xs).toArray 3 (0, 0))) → w.heap.size < w1.heap.size → Kept w w1 → wpList Tryd.prog ops Q rest (a.put o.dst (.slice (some ⟨w.heap.size, 0, none⟩) n n)) w1) : wpList Tryd.prog ops Q (o :: rest) a w := by
  have h1 : (Tryd.prog.info? 3).map (fun i => (i.zero, i.size, i.bytes)) = some (some (.int .i64 0), 1, 8) := by kernel_rfl
  cases hi : Tryd.prog.info? 3 with
  | none => simp [hi] at h1
  | some i =>
    simp only [hi, Option.map_some, Option.some.injEq, Prod.mk.injEq] at h1
    exact wpList_buildSlice hg _ 3 n _ ho (ints xs).toArray i _ Tryd.underlying28 hi h1.1 (by rw [h1.2.1]; omega) (by rw [h1.2.1]; omega) (by rw [h1.2.1]; exact hf) (h _ (Lib.hid (heap_alloc_new w _)) (by simp) ((Kept.refl _).alloc _))
theorem wpList_lit_bytes (hg : o.guard = none) (n : Nat) (hn : 0 < n ∧ n ≤ 1000) (parts : Array (Nat × Operand)) (ho : o.op = .buildSlice 25 n parts) (xs : List Int)
    (hf : Instr.fill (fun i => some (i * 1, 1)) ((Array.range (n * 1)).map ((Value.int .u8 0).cells[· % (Value.int .u8 0).cells.size]!)) (parts.map fun (i, x) => (i, a.eval x)).toList = some (u8s xs).toArray)
    (h : ∀ w1, Hid (w1.heap[w.heap.size]? = some (.cells (u8s xs).toArray 5 (0, 0))) → w.heap.size < w1.heap.size → Kept w w1 → wpList Tryd.prog ops Q rest (a.put o.dst (.slice (some ⟨w.heap.size, 0, none⟩) n n)) w1) : wpList Tryd.prog ops Q (o :: rest) a w := by
  have h1 : (Tryd.prog.info? 5).map (fun i => (i.zero, i.size, i.bytes)) = some (some (.int .u8 0), 1, 1) := by kernel_rfl
  cases hi : Tryd.prog.info? 5 with
  | none => simp [hi] at h1
  | some i =>
    simp only [hi, Option.map_some, Option.some.injEq, Prod.mk.injEq] at h1
    exact wpList_buildSlice hg _ 5 n _ ho (u8s xs).toArray i _ Tryd.underlying25 hi h1.1 (by rw [h1.2.1]; omega) (by rw [h1.2.1]; omega) (by rw [h1.2.1]; exact hf) (h _ (Lib.hid (heap_alloc_new w _)) (by simp) ((Kept.refl _).alloc _))
end
/-- '[]byte("..")' -/
theorem wpList_str_bytes {ops : Array Oper} {rest : List Oper} {o1 o2 : Oper} {a : Act} {w : World} {Q : Exit → Act → World → Prop} (hg1 : o1.guard = none) (hg2 : o2.guard = none) (n : Nat) (hn : 0 < n ∧ n ≤ 1000) (parts : Array (Nat × Operand)) (ho1 : o1.op = .buildSlice 25 n parts) (x : Operand) (ho2 : o2.op = .convert 25 25 x) (xs : List Int)
    (hf : Instr.fill (fun i => some (i * 1, 1)) ((Array.range (n * 1)).map ((Value.int .u8 0).cells[· % (Value.int .u8 0).cells.size]!)) (parts.map fun (i, x) => (i, a.eval x)).toList = some (u8s xs).toArray)
    (hx : (a.put o1.dst (.slice (some ⟨w.heap.size, 0, none⟩) n n)).eval x = .slice (some ⟨w.heap.size, 0, none⟩) n n)
    (h : ∀ w1, Hid (Cells w1 w.heap.size 0 (u8s xs)) → w.heap.size < w1.heap.size → Kept w w1 → wpList Tryd.prog ops Q rest ((a.put o1.dst (.slice (some ⟨w.heap.size, 0, none⟩) n n)).put o2.dst (.slice (some ⟨w.heap.size, 0, none⟩) n n)) w1) : wpList Tryd.prog ops Q (o1 :: o2 :: rest) a w := by
  have h1 : (Tryd.prog.info? 5).map (fun i => (i.zero, i.size, i.bytes)) = some (some (.int .u8 0), 1, 1) := by kernel_rfl
  cases hi : Tryd.prog.info? 5 with
  | none => simp [hi] at h1
  | some i =>
    simp only [hi, Option.map_some, Option.some.injEq, Prod.mk.injEq] at h1
    refine wpList_buildSlice hg1 _ 5 n _ ho1 (u8s xs).toArray i _ Tryd.underlying25 hi h1.1 (by rw [h1.2.1]; omega) (by rw [h1.2.1]; omega) (by rw [h1.2.1]; exact hf) ?_
    refine wpList_plain hg2 fun K hK => ?_
    have hr := conv_const w (u8s xs).toArray n n
    unfold Oper.wp execOp
    simp only [ho2, hx, Sem.run_bind, hr, Result.andThen_ok, Sem.run_pure]
    refine hK _ _ (h _ (Lib.hid ?_) (by simp) ((Kept.refl _).alloc _))
    have := Cells.of_block (heap_alloc_new w (.cells (u8s xs).toArray 5 ((u8s xs).toArray.size, (u8s xs).toArray.size + 1)))
    simpa using this
def byU (l : List Int) : List UInt8 := l.map fun n => UInt8.ofNat n.toNat
/-- a string of such bytes -/
def strB (l : List Int) : ByteArray := ⟨(byU l).toArray⟩
theorem byU_at {n : Int} (h : IsByte n) : ((UInt8.ofNat n.toNat).toNat : Int) = n := by
  have h1 : n.toNat < 256 := by have := h.1; have := h.2; omega
  rw [UInt8.toNat_ofNat_of_lt' (by simpa using h1)]
  have := h.1; omega
theorem byU_inj : ∀ {l m : List Int}, (∀ x ∈ l, IsByte x) → (∀ x ∈ m, IsByte x) → byU l = byU m → l = m
  | [], [], _, _, _ => rfl
  | [], _ :: _, _, _, h => by simp [byU] at h
  | _ :: _, [], _, _, h => by simp [byU] at h
  | x :: l, y :: m, hl, hm, h => by
    simp only [byU, List.map_cons, List.cons.injEq] at h
    have e1 := byU_at (hl x (by simp))
    have e2 := byU_at (hm y (by simp))
    rw [h.1] at e1
    have e3 : x = y := e1.symm.trans e2
    rw [byU_inj (fun z hz => hl z (by simp [hz])) (fun z hz => hm z (by simp [hz])) h.2, e3]
theorem strB_toList (l : List Int) : (strB l).toList = byU l := by
  rw [Lib.toList_data]; simp [strB]
theorem strB_eq {l m : List Int} (hl : ∀ x ∈ l, IsByte x) (hm : ∀ x ∈ m, IsByte x) : ((strB l).toList == (strB m).toList) = decide (l = m) := by
  rw [strB_toList, strB_toList]
  by_cases e : l = m
  · rw [e]; simp
  · rw [decide_eq_false e]
    simp only [beq_eq_false_iff_ne, ne_eq]
    exact fun h => e (byU_inj hl hm h)
theorem conv_str {w : World} {v : Value} {l : List Int} (h : Src w 1 v l.length (u8s l)) (hb : ∀ x ∈ l, IsByte x) : (convert 25 9 v).run Tryd.prog w = .ok (.string (strB l)) w := by
  have hs : Tryd.prog.underlying 25 = some (.slice 5) := Tryd.underlying25
  have he : Tryd.prog.underlying 5 = some (.int .u8) := Tryd.underlying5
  have hd : Tryd.prog.underlying 9 = some .string := Tryd.underlying9
  obtain ⟨hl, ax, c, rfl, hcap, hno, hc⟩ := id h
  cases ax with
  | none =>
    have h0 := (hno rfl).1
    have := Lib.run_convert_nil_bytes (P := Tryd.prog) w 25 9 5 c hs he hd
    rw [h0, this, List.eq_nil_of_length_eq_zero h0]; rfl
  | some ad =>
    have hl2 : (byU l).length = l.length := by simp [byU]
    have := run_convert_bytes_back (P := Tryd.prog) w 25 9 5 ad c (byU l) hs he hd (fun j hj => by
      rw [hl2] at hj
      have h1 := hc ad rfl j (.int .u8 l[j]) (by simp [u8s, List.getElem?_eq_getElem hj])
      rw [h1]
      have h2 := byU_at (hb l[j] (List.getElem_mem hj))
      simp only [byU, List.getElem_map]
      rw [h2])
    rw [hl2] at this
    exact this
theorem wpList_conv_str {ops : Array Oper} {rest : List Oper} {o : Oper} {a : Act} {w : World} {Q : Exit → Act → World → Prop} (hgd : Region.wanted o (yielded ops a.tmps) = true) (x : Operand) (ho : o.op = .convert 25 9 x) (v : Value) (hx : a.eval x = v) (l : List Int) (hs : Src w 1 v l.length (u8s l)) (hb : ∀ x ∈ l, IsByte x)
    (h : wpList Tryd.prog ops Q rest (a.put o.dst (.string (strB l))) w) : wpList Tryd.prog ops Q (o :: rest) a w := by
  refine BigFrame.wpList_want hgd fun K hK => ?_
  have hr := conv_str hs hb
  unfold Oper.wp execOp
  simp only [ho, hx, Sem.run_bind, hr, Result.andThen_ok, Sem.run_pure]
  exact hK _ _ h
theorem own_src {w : World} {B e n : Nat} {v : Value} {xs : List Value} (h : w.ownsRow B e 1 v n xs) : Src w 1 v n xs := Src.of_app (.inl h)
theorem BK.ltR {w0 W : World} {R : Nat → Prop} {q : Nat} {T : BankT} (h : BK w0 R W q T) {B : Nat} (hB : R B) : B < W.heap.size := by
  obtain ⟨_, _, h⟩ := h
  exact (h.off B hB).1
theorem BK.pushR {w0 W W' : World} {l : List Nat} {q : Nat} {T : BankT} (h : BK w0 (fun k => k ∈ l) W q T) (hk : Kept W W') (B : Nat) (h1 : W.heap.size ≤ B) (h2 : B < W'.heap.size) : BK w0 (fun k => k ∈ B :: l) W' q T := by
  refine (h.more hk B h1 h2).less fun k hk => ?_
  rcases List.mem_cons.1 hk with h | h
  · exact .inr h
  · exact .inl h
end Go.Proofs.YtpeclkhppgabfaaDoor
