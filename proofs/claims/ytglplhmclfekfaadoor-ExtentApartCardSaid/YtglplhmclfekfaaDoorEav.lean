/- ExtentApart: the walk (gen_apart.py). -/
import Derived.Test.YtglplhmclfekfaaDoorEax
import Derived.Test.YtglplhmclfekfaaDoorEdk
import Derived.Test.YtglplhmclfekfaaDoorText
import Derived.Deep.CutBlock
import Derived.BigQuiet
namespace Go.Proofs.YtglplhmclfekfaaDoor
open Go.RowKit Go.ChangeMaps Go.MapKept
set_option linter.unusedVariables false
set_option linter.unusedSimpArgs false
theorem XO.at_ {w0 W : World} {R : Nat → Prop} {q : Nat} {E : XT} (h : XO w0 R W q E) : ∃ S, XAt W q S E := by
  obtain ⟨S, h, _⟩ := h; exact ⟨S, h⟩
section
set_option maxHeartbeats 8000000
set_option maxRecDepth 100000
set_option pp.deepTerms true
set_option pp.maxSteps 1000000
theorem apart_walk (v : Value) (l : List Int) (v2 : Value) (l2 : List Int) (w0 : World) (hs : ISl w0 v l) (hs2 : ISl w0 v2 l2) (hT : DbAt w0) : Calls Tryd.prog 3 #[v, v2] w0 fun e w' => e = .returned (.bool true) ∧ Kept w0 w' := by
  have HT0 := Lib.hid hT; have HS0 := Lib.hid hs; have HZ0 := Lib.hid hs2
  obtain ⟨oa, cap, rfl, _, hmx, _⟩ := hs
  obtain ⟨oa2, cap2, rfl, _, hmx2, _⟩ := hs2
  have hll : l.length ≤ 9223372036854775807 := by simp only [maxLen] at hmx; omega
  have hll2 : l2.length ≤ 9223372036854775807 := by simp only [maxLen] at hmx2; omega
  clear hT hmx hmx2
  go_enter Tryd.func3, Tryd.ntmps3
  go_wp2_with fail
  refine Calls.mono (law_shown w0 HT0.out) ?_
  rintro e w ⟨rfl, hk⟩
  have HK := Lib.hid hk
  have HT := Lib.hid (HT0.out.kept hk)
  have HS := Lib.hid (HS0.out.kept hk)
  have HZ := Lib.hid (HZ0.out.kept hk)
  clear hk HT0 HS0 HZ0
  go_wp2_with fail
  refine Calls.mono (xo_New w w (Kept.refl w)) ?_
  rintro e w2 ⟨q, rfl, hx2, _⟩
  have HX2 : Hid (XO w (fun _ => False) w2 q (eM [] (memF []))) := Lib.hid (by have := hx2.less (R' := fun _ => False) (fun _ h => h.elim); rwa [eM_nil] at this)
  obtain ⟨B, hB⟩ : ∃ B, B = w.heap.size := ⟨_, rfl⟩
  have HB : Hid (w.heap.size ≤ B ∧ B ≤ w.heap.size) := Lib.hid (by omega)
  clear hx2 hB
  go_upto_block 0 with fail
  go_cut [7] (fun sv wc => ∃ (vs : Value) (zs L : List Nat), vs = sv ∧ L.length ≤ 6 ∧ Hid (SzOk zs L) ∧ Hid (XO w (fun _ => False) wc q (eM L (memF []))) ∧ Hid (wc.ownsRow B 3 1 vs zs.length (natV zs)))
  case first =>
    go_wp2
    go_loopw [7, 8] (fun sv i wr => ∃ (vs : Value) (zs L : List Nat) (k : Nat), vs = sv ∧ i = .int .i64 k ∧ k ≤ l.length ∧ k ≤ 6 ∧ L.length = k ∧ Hid (SzOk zs L) ∧ Hid (XO w (fun _ => False) wr q (eM L (memF []))) ∧ Hid (wr.ownsRow B 3 1 vs zs.length (natV zs))) (fun _ i _ => l.length - (intOf i).toNat)
    case atStart => exact ⟨_, [], [], 0, rfl, rfl, by omega, by omega, rfl, Lib.hid SzOk.nil, HX2, Lib.hid (World.ownsRow_nil _ _ _ _)⟩
    case round =>
      clear HX2
      obtain ⟨vs, zs, L, k, rfl, rfl, hk, hk6, hL, HOK, HX, HR⟩ := hrel
      by_cases hc : k < l.length ∧ k < 6
      · obtain ⟨hlt, h6⟩ := hc
        obtain ⟨b, off, rfl, hcell⟩ := (HS.out.kept HX.out.keeps).at k hlt
        obtain ⟨y, z, n, hand, hm, ht, hz, hcn, hn, hfit⟩ := size500 l[k]
        generalize l[k] = xk at *
        have HCN := Lib.hid hcn
        have HFIT := Lib.hid hfit
        have HLL := Lib.hid hL
        clear hcn hfit hL
        go_wp2_with (refine stop_at (o := ⟨some 43, _, _, _, _, _⟩) ?_)
        refine Stop.mk ?_
        refine wpList_one_int rfl _ rfl (z : Int) rfl ?_
        intro w5 hz5 hs5 hk5
        have HX5 := Lib.hid (HX.out.kept hk5).1
        have HR5 := Lib.hid (ownsRow_kept HR.out hk5)
        have HC5 := Lib.hid (by simpa using Cells.of_block hz5.out : Cells w5 _ 0 [Value.int .i64 (z : Int)])
        clear hz5 hs5 hk5 hcell HX HR
        generalize wr.heap.size = B43 at *
        go_wp2_with (refine stop_at (o := ⟨some 44, _, _, _, _, _⟩) ?_)
        refine Stop.mk ?_
        refine wpList_append_size rfl _ _ rfl HX5.out HR5.out HB.out.1 (Nat.le_trans HB.out.2 HX5.out.keeps.size) (by rw [HOK.out.len, HLL.out]; omega) rfl B43 z rfl HC5.out ?_
        intro v6 w6 hx6 hr6
        have HOK6 := Lib.hid (HOK.out.snoc hz HCN.out hn HFIT.out)
        have hadd := xo_Add hx6.some_ (k : Int) z n (by omega) hz HCN.out (by have := eM_out L (memF []) L.length (Nat.le_refl _); rwa [HLL.out] at this)
        rw [← HLL.out, eM_push, HLL.out] at hadd
        have HADD := Lib.hid hadd
        have HR6 := Lib.hid hr6
        clear hx6 hr6 hadd HX5 HR5 HC5 HOK HCN HFIT
        go_wp2_with fail
        refine Calls.mono HADD.out ?_
        rintro e w7 ⟨rfl, hx7, hr7⟩
        have HX7 := Lib.hid (hx7.less (R' := fun _ => False) (fun _ h => h.elim))
        have HR7 := Lib.hid (row_same HR6.out oth_int hr7)
        have HA2 := Lib.hid (xo_Add_state hx7 (k : Int) (z : Int) (by omega) (by omega) (by omega) (by have := eM_at (L ++ [n]) (memF []) k (by rw [List.length_append, HLL.out, List.length_singleton]; omega); exact this))
        clear hx7 hr7 HR6 HADD
        go_wp2_with fail
        refine Calls.mono HA2.out ?_
        rintro e w' ⟨rfl, rfl⟩
        clear HA2
        go_wp2
        go_roundw
        case rel => exact ⟨_, zs ++ [z], L ++ [n], k + 1, rfl, by go_num, by omega, by omega, by rw [List.length_append, HLL.out]; rfl, HOK6, HX7, HR7⟩
        case measure => simp [intOf]; omega
      · have hkk : l.length ≤ k ∨ (k < l.length ∧ 6 ≤ k) := by omega
        clear hc
        rcases hkk with hkk | ⟨hkk, h6⟩
        all_goals
          go_wp2
          go_meet
          case rel => exact ⟨_, zs, L, rfl, by omega, HOK, HX, HR⟩
  case rest =>
    clear HX2 HS
    obtain ⟨vs, zs, L, rfl, hL6, HOK, HX, HR⟩ := hcut
    obtain ⟨ao, cs, rfl⟩ := row_form HR.out
    obtain ⟨nL, hnL⟩ : ∃ nL, L.length = nL := ⟨_, rfl⟩
    have HNL := Lib.hid hnL
    rw [HOK.out.len, hnL] at HR ⊢
    rw [hnL] at hL6
    clear hnL
    by_cases hn0 : nL = 0
    · have hz0 : ((nL : Int) == 0) = true := by simp [hn0]
      have hLn : L = [] := List.eq_nil_of_length_eq_zero (by rw [HNL.out]; exact hn0)
      obtain ⟨S, hS⟩ := HX.out.at_
      have hnone : ∀ n, ¬ (eM L (memF []) n ≠ none) := fun n hn => hn (by rw [hLn]; unfold eM; rw [if_neg]; rintro ⟨h1, h2⟩; simp at h2; omega)
      have HDK := Lib.hid (ext_Disks hS [] (fun n hn => (hnone n hn).elim) (by decide))
      have HNO := Lib.hid hnone
      clear hS hLn hnone hn0 HR HNL
      go_wp2_with fail
      refine Calls.mono HDK.out ?_
      rintro e w5 ⟨vd, ks, rfl, hmem, _, _, hnil, hk5⟩
      have hks : ks = [] := by
        cases ks with
        | nil => rfl
        | cons x ks => exact (HNO.out x ((hmem x).1 (by simp))).elim
      obtain rfl := hnil.2 hks
      have HK5 := Lib.hid (HK.out.trans (HX.out.keeps.trans hk5))
      clear hmem hnil hk5 hks HDK HX
      go_wp2
      go_ret
      exact ⟨rfl, HK5.out⟩
    · have hz0 : ((nL : Int) == 0) = false := by simp; omega
      have hnp : 0 < nL := by omega
      have hnz : ¬ ((nL : Int) = 0) := by omega
      have hnm1 : ((nL : Int) == -1) = false := by first | (simp; done) | (simp; omega)
      have HX4 := HX
      obtain ⟨wz, rfl⟩ : ∃ wz, wz = wc := ⟨_, rfl⟩
      clear hn0 HX
      go_upto_block 2 with fail
      go_cut [10] (fun hv wc => ∃ (vh : Value) (H : List (Nat × Nat)), vh = hv ∧ H.length ≤ 200 ∧ Hid (H.Nodup ∧ Mem L H) ∧ Hid (XO w (fun _ => False) wc q (eM L (memF H))) ∧ Hid (HeldA wc B vh H) ∧ Hid (wc.ownsRow B 3 1 (.slice ao nL cs) nL (natV zs)))
      case first =>
        go_wp2
        go_loopw [10, 11] (fun hv i wr => ∃ (vh : Value) (H : List (Nat × Nat)) (k : Nat), vh = hv ∧ i = .int .i64 k ∧ k ≤ l2.length ∧ k ≤ 200 ∧ H.length ≤ k ∧ Hid (H.Nodup ∧ Mem L H) ∧ Hid (XO w (fun _ => False) wr q (eM L (memF H))) ∧ Hid (HeldA wr B vh H) ∧ Hid (wr.ownsRow B 3 1 (.slice ao nL cs) nL (natV zs))) (fun _ i _ => l2.length - (intOf i).toNat)
        case atStart => exact ⟨_, [], 0, rfl, rfl, by omega, by omega, by simp, Lib.hid ⟨List.nodup_nil, fun x hx => by cases hx⟩, HX4, Lib.hid (.inr (World.ownsRow_nil _ _ _ _)), HR⟩
        case round =>
          clear HX4 HR
          obtain ⟨vh, H, k, rfl, rfl, hk, hk2, hHk, HNM, HX, HH, HR⟩ := hrel
          by_cases hc : k < l2.length ∧ k < 200
          · obtain ⟨hlt, h200⟩ := hc
            obtain ⟨b, off, rfl, hcell⟩ := (HZ.out.kept HX.out.keeps).at k hlt
            obtain ⟨y, hand, hyl⟩ := and_i64 l2[k] 24 (by decide) (m := 16777215) (by decide)
            have hy24 : y < 16777216 := hyl
            obtain ⟨r, hr3, _⟩ := and_i64 (y : Int) 2 (by decide) (m := 3) (by decide)
            obtain ⟨y2, hy2⟩ : ∃ y2, y2 = y / 4 := ⟨_, rfl⟩
            have hsh : (y : Int) / 4 = (y2 : Int) := by omega
            have hsh2 : (y : Int) / 2 ^ 2 = (y2 : Int) := by omega
            clear hyl hy2
            generalize l2[k] = xk at *
            obtain ⟨ah, ch, rfl⟩ := HH.out.form
            obtain ⟨nH, hnH⟩ : ∃ nH, H.length = nH := ⟨_, rfl⟩
            have HNH := Lib.hid hnH
            rw [hnH] at HH hHk ⊢
            clear hnH
            by_cases hback : r = 0 ∧ 0 < nH
            · obtain ⟨hr0, hH0⟩ := hback
              have hrt : ((r : Int) == 0) = true := by simp [hr0]
              have hH0i : (0 : Int) < (nH : Int) := by omega
              obtain ⟨kk, hkk⟩ : ∃ kk, kk = y2 % nH := ⟨_, rfl⟩
              have hkl : kk < nH := by rw [hkk]; exact Nat.mod_lt _ hH0
              have hmd : (y2 : Int) % (nH : Int) = (kk : Int) := by rw [hkk]; first | done | rfl | norm_cast
              have hmt : (y2 : Int).tmod (nH : Int) = (kk : Int) := by rw [Int.tmod_eq_emod_of_nonneg (by omega)]; exact hmd
              have hHz : ¬ ((nH : Int) = 0) := by omega
              have hHm : ((nH : Int) == -1) = false := by first | (simp; done) | (simp; omega)
              have hHz2 : ((nH : Int) == 0) = false := by simp; omega
              have hkH : kk < H.length := by rw [HNH.out]; exact hkl
              have hne : H ≠ [] := by intro e; rw [e] at hkH; cases hkH
              have HHD := Lib.hid (HH.out.held hne)
              obtain ⟨g, cap3, cur, hv3, hBg, hbg, hcap3, hcm3, _⟩ := HHD.out.owns hne
              injection hv3 with ha3 hl3 hc3
              subst ha3; subst hc3
              clear hl3
              clear hr0 hkk hne hbg
              have HHD' : Hid (Held wr B (.slice (some ⟨g, 0, none⟩) nH ch) H) := HHD
              obtain ⟨hc0, hc1⟩ := HHD'.out.at kk hkH
              have hmk := HNM.out.2 _ (List.getElem_mem hkH)
              have hf1 := free_at HNM.out.1 HNM.out.2 hkH
              have hf2 := free_again HNM.out.1 HNM.out.2 hkH
              have hj500 : H[kk].2 < 500 := Nat.lt_of_lt_of_le hmk.2 ((HOK.out.at_ _ hmk.1).2.2.1)
              have hd6 : H[kk].1 < 6 := by have := hmk.1; rw [HNL.out] at this; omega
              clear hmk HHD
              obtain ⟨dd, hdd⟩ : ∃ dd, H[kk].1 = dd := ⟨_, rfl⟩
              obtain ⟨jj, hjj⟩ : ∃ jj, H[kk].2 = jj := ⟨_, rfl⟩
              rw [hdd] at hc0 hf1 hf2 hd6
              rw [hjj] at hc1 hf1 hf2 hj500
              have HDJ := Lib.hid (And.intro hdd hjj)
              clear hdd hjj
              have hfr := xo_Free HX.out.some_ (dd : Int) (114 + (jj : Int) * 8) (by omega) (by omega)
              rw [hf1] at hfr
              have HFR := Lib.hid hfr
              have HF2 := Lib.hid hf2
              clear hfr hf1 hf2 HX
              have hcap0 := hcap3
              go_wp2_with fail
              refine Calls.mono HFR.out ?_
              rintro e w5 ⟨rfl, hx5, hr5⟩
              have HX5 := Lib.hid (hx5.less (R' := fun _ => False) (fun _ h => h.elim))
              have HH5 := Lib.hid (HH.out.same hr5)
              have HR5 := Lib.hid (row_same HR.out oth_int hr5)
              have hd5 : Held w5 B (.slice (some ⟨g, 0, none⟩) nH ch) H := HH5.out.held (by intro e; rw [e] at hkH; cases hkH)
              obtain ⟨d0, d1⟩ := hd5.at kk hkH
              rw [HDJ.out.1] at d0
              rw [HDJ.out.2] at d1
              clear hc0 hc1 hx5 hr5 HFR HH HR HHD' hcell
              have hfr := xo_Free HX5.out.some_ (dd : Int) (114 + (jj : Int) * 8) (by omega) (by omega)
              rw [HF2.out] at hfr
              have HFR := Lib.hid hfr
              have HD5 := Lib.hid hd5
              clear hfr hd5
              go_wp2_with fail
              refine Calls.mono HFR.out ?_
              rintro e w6 ⟨rfl, hx6, hr6⟩
              have HX6 := Lib.hid (hx6.less (R' := fun _ => False) (fun _ h => h.elim))
              have HH6 := Lib.hid (HH5.out.same hr6)
              have HR6 := Lib.hid (row_same HR5.out oth_int hr6)
              have HC6 := Lib.hid ((HH6.out.held (by intro e; rw [e] at hkH; cases hkH) : Held w6 B (.slice (some ⟨g, 0, none⟩) nH ch) H).cells rfl)
              clear d0 d1 hx6 hr6 HFR HX5 HH5 HR5 HD5 HF2
              go_upto_region 24 with fail
              have hwz6 : B ≤ w6.heap.size := Nat.le_trans HB.out.2 HX6.out.keeps.size
              have hS : True := trivial
              have hkw : IntKind.i64.wrap ((kk : Int) + 1) = (kk : Int) + 1 := IntWalk.i64_in _ (by omega)
              have hkt : ((kk : Int) + 1).toNat = kk + 1 := by omega
              obtain ⟨ax, hax⟩ : ∃ ax : Option Addr, ax = if ch = kk + 1 then some ⟨g, 0, none⟩ else some ⟨g, (kk + 1) * 2, none⟩ := ⟨_, rfl⟩
              have HAX := Lib.hid hax; clear hax
              refine wp_region_calm ?_
              refine wp_region_E (fun _ => True) 100 (by kernel_rfl) ?_
              refine wpAnyE_take (i := 1) (v := ?_) (listed' := #[false, true, false, false, false, false, false, false, false, false, false]) (by rfl) (by kernel_rfl) (by kernel_rfl) calm_put hS (by rfl) ?_ ?_
              rotate_left
              · intro W hW; clear hW; go_simp; try (with_reducible rfl)
              simp only [Act.put, List.getElem_toArray, List.getElem_cons_succ, List.getElem_cons_zero, List.setIfInBounds_toArray, List.set_cons_zero, List.set_cons_succ]
              refine wpAnyE_take (i := 2) (v := ?_) (listed' := #[false, true, true, false, false, false, false, false, false, false, false]) (by rfl) (by kernel_rfl) (by kernel_rfl) calm_put hS (by rfl) ?_ ?_
              rotate_left
              · intro W hW; clear hW; go_simp; try (with_reducible rfl)
              simp only [Act.put, List.getElem_toArray, List.getElem_cons_succ, List.getElem_cons_zero, List.setIfInBounds_toArray, List.set_cons_zero, List.set_cons_succ]
              refine wpAnyE_take (i := 3) (v := ?_) (listed' := #[false, true, true, true, false, false, false, false, false, false, false]) (by rfl) (by kernel_rfl) (by kernel_rfl) calm_put hS (by rfl) ?_ ?_
              rotate_left
              · intro W hW; clear hW; go_simp; rw [if_pos (show kk ≤ ch by omega)]
              simp only [Act.put, List.getElem_toArray, List.getElem_cons_succ, List.getElem_cons_zero, List.setIfInBounds_toArray, List.set_cons_zero, List.set_cons_succ]
              refine wpAnyE_take (i := 5) (v := ?_) (listed' := #[false, true, true, true, false, true, false, false, false, false, false]) (by rfl) (by kernel_rfl) (by kernel_rfl) calm_put hS (by rfl) ?_ ?_
              rotate_left
              · intro W hW; clear hW; go_simp; try (with_reducible rfl)
              simp only [Act.put, List.getElem_toArray, List.getElem_cons_succ, List.getElem_cons_zero, List.setIfInBounds_toArray, List.set_cons_zero, List.set_cons_succ]
              refine wpAnyE_take (i := 6) (v := ?_) (listed' := #[false, true, true, true, false, true, true, false, false, false, false]) (by rfl) (by kernel_rfl) (by kernel_rfl) calm_put hS (by rfl) ?_ ?_
              rotate_left
              · intro W hW; clear hW; go_simp; try (with_reducible rfl)
              simp only [Act.put, List.getElem_toArray, List.getElem_cons_succ, List.getElem_cons_zero, List.setIfInBounds_toArray, List.set_cons_zero, List.set_cons_succ]
              refine wpAnyE_take (i := 7) (v := ?_) (listed' := #[false, true, true, true, false, true, true, true, false, false, false]) (by rfl) (by kernel_rfl) (by kernel_rfl) calm_put hS (by rfl) ?_ ?_
              rotate_left
              · intro W hW; clear hW; go_simp; first | (with_reducible rfl) | exact Eq.refl _ | (simp only [hkw]; exact Eq.refl _)
              simp only [Act.put, List.getElem_toArray, List.getElem_cons_succ, List.getElem_cons_zero, List.setIfInBounds_toArray, List.set_cons_zero, List.set_cons_succ]
              refine wpAnyE_take (i := 8) (v := ?_) (listed' := #[false, true, true, true, false, true, true, true, true, false, false]) (by rfl) (by kernel_rfl) (by kernel_rfl) calm_put hS (by rfl) ?_ ?_
              rotate_left
              · intro W hW; clear hW; go_simp; rw [if_pos (show (0 : Int) ≤ (kk : Int) + 1 ∧ (kk : Int) + 1 ≤ (nH : Int) from ⟨by omega, by omega⟩), ← HAX.out]
              simp only [Act.put, List.getElem_toArray, List.getElem_cons_succ, List.getElem_cons_zero, List.setIfInBounds_toArray, List.set_cons_zero, List.set_cons_succ]
              refine wpAnyE_one (i := 0) (listed' := #[true, true, true, true, false, true, true, true, true, false, false]) (by rfl) (by kernel_rfl) (by kernel_rfl) (by rfl) (fun K hK => ?_)
              simp only [Act.put, List.getElem_toArray, List.getElem_cons_succ, List.getElem_cons_zero, List.setIfInBounds_toArray, List.set_cons_zero, List.set_cons_succ]
              go_wp2_with fail
              refine hK _ _ (fun _ => trivial) ?_; clear hK K
              have hk7 : Kept w6 (w6.alloc (Obj.cells #[] 33)).drew := ((Kept.refl w6).alloc _).drew
              generalize (w6.alloc (Obj.cells #[] 33)).drew = w7 at *
              refine wpAnyE_one (i := 4) (listed' := #[true, true, true, true, true, true, true, true, true, false, false]) (by rfl) (by kernel_rfl) (by kernel_rfl) (by rfl) (fun K hK => ?_)
              simp only [Act.put, List.getElem_toArray, List.getElem_cons_succ, List.getElem_cons_zero, List.setIfInBounds_toArray, List.set_cons_zero, List.set_cons_succ]
              refine wp_append_app _ _ (by rfl) ty_exts w7.heap.size _ 0 [] (by rfl) (.inr ⟨rfl, _, rfl, by simp, by simp⟩) _ kk (exs (H.take kk)) (by rfl) (Src.of_cells (exs_prefix (Cells.kept HC6.out hk7) kk (by omega)) (by rw [exs_length, List.length_take]; omega) (by omega)) (exs_one _) (by simp only [maxLen]; omega) (by omega) (Nat.le_refl _) ?_
              intro v8 w8 hA8 _ hb8 hown8
              have hk8 : Kept w7 w8 := hb8
              refine hK _ _ (fun _ => trivial) ?_; clear hK K
              refine wpAnyE_one (i := 9) (listed' := #[true, true, true, true, true, true, true, true, true, true, false]) (by rfl) (by kernel_rfl) (by kernel_rfl) (by rfl) (fun K hK => ?_)
              simp only [Act.put, List.getElem_toArray, List.getElem_cons_succ, List.getElem_cons_zero, List.setIfInBounds_toArray, List.set_cons_zero, List.set_cons_succ]
              have hsx : Src w8 2 (.slice ax (nH - (kk + 1)) (ch - (kk + 1))) (nH - (kk + 1)) (exs (H.drop (kk + 1))) := by
                have h := suffix_src (Cells.kept HC6.out (hk7.trans hk8)) hkH (cap := ch) hcap0
                rw [HNH.out, ← HAX.out] at h; exact h
              refine wp_append_app _ _ (by rfl) ty_exts w7.heap.size _ (0 + kk) _ (by rfl) hA8 _ (nH - (kk + 1)) (exs (H.drop (kk + 1))) (by rfl) hsx (exs_one _) (by simp only [maxLen]; omega) (by omega) hk8.size ?_
              intro v9 w9 hA9 _ hb9 hown9
              rw [← HNH.out] at hA9 hown9
              have hk9 : Kept w6 w9 := Kept.below (hk7.trans hk8) hk7.size hb9
              have HX9 := Lib.hid (HX6.out.kept hk9).1
              have HH9 : Hid (HeldA w9 B v9 (H.eraseIdx kk)) := Lib.hid (HeldA.spliced (Nat.le_trans hwz6 hk7.size) hkH hA9 hown8 hown9)
              have HR9 := Lib.hid (ownsRow_kept HR6.out hk9)
              refine hK _ _ (fun _ => trivial) ?_; clear hK K
              refine wpAnyE_one (i := 10) (listed' := #[true, true, true, true, true, true, true, true, true, true, true]) (by rfl) (by kernel_rfl) (by kernel_rfl) (by rfl) (fun K hK => ?_)
              simp only [Act.put, List.getElem_toArray, List.getElem_cons_succ, List.getElem_cons_zero, List.setIfInBounds_toArray, List.set_cons_zero, List.set_cons_succ]
              go_wp2_with fail
              refine hK _ _ (fun _ => trivial) ?_; clear hK K
              refine wpAnyE_done (by kernel_rfl) ?_ _
              refine calm_normal ?_

              clear hS
              go_wp2
              go_roundw
              case rel => exact ⟨_, H.eraseIdx kk, k + 1, rfl, by go_num, by omega, by omega, by rw [List.length_eraseIdx, if_pos hkH, HNH.out]; omega, Lib.hid ⟨nodup_erase HNM.out.1 kk, HNM.out.2.erase kk⟩, HX9, HH9, HR9⟩
              case measure => simp [intOf]; omega
            · have hrt : (((r : Int) == 0) = false) ∨ (((r : Int) == 0) = true ∧ ¬ (0 : Int) < (nH : Int) ∧ ¬ 0 < nH) := by
                by_cases e : r = 0
                · exact .inr ⟨by simp [e], by omega, by omega⟩
                · exact .inl (by simp; omega)
              obtain ⟨d, hd⟩ : ∃ d, d = y2 % nL := ⟨_, rfl⟩
              have hdl : d < nL := by rw [hd]; exact Nat.mod_lt _ hnp
              have hmd : (y2 : Int) % (nL : Int) = (d : Int) := by rw [hd]; first | done | rfl | norm_cast
              have hmt : (y2 : Int).tmod (nL : Int) = (d : Int) := by rw [Int.tmod_eq_emod_of_nonneg (by omega)]; exact hmd
              have hdL : d < L.length := by rw [HNL.out]; exact hdl
              obtain ⟨rm, hrm⟩ : ∃ rm, roomX (eM L (memF H)) (d : Int) = rm := ⟨_, rfl⟩
              have hroom := xo_Room HX.out (d : Int)
              rw [hrm] at hroom
              have HRM := Lib.hid hrm
              have HROOM := Lib.hid hroom
              have htk := xo_Take HX.out.some_ HT.out (d : Int)
              have HTK := Lib.hid htk
              have hd200 : decide ((k : Int) < 200) = true := decide_eq_true (by omega)
              clear hback hd hrm hroom htk
              go_upto_region 20 with fail
              obtain ⟨wd, rfl⟩ : ∃ wd, wd = wr := ⟨_, rfl⟩
              go_cut [89] from 82 to 89 (fun tv wc => Hid (wc = wd) ∧ tv = .bool false)
              case first =>
                rcases hrt with hrt | ⟨hrt, hnh, hnhN⟩
                · go_wp2
                  go_meet
                  case rel => exact ⟨Lib.hid rfl, rfl⟩
                · go_wp2
                  go_meet
                  case rel => exact ⟨Lib.hid rfl, rfl⟩
              case rest =>
              obtain ⟨HW, rfl⟩ := hcut
              obtain rfl := HW.out
              clear hrt hcell HW hd200
              go_wp2_with fail
              refine Calls.mono HROOM.out ?_
              rintro e w' ⟨rfl, rfl⟩
              go_wp2_with fail
              refine Calls.mono HTK.out ?_
              rintro e w5 ⟨vx, E5, rfl, ht, hx5, hr5⟩
              have HH5 := Lib.hid (HH.out.same hr5)
              have HR5 := Lib.hid (row_same HR.out oth_int hr5)
              have hx5' := hx5.less (R' := fun _ => False) (fun _ h => h.elim)
              rcases take_at hdL ht with ⟨h0, rfl, rfl⟩ | ⟨h0, i, hi, hnew, rfl, rfl⟩
              · have hrm0 : rm = 0 := by rw [← HRM.out]; exact h0
                have HX5 := Lib.hid hx5'
                subst hrm0
                clear ht h0 hx5 hx5' hr5 HX HH HR HROOM HTK HRM
                simp only [extV, exV]
                go_wp2_with (refine stop_at (o := ⟨some 16, _, _, _, _, _⟩) ?_)
                refine Stop.mk ?_
                refine wpList_new_agg rfl rfl _ _ rfl rfl ty_ext [Value.int .i64 0, .int .i64 0] zero_ext rfl [Value.int .i64 0, .int .i64 0] rfl rfl (by simp [Value.oneCell']) rfl ?_
                intro w6 hz6 hs6 hk6
                have HX6 := Lib.hid (HX5.out.kept hk6).1
                have HH6 := Lib.hid (HH5.out.kept hk6)
                have HR6 := Lib.hid (ownsRow_kept HR5.out hk6)
                clear hz6 hs6 hk6 HX5 HH5 HR5
                go_wp2
                go_roundw
                case rel => exact ⟨_, H, k + 1, rfl, by go_num, by omega, by omega, by rw [HNH.out]; omega, HNM, HX6, HH6, HR6⟩
                case measure => simp [intOf]; omega
              · have hrmp : (0 : Int) < (rm : Int) := by rw [HRM.out] at h0; omega
                have hrmN : 0 < rm := by omega
                obtain ⟨hz4, hcnt, hn5, hfit⟩ := HOK.out.at_ d hdL
                have hz114 : 114 + 8 * i + 8 ≤ zs.getD d 0 := by omega
                have hi500 : i < 500 := by omega
                have HX5 := Lib.hid hx5'
                have HI := Lib.hid hi
                have HNEW := Lib.hid hnew
                have hhas := has_new (H := H) hdL hi
                have htak := taken_new (H := H) hdL hi
                have HHAS := Lib.hid hhas
                have HTAK := Lib.hid htak
                clear ht h0 hx5 hx5' hr5 hcnt hn5 hfit hhas htak hi hnew HX HH HR HROOM HTK HRM
                simp only [extV, exV]
                go_wp2_with (refine stop_at (o := ⟨some 16, _, _, _, _, _⟩) ?_)
                refine Stop.mk ?_
                refine wpList_new_agg rfl rfl _ _ rfl rfl ty_ext [Value.int .i64 0, .int .i64 0] zero_ext rfl [Value.int .i64 (d : Int), .int .i64 (114 + (i : Int) * 8)] rfl rfl (by simp [Value.oneCell']) rfl ?_
                intro w6 hz6 hs6 hk6
                have HX6 := Lib.hid (HX5.out.kept hk6).1
                have HH6 := Lib.hid (HH5.out.kept hk6)
                have HR6 := Lib.hid (ownsRow_kept HR5.out hk6)
                have HZ6 := hz6
                generalize w5.heap.size = bx at *
                clear hz6 hs6 hk6 HX5 HH5 HR5
                obtain ⟨gz, cz, hvz, _⟩ := row_at (by have := HR6.out; rw [← HNL.out, ← HOK.out.len] at this; exact this) (k := d) (by rw [HOK.out.len]; exact hdL)
                injection hvz with haz hvz2 hvz3
                subst haz
                clear hvz2 hvz3
                obtain ⟨zd, hzd⟩ : ∃ zd, zs.getD d 0 = zd := ⟨_, rfl⟩
                have hcz : ∀ W : World, W.ownsRow B 3 1 (.slice (some ⟨gz, 0, none⟩) nL cs) nL (natV zs) → W.cell? ⟨gz, d, none⟩ = some (.int .i64 (zd : Int)) := fun W h => by
                  obtain ⟨g', c', hv', hc'⟩ := row_at (by rw [← HNL.out, ← HOK.out.len] at h; exact h) (k := d) (by rw [HOK.out.len]; exact hdL)
                  injection hv' with ha' _ _
                  injection ha' with ha'
                  injection ha' with ha' _ _
                  subst ha'
                  rw [hzd] at hc'; exact hc'
                have HCZ := Lib.hid hcz
                have hxc : ∀ W : World, W.heap[bx]? = some (.cells [Value.int .i64 (d : Int), .int .i64 (114 + (i : Int) * 8)].toArray 33 (0, 0)) → W.cell? ⟨bx, 0, none⟩ = some (.int .i64 (d : Int)) ∧ W.cell? ⟨bx, 1, none⟩ = some (.int .i64 (114 + (i : Int) * 8)) := fun W h => ⟨cell_of_row _ _ 0 _ _ _ h, cell_of_row _ _ 1 _ _ _ h⟩
                have HXC := Lib.hid hxc
                have f1 : ((d : Int) != (d : Int)) = false := by simp
                have f3 : ¬ (zd : Int) < 114 + (i : Int) * 8 + 8 := by rw [hzd] at hz114; omega
                have f4 : ¬ (114 + (i : Int) * 8 : Int) < 114 := by omega
                have hz4' : zd ≤ 4096 := by rw [hzd] at hz4; exact hz4
                clear hzd hcz hxc hz114 hz4
                go_upto_region 31 with fail
                have hdr := (Kept.refl w6).drew
                have HXD := Lib.hid (HX6.out.kept hdr).1
                have HHD := Lib.hid (HH6.out.kept hdr)
                have HRD := Lib.hid (ownsRow_kept HR6.out hdr)
                have HZD := Lib.hid (hdr.block HZ6.out)
                have hS0 := And.intro (HXC.out _ HZD.out) (HCZ.out _ HRD.out)
                have hhs := xo_Has HXD.out.some_ (d : Int) (114 + (i : Int) * 8) (by omega) (by omega)
                rw [HHAS.out] at hhs
                have HHS := Lib.hid hhs
                have hS := hS0
                clear hdr hhs HX6 HH6 HR6 HZ6 hS0
                refine wp_region_calm ?_
                refine wp_region_E (fun (W : World) => (W.cell? ⟨bx, 0, none⟩ = some (Value.int .i64 (d : Int)) ∧ W.cell? ⟨bx, 1, none⟩ = some (Value.int .i64 (114 + (i : Int) * 8))) ∧ W.cell? ⟨gz, d, none⟩ = some (Value.int .i64 (zd : Int))) 100 (by kernel_rfl) ?_
                refine wpAnyE_take (i := 0) (v := ?_) (listed' := #[true, false, false, false, false, false, false, false, false, false, false, false, false, false, false, false, false, false, false, false, false, false, false, false, false, false, false, false, false, false, false]) (by rfl) (by kernel_rfl) (by kernel_rfl) calm_put hS (by rfl) ?_ ?_
                rotate_left
                · intro W hW; clear hW; go_simp; try (with_reducible rfl)
                simp only [Act.put, List.getElem_toArray, List.getElem_cons_succ, List.getElem_cons_zero, List.setIfInBounds_toArray, List.set_cons_zero, List.set_cons_succ]
                refine wpAnyE_take (i := 1) (v := ?_) (listed' := #[true, true, false, false, false, false, false, false, false, false, false, false, false, false, false, false, false, false, false, false, false, false, false, false, false, false, false, false, false, false, false]) (by rfl) (by kernel_rfl) (by kernel_rfl) calm_put hS (by rfl) ?_ ?_
                rotate_left
                · intro W hW; obtain ⟨⟨hq0, hq1⟩, hq2⟩ := hW; go_simp; try (with_reducible rfl)
                simp only [Act.put, List.getElem_toArray, List.getElem_cons_succ, List.getElem_cons_zero, List.setIfInBounds_toArray, List.set_cons_zero, List.set_cons_succ]
                refine wpAnyE_take (i := 2) (v := ?_) (listed' := #[true, true, true, false, false, false, false, false, false, false, false, false, false, false, false, false, false, false, false, false, false, false, false, false, false, false, false, false, false, false, false]) (by rfl) (by kernel_rfl) (by kernel_rfl) calm_put hS (by rfl) ?_ ?_
                rotate_left
                · intro W hW; clear hW; go_simp; try (with_reducible rfl)
                simp only [Act.put, List.getElem_toArray, List.getElem_cons_succ, List.getElem_cons_zero, List.setIfInBounds_toArray, List.set_cons_zero, List.set_cons_succ]
                refine wpAnyE_take (i := 3) (v := .bool false) (listed' := #[true, true, true, true, false, false, false, false, false, false, false, false, false, false, false, false, false, false, false, false, false, false, false, false, false, false, false, false, false, false, false]) (by rfl) (by kernel_rfl) (by kernel_rfl) calm_put hS (by rfl) ?_ ?_
                · intro W hW; clear hW; go_simp; try (with_reducible rfl)
                simp only [Act.put, List.getElem_toArray, List.getElem_cons_succ, List.getElem_cons_zero, List.setIfInBounds_toArray, List.set_cons_zero, List.set_cons_succ]
                refine wpAnyE_take (i := 4) (v := ?_) (listed' := #[true, true, true, true, true, false, false, false, false, false, false, false, false, false, false, false, false, false, false, false, false, false, false, false, false, false, false, false, false, false, false]) (by rfl) (by kernel_rfl) (by kernel_rfl) calm_put hS (by rfl) ?_ ?_
                rotate_left
                · intro W hW; clear hW; go_simp; try (with_reducible rfl)
                simp only [Act.put, List.getElem_toArray, List.getElem_cons_succ, List.getElem_cons_zero, List.setIfInBounds_toArray, List.set_cons_zero, List.set_cons_succ]
                refine wpAnyE_take (i := 5) (v := ?_) (listed' := #[true, true, true, true, true, true, false, false, false, false, false, false, false, false, false, false, false, false, false, false, false, false, false, false, false, false, false, false, false, false, false]) (by rfl) (by kernel_rfl) (by kernel_rfl) calm_put hS (by rfl) ?_ ?_
                rotate_left
                · intro W hW; clear hW; go_simp; try (with_reducible rfl)
                simp only [Act.put, List.getElem_toArray, List.getElem_cons_succ, List.getElem_cons_zero, List.setIfInBounds_toArray, List.set_cons_zero, List.set_cons_succ]
                refine wpAnyE_take (i := 6) (v := ?_) (listed' := #[true, true, true, true, true, true, true, false, false, false, false, false, false, false, false, false, false, false, false, false, false, false, false, false, false, false, false, false, false, false, false]) (by rfl) (by kernel_rfl) (by kernel_rfl) calm_put hS (by rfl) ?_ ?_
                rotate_left
                · intro W hW; obtain ⟨⟨hq0, hq1⟩, hq2⟩ := hW; go_simp; try (with_reducible rfl)
                simp only [Act.put, List.getElem_toArray, List.getElem_cons_succ, List.getElem_cons_zero, List.setIfInBounds_toArray, List.set_cons_zero, List.set_cons_succ]
                refine wpAnyE_take (i := 7) (v := .bool false) (listed' := #[true, true, true, true, true, true, true, true, false, false, false, false, false, false, false, false, false, false, false, false, false, false, false, false, false, false, false, false, false, false, false]) (by rfl) (by kernel_rfl) (by kernel_rfl) calm_put hS (by rfl) ?_ ?_
                · intro W hW; clear hW; go_simp; try (with_reducible rfl)
                simp only [Act.put, List.getElem_toArray, List.getElem_cons_succ, List.getElem_cons_zero, List.setIfInBounds_toArray, List.set_cons_zero, List.set_cons_succ]
                refine wpAnyE_take (i := 8) (v := .bool false) (listed' := #[true, true, true, true, true, true, true, true, true, false, false, false, false, false, false, false, false, false, false, false, false, false, false, false, false, false, false, false, false, false, false]) (by rfl) (by kernel_rfl) (by kernel_rfl) calm_put hS (by rfl) ?_ ?_
                · intro W hW; clear hW; go_simp; try (with_reducible rfl)
                simp only [Act.put, List.getElem_toArray, List.getElem_cons_succ, List.getElem_cons_zero, List.setIfInBounds_toArray, List.set_cons_zero, List.set_cons_succ]
                refine wpAnyE_take (i := 9) (v := ?_) (listed' := #[true, true, true, true, true, true, true, true, true, true, false, false, false, false, false, false, false, false, false, false, false, false, false, false, false, false, false, false, false, false, false]) (by rfl) (by kernel_rfl) (by kernel_rfl) calm_put hS (by rfl) ?_ ?_
                rotate_left
                · intro W hW; clear hW; go_simp; try (with_reducible rfl)
                simp only [Act.put, List.getElem_toArray, List.getElem_cons_succ, List.getElem_cons_zero, List.setIfInBounds_toArray, List.set_cons_zero, List.set_cons_succ]
                refine wpAnyE_take (i := 10) (v := ?_) (listed' := #[true, true, true, true, true, true, true, true, true, true, true, false, false, false, false, false, false, false, false, false, false, false, false, false, false, false, false, false, false, false, false]) (by rfl) (by kernel_rfl) (by kernel_rfl) calm_put hS (by rfl) ?_ ?_
                rotate_left
                · intro W hW; clear hW; go_simp; try (with_reducible rfl)
                simp only [Act.put, List.getElem_toArray, List.getElem_cons_succ, List.getElem_cons_zero, List.setIfInBounds_toArray, List.set_cons_zero, List.set_cons_succ]
                refine wpAnyE_take (i := 11) (v := ?_) (listed' := #[true, true, true, true, true, true, true, true, true, true, true, true, false, false, false, false, false, false, false, false, false, false, false, false, false, false, false, false, false, false, false]) (by rfl) (by kernel_rfl) (by kernel_rfl) calm_put hS (by rfl) ?_ ?_
                rotate_left
                · intro W hW; obtain ⟨⟨hq0, hq1⟩, hq2⟩ := hW; go_simp; try (with_reducible rfl)
                simp only [Act.put, List.getElem_toArray, List.getElem_cons_succ, List.getElem_cons_zero, List.setIfInBounds_toArray, List.set_cons_zero, List.set_cons_succ]
                refine wpAnyE_take (i := 12) (v := ?_) (listed' := #[true, true, true, true, true, true, true, true, true, true, true, true, true, false, false, false, false, false, false, false, false, false, false, false, false, false, false, false, false, false, false]) (by rfl) (by kernel_rfl) (by kernel_rfl) calm_put hS (by rfl) ?_ ?_
                rotate_left
                · intro W hW; clear hW; go_simp; try (with_reducible rfl)
                simp only [Act.put, List.getElem_toArray, List.getElem_cons_succ, List.getElem_cons_zero, List.setIfInBounds_toArray, List.set_cons_zero, List.set_cons_succ]
                refine wpAnyE_take (i := 13) (v := ?_) (listed' := #[true, true, true, true, true, true, true, true, true, true, true, true, true, true, false, false, false, false, false, false, false, false, false, false, false, false, false, false, false, false, false]) (by rfl) (by kernel_rfl) (by kernel_rfl) calm_put hS (by rfl) ?_ ?_
                rotate_left
                · intro W hW; clear hW; go_simp; try (with_reducible rfl)
                simp only [Act.put, List.getElem_toArray, List.getElem_cons_succ, List.getElem_cons_zero, List.setIfInBounds_toArray, List.set_cons_zero, List.set_cons_succ]
                refine wpAnyE_take (i := 14) (v := ?_) (listed' := #[true, true, true, true, true, true, true, true, true, true, true, true, true, true, true, false, false, false, false, false, false, false, false, false, false, false, false, false, false, false, false]) (by rfl) (by kernel_rfl) (by kernel_rfl) calm_put hS (by rfl) ?_ ?_
                rotate_left
                · intro W hW; clear hW; go_simp; try (with_reducible rfl)
                simp only [Act.put, List.getElem_toArray, List.getElem_cons_succ, List.getElem_cons_zero, List.setIfInBounds_toArray, List.set_cons_zero, List.set_cons_succ]
                refine wpAnyE_take (i := 15) (v := ?_) (listed' := #[true, true, true, true, true, true, true, true, true, true, true, true, true, true, true, true, false, false, false, false, false, false, false, false, false, false, false, false, false, false, false]) (by rfl) (by kernel_rfl) (by kernel_rfl) calm_put hS (by rfl) ?_ ?_
                rotate_left
                · intro W hW; clear hW; go_simp; try (with_reducible rfl)
                simp only [Act.put, List.getElem_toArray, List.getElem_cons_succ, List.getElem_cons_zero, List.setIfInBounds_toArray, List.set_cons_zero, List.set_cons_succ]
                refine wpAnyE_take (i := 16) (v := ?_) (listed' := #[true, true, true, true, true, true, true, true, true, true, true, true, true, true, true, true, true, false, false, false, false, false, false, false, false, false, false, false, false, false, false]) (by rfl) (by kernel_rfl) (by kernel_rfl) calm_put hS (by rfl) ?_ ?_
                rotate_left
                · intro W hW; obtain ⟨⟨hq0, hq1⟩, hq2⟩ := hW; go_simp; try (with_reducible rfl)
                simp only [Act.put, List.getElem_toArray, List.getElem_cons_succ, List.getElem_cons_zero, List.setIfInBounds_toArray, List.set_cons_zero, List.set_cons_succ]
                refine wpAnyE_take (i := 17) (v := .bool false) (listed' := #[true, true, true, true, true, true, true, true, true, true, true, true, true, true, true, true, true, true, false, false, false, false, false, false, false, false, false, false, false, false, false]) (by rfl) (by kernel_rfl) (by kernel_rfl) calm_put hS (by rfl) ?_ ?_
                · intro W hW; clear hW; go_simp; rw [IntWalk.i64_in _ (by omega)]; omega
                simp only [Act.put, List.getElem_toArray, List.getElem_cons_succ, List.getElem_cons_zero, List.setIfInBounds_toArray, List.set_cons_zero, List.set_cons_succ]
                refine wpAnyE_take (i := 18) (v := .bool false) (listed' := #[true, true, true, true, true, true, true, true, true, true, true, true, true, true, true, true, true, true, true, false, false, false, false, false, false, false, false, false, false, false, false]) (by rfl) (by kernel_rfl) (by kernel_rfl) calm_put hS (by rfl) ?_ ?_
                · intro W hW; clear hW; go_simp; try (with_reducible rfl)
                simp only [Act.put, List.getElem_toArray, List.getElem_cons_succ, List.getElem_cons_zero, List.setIfInBounds_toArray, List.set_cons_zero, List.set_cons_succ]
                refine wpAnyE_take (i := 19) (v := ?_) (listed' := #[true, true, true, true, true, true, true, true, true, true, true, true, true, true, true, true, true, true, true, true, false, false, false, false, false, false, false, false, false, false, false]) (by rfl) (by kernel_rfl) (by kernel_rfl) calm_put hS (by rfl) ?_ ?_
                rotate_left
                · intro W hW; clear hW; go_simp; try (with_reducible rfl)
                simp only [Act.put, List.getElem_toArray, List.getElem_cons_succ, List.getElem_cons_zero, List.setIfInBounds_toArray, List.set_cons_zero, List.set_cons_succ]
                refine wpAnyE_take (i := 20) (v := ?_) (listed' := #[true, true, true, true, true, true, true, true, true, true, true, true, true, true, true, true, true, true, true, true, true, false, false, false, false, false, false, false, false, false, false]) (by rfl) (by kernel_rfl) (by kernel_rfl) calm_put hS (by rfl) ?_ ?_
                rotate_left
                · intro W hW; clear hW; go_simp; try (with_reducible rfl)
                simp only [Act.put, List.getElem_toArray, List.getElem_cons_succ, List.getElem_cons_zero, List.setIfInBounds_toArray, List.set_cons_zero, List.set_cons_succ]
                refine wpAnyE_take (i := 21) (v := ?_) (listed' := #[true, true, true, true, true, true, true, true, true, true, true, true, true, true, true, true, true, true, true, true, true, true, false, false, false, false, false, false, false, false, false]) (by rfl) (by kernel_rfl) (by kernel_rfl) calm_put hS (by rfl) ?_ ?_
                rotate_left
                · intro W hW; obtain ⟨⟨hq0, hq1⟩, hq2⟩ := hW; go_simp; try (with_reducible rfl)
                simp only [Act.put, List.getElem_toArray, List.getElem_cons_succ, List.getElem_cons_zero, List.setIfInBounds_toArray, List.set_cons_zero, List.set_cons_succ]
                refine wpAnyE_one (i := 22) (listed' := #[true, true, true, true, true, true, true, true, true, true, true, true, true, true, true, true, true, true, true, true, true, true, true, false, false, false, false, false, false, false, false]) (by rfl) (by kernel_rfl) (by kernel_rfl) (by rfl) (fun K hK => ?_)
                simp only [Act.put, List.getElem_toArray, List.getElem_cons_succ, List.getElem_cons_zero, List.setIfInBounds_toArray, List.set_cons_zero, List.set_cons_succ]
                go_wp2_with fail
                refine Calls.mono HHS.out ?_
                rintro e w7 ⟨rfl, hx7, hr7⟩
                have HX7 := Lib.hid (hx7.less (R' := fun _ => False) (fun _ h => h.elim))
                have HH7 := Lib.hid (HHD.out.same hr7)
                have HR7 := Lib.hid (row_same HRD.out oth_int hr7)
                have HZ7 := Lib.hid ((hr7 bx ⟨_, _, _, HZD.out, oth_ext⟩).trans HZD.out)
                clear hS
                have hS := And.intro (HXC.out _ HZ7.out) (HCZ.out _ HR7.out)
                have htk := xo_TakeAt HX7.out.some_ (d : Int) (114 + (i : Int) * 8) (by omega) (by omega)
                rw [HTAK.out] at htk
                have HTK := Lib.hid htk
                clear hx7 hr7 htk HXD HHD HRD HZD HHS
                refine hK _ _ (fun _ => hS) ?_; clear hK K
                refine wpAnyE_take (i := 23) (v := .bool false) (listed' := #[true, true, true, true, true, true, true, true, true, true, true, true, true, true, true, true, true, true, true, true, true, true, true, true, false, false, false, false, false, false, false]) (by rfl) (by kernel_rfl) (by kernel_rfl) calm_put hS (by rfl) ?_ ?_
                · intro W hW; clear hW; go_simp; try (with_reducible rfl)
                simp only [Act.put, List.getElem_toArray, List.getElem_cons_succ, List.getElem_cons_zero, List.setIfInBounds_toArray, List.set_cons_zero, List.set_cons_succ]
                refine wpAnyE_take (i := 24) (v := .bool false) (listed' := #[true, true, true, true, true, true, true, true, true, true, true, true, true, true, true, true, true, true, true, true, true, true, true, true, true, false, false, false, false, false, false]) (by rfl) (by kernel_rfl) (by kernel_rfl) calm_put hS (by rfl) ?_ ?_
                · intro W hW; clear hW; go_simp; try (with_reducible rfl)
                simp only [Act.put, List.getElem_toArray, List.getElem_cons_succ, List.getElem_cons_zero, List.setIfInBounds_toArray, List.set_cons_zero, List.set_cons_succ]
                refine wpAnyE_take (i := 25) (v := ?_) (listed' := #[true, true, true, true, true, true, true, true, true, true, true, true, true, true, true, true, true, true, true, true, true, true, true, true, true, true, false, false, false, false, false]) (by rfl) (by kernel_rfl) (by kernel_rfl) calm_put hS (by rfl) ?_ ?_
                rotate_left
                · intro W hW; clear hW; go_simp; try (with_reducible rfl)
                simp only [Act.put, List.getElem_toArray, List.getElem_cons_succ, List.getElem_cons_zero, List.setIfInBounds_toArray, List.set_cons_zero, List.set_cons_succ]
                refine wpAnyE_take (i := 26) (v := ?_) (listed' := #[true, true, true, true, true, true, true, true, true, true, true, true, true, true, true, true, true, true, true, true, true, true, true, true, true, true, true, false, false, false, false]) (by rfl) (by kernel_rfl) (by kernel_rfl) calm_put hS (by rfl) ?_ ?_
                rotate_left
                · intro W hW; clear hW; go_simp; try (with_reducible rfl)
                simp only [Act.put, List.getElem_toArray, List.getElem_cons_succ, List.getElem_cons_zero, List.setIfInBounds_toArray, List.set_cons_zero, List.set_cons_succ]
                refine wpAnyE_take (i := 27) (v := ?_) (listed' := #[true, true, true, true, true, true, true, true, true, true, true, true, true, true, true, true, true, true, true, true, true, true, true, true, true, true, true, true, false, false, false]) (by rfl) (by kernel_rfl) (by kernel_rfl) calm_put hS (by rfl) ?_ ?_
                rotate_left
                · intro W hW; obtain ⟨⟨hq0, hq1⟩, hq2⟩ := hW; go_simp; try (with_reducible rfl)
                simp only [Act.put, List.getElem_toArray, List.getElem_cons_succ, List.getElem_cons_zero, List.setIfInBounds_toArray, List.set_cons_zero, List.set_cons_succ]
                refine wpAnyE_one (i := 28) (listed' := #[true, true, true, true, true, true, true, true, true, true, true, true, true, true, true, true, true, true, true, true, true, true, true, true, true, true, true, true, true, false, false]) (by rfl) (by kernel_rfl) (by kernel_rfl) (by rfl) (fun K hK => ?_)
                simp only [Act.put, List.getElem_toArray, List.getElem_cons_succ, List.getElem_cons_zero, List.setIfInBounds_toArray, List.set_cons_zero, List.set_cons_succ]
                go_wp2_with fail
                refine Calls.mono HTK.out ?_
                rintro e w8 ⟨rfl, hx8, hr8⟩
                have HX8 := Lib.hid (hx8.less (R' := fun _ => False) (fun _ h => h.elim))
                have HH8 := Lib.hid (HH7.out.same hr8)
                have HR8 := Lib.hid (row_same HR7.out oth_int hr8)
                have HZ8 := Lib.hid ((hr8 bx ⟨_, _, _, HZ7.out, oth_ext⟩).trans HZ7.out)
                clear hS
                have hS := And.intro (HXC.out _ HZ8.out) (HCZ.out _ HR8.out)
                clear hx8 hr8 HX7 HH7 HR7 HZ7 HTK
                refine hK _ _ (fun _ => hS) ?_; clear hK K
                refine wpAnyE_take (i := 29) (v := .bool false) (listed' := #[true, true, true, true, true, true, true, true, true, true, true, true, true, true, true, true, true, true, true, true, true, true, true, true, true, true, true, true, true, true, false]) (by rfl) (by kernel_rfl) (by kernel_rfl) calm_put hS (by rfl) ?_ ?_
                · intro W hW; clear hW; go_simp; try (with_reducible rfl)
                simp only [Act.put, List.getElem_toArray, List.getElem_cons_succ, List.getElem_cons_zero, List.setIfInBounds_toArray, List.set_cons_zero, List.set_cons_succ]
                refine wpAnyE_take (i := 30) (v := .bool false) (listed' := #[true, true, true, true, true, true, true, true, true, true, true, true, true, true, true, true, true, true, true, true, true, true, true, true, true, true, true, true, true, true, true]) (by rfl) (by kernel_rfl) (by kernel_rfl) calm_put hS (by rfl) ?_ ?_
                · intro W hW; clear hW; go_simp; try (with_reducible rfl)
                simp only [Act.put, List.getElem_toArray, List.getElem_cons_succ, List.getElem_cons_zero, List.setIfInBounds_toArray, List.set_cons_zero, List.set_cons_succ]
                refine wpAnyE_done (by kernel_rfl) ?_ _
                refine calm_normal ?_

                clear hS f1 f3 f4 hz4' HHAS HTAK HCZ
                skip
                obtain ⟨wb, rfl⟩ : ∃ wb, wb = w8 := ⟨_, rfl⟩
                go_wp2
                go_loopw [18] (fun nv wr => ∃ k3 : Nat, k3 ≤ nH ∧ nv = .int .i64 k3 ∧ Hid (Kept wb wr)) (fun nv _ => nH - (intOf nv).toNat)
                case atStart => exact ⟨0, Nat.zero_le _, rfl, Lib.hid (Kept.refl _)⟩
                case round =>
                  obtain ⟨k3, hk3, rfl, HKB⟩ := hrel
                  by_cases hl3 : k3 < nH
                  · have hk3H : k3 < H.length := by rw [HNH.out]; exact hl3
                    have hne : H ≠ [] := by intro e; rw [e] at hk3H; cases hk3H
                    have hhk := (HH8.out.kept HKB.out).held hne
                    obtain ⟨g, cap3, cur, hv3, _⟩ := hhk.owns hne
                    injection hv3 with ha3 hl3' hc3
                    subst ha3
                    clear hl3' hc3
                    obtain ⟨hc0, hc1⟩ := (hhk : Held _ B (.slice (some ⟨g, 0, none⟩) nH ch) H).at k3 hk3H
                    obtain ⟨hx0, hx1⟩ := HXC.out _ (HKB.out.block HZ8.out)
                    have hdif : H[k3].1 = d → H[k3].2 ≠ i := fun e1 e2 => HNEW.out (by have := List.getElem_mem hk3H; rw [show (d, i) = H[k3] from Prod.ext e1.symm e2.symm]; exact this)
                    have hmk := HNM.out.2 _ (List.getElem_mem hk3H)
                    have hj500 : H[k3].2 < 500 := Nat.lt_of_lt_of_le hmk.2 ((HOK.out.at_ _ hmk.1).2.2.1)
                    generalize H[k3].1 = d3 at *
                    generalize H[k3].2 = i3 at *
                    have hKd := Lib.hid (fun n => (HKB.out.drewN n : Kept wb (World.drewN _ n)))
                    clear hmk hhk hne
                    by_cases hdd : d3 = d
                    · have hdi : i3 ≠ i := hdif hdd
                      have f1 : ((d3 : Int) == (d : Int)) = true := by simp [hdd]
                      clear hdd hdif
                      by_cases hlt3 : i3 < i
                      · have f2 : (114 + (i3 : Int) * 8 : Int) < 114 + (i : Int) * 8 + 8 := by omega
                        have f3 : ¬ (114 + (i : Int) * 8 : Int) < 114 + (i3 : Int) * 8 + 8 := by omega
                        clear hdi hlt3
                        go_upto_region 36 with fail
                        go_quiet (fail)
                        go_wp2
                        go_roundw
                        case rel => exact ⟨k3 + 1, by omega, by go_num, Lib.hid (hKd.out _)⟩
                        case measure => simp [intOf]; omega
                      · have f2 : ¬ (114 + (i3 : Int) * 8 : Int) < 114 + (i : Int) * 8 + 8 := by omega
                        clear hdi hlt3
                        go_upto_region 36 with fail
                        go_quiet (fail)
                        go_wp2
                        go_roundw
                        case rel => exact ⟨k3 + 1, by omega, by go_num, Lib.hid (hKd.out _)⟩
                        case measure => simp [intOf]; omega
                    · have f1 : ((d3 : Int) == (d : Int)) = false := by simp; omega
                      clear hdd hdif
                      go_upto_region 36 with fail
                      go_quiet (fail)
                      go_wp2
                      go_roundw
                      case rel => exact ⟨k3 + 1, by omega, by go_num, Lib.hid (hKd.out _)⟩
                      case measure => simp [intOf]; omega
                  · have hge3 : nH ≤ k3 := by omega
                    obtain ⟨hx0, hx1⟩ := HXC.out _ (HKB.out.block HZ8.out)
                    have HX9 := Lib.hid (HX8.out.kept HKB.out).1
                    have HH9 := Lib.hid (HH8.out.kept HKB.out)
                    have HR9 := Lib.hid (ownsRow_kept HR8.out HKB.out)
                    clear hl3 HX8 HH8 HR8
                    go_wp2_with (refine stop_at (o := ⟨some 211, _, _, _, _, _⟩) ?_)
                    refine Stop.mk ?_
                    rw [← HNH.out] at HH9
                    have hky := (Kept.refl wr).alloc (Obj.cells #[Value.int IntKind.i64 ↑d, Value.int IntKind.i64 (114 + (i : Int) * 8)] 33)
                    have hby := heap_alloc_new wr (Obj.cells #[Value.int IntKind.i64 ↑d, Value.int IntKind.i64 (114 + (i : Int) * 8)] 33)
                    have HXY := Lib.hid (HX9.out.kept hky).1
                    have HHY := Lib.hid (HH9.out.kept hky)
                    have HRY := Lib.hid (ownsRow_kept HR9.out hky)
                    have HCY := Lib.hid (by simpa using Cells.of_block hby : Cells _ wr.heap.size 0 [Value.int .i64 (d : Int), .int .i64 (114 + (i : Int) * 8)])
                    clear hky hby HX9 HH9 HR9 hx0 hx1 HKB HXC HZ8
                    refine wpList_append_held rfl _ _ rfl HXY.out HHY.out HB.out.1 (Nat.le_trans HB.out.2 HXY.out.keeps.size) (by rw [HNH.out]; omega) (by rw [HNH.out]; rfl) wr.heap.size d i rfl HCY.out ?_
                    intro v10 w10 hx10 hh10 hfr10 _
                    have HX10 := Lib.hid hx10
                    have HH10 := Lib.hid hh10
                    have HR10 := Lib.hid (hfr10 _ _ _ _ _ (by decide) HRY.out)
                    clear hx10 hh10 hfr10 HXY HHY HRY HCY
                    go_wp2
                    go_roundw
                    case rel => exact ⟨_, H ++ [(d, i)], k + 1, rfl, by go_num, by omega, by omega, by rw [List.length_append, HNH.out, List.length_singleton]; omega, Lib.hid ⟨nodup_add HNM.out.1 HNEW.out, HNM.out.2.add hdL HI.out⟩, HX10, HH10, HR10⟩
                    case measure => simp [intOf]; omega
          · have hkk : l2.length ≤ k ∨ (k < l2.length ∧ 200 ≤ k) := by omega
            clear hc
            rcases hkk with hkk | ⟨hkk, h6⟩
            all_goals
              go_wp2
              go_meet
              case rel => exact ⟨_, H, rfl, by omega, HNM, HX, HH, HR⟩
      case rest =>
        clear HX4 HR HZ
        obtain ⟨vh, H, rfl, hH2, HNM, HX, HH, HR⟩ := hcut
        obtain ⟨ah, ch, rfl⟩ := HH.out.form
        obtain ⟨nH, hnH⟩ : ∃ nH, H.length = nH := ⟨_, rfl⟩
        have HNH := Lib.hid hnH
        rw [hnH] at hH2 HH ⊢
        clear hnH HH
        obtain ⟨wz2, rfl⟩ : ∃ wz2, wz2 = wc := ⟨_, rfl⟩
        go_wp2
        go_loopw [19, 20] (fun uv dv wr => ∃ k : Nat, k ≤ nL ∧ dv = .int .i64 k ∧ uv = .int .i64 (heldTo H k : Nat) ∧ Hid (Kept wz2 wr)) (fun _ dv _ => nL - (intOf dv).toNat)
        case atStart => exact ⟨0, Nat.zero_le _, rfl, by rw [heldTo_zero]; rfl, Lib.hid (Kept.refl _)⟩
        case round =>
          obtain ⟨k, hk, rfl, rfl, HKB⟩ := hrel
          by_cases hlt : k < nL
          · have hkL : k < L.length := by rw [HNL.out]; exact hlt
            have hnx := heldTo_next HNM.out.1 HNM.out.2 hkL
            have hur := used_room (H := H) hkL
            have hule := used_le50 (H := H) (L := L) (fun n hn => by obtain ⟨j, hj, rfl⟩ := List.getElem_of_mem hn; have := (HOK.out.at_ j hj).2.2.1; rw [List.getD_eq_getElem?_getD, List.getElem?_eq_getElem hj] at this; exact this) hkL
            have hhl : heldTo H k ≤ nH := by rw [← HNH.out]; exact List.length_filter_le _ _
            obtain ⟨hz4, hcn, hn5, _⟩ := HOK.out.at_ k hkL
            obtain ⟨zd, hzd⟩ : ∃ zd, zs.getD k 0 = zd := ⟨_, rfl⟩
            obtain ⟨nd, hnd⟩ : ∃ nd, L.getD k 0 = nd := ⟨_, rfl⟩
            obtain ⟨us, hus⟩ : ∃ us, usedX (eM L (memF H)) (k : Int) = us := ⟨_, rfl⟩
            obtain ⟨rm, hrm⟩ : ∃ rm, roomX (eM L (memF H)) (k : Int) = rm := ⟨_, rfl⟩
            obtain ⟨hk1, hhk1⟩ : ∃ a, heldTo H k = a := ⟨_, rfl⟩
            have HU : Hid (∀ W, Kept wz2 W → Calls Tryd.prog 14 #[.pointer (some ⟨q, 0, none⟩), .int .i64 (k : Int)] W fun e w' => e = .returned (.int .i64 (us : Int)) ∧ W = w') := Lib.hid fun W hk => by rw [← hus]; exact xo_Used (HX.out.kept hk).1 _
            have HM : Hid (∀ W, Kept wz2 W → Calls Tryd.prog 10 #[.pointer (some ⟨q, 0, none⟩), .int .i64 (k : Int)] W fun e w' => e = .returned (.int .i64 (rm : Int)) ∧ W = w') := Lib.hid fun W hk => by rw [← hrm]; exact xo_Room (HX.out.kept hk).1 _
            have HC : Hid (∀ W, Calls Tryd.prog 15 #[.int .i64 (zd : Int)] W fun e w' => e = .returned (.int .i64 (nd : Int)) ∧ W = w') := Lib.hid fun W => by
              have := ext_Count (zd : Int) (by omega) (by rw [hzd] at hz4; omega) W
              rw [hzd, hnd] at hcn
              rwa [hcn] at this
            have HCZ : Hid (∀ W, Kept wz2 W → ∃ g, ao = some ⟨g, 0, none⟩ ∧ W.cell? ⟨g, k, none⟩ = some (.int .i64 (zd : Int))) := Lib.hid fun W hk => by
              obtain ⟨g', c', hv', hc'⟩ := row_at (by have h := ownsRow_kept HR.out hk; rw [← HNL.out, ← HOK.out.len] at h; exact h) (k := k) (by rw [HOK.out.len]; exact hkL)
              injection hv' with ha' _ _
              exact ⟨g', ha', by rw [hzd] at hc'; exact hc'⟩
            rw [hhk1] at hnx hhl ⊢
            rw [hus] at hnx hur hule
            rw [hrm, hnd] at hur
            have hsum : ((us : Int) + (rm : Int) != (nd : Int)) = false := by simp; omega
            have hsum2 : (us : Int) + (rm : Int) = (nd : Int) := by omega
            have hrm5 : rm ≤ 500 := by rw [hnd] at hn5; omega
            have HNX := Lib.hid hnx
            obtain ⟨gz, rfl, _⟩ := HCZ.out _ (Kept.refl wz2)
            have HCW : Hid (∀ W, Kept wz2 W → W.cell? ⟨gz, k, none⟩ = some (.int .i64 (zd : Int))) := Lib.hid fun W hk => by
              obtain ⟨g', ha', hc'⟩ := HCZ.out W hk
              injection ha' with ha'
              injection ha' with ha' _ _
              subst ha'; exact hc'
            clear hnx hur hz4 hcn hn5 hzd hnd hus hrm hhk1 HCZ
            go_wp2_with fail
            refine Calls.mono (HU.out _ HKB.out) ?_
            rintro e w' ⟨rfl, rfl⟩
            have hcc := HCW.out _ HKB.out
            go_upto_region 44 with fail
            have hdr := HKB.out.drew
            have HDR := Lib.hid hdr
            have hS := HCW.out _ hdr
            clear hdr hcc
            refine wp_region_calm ?_
            refine wp_region_E (fun (W : World) => W.cell? ⟨gz, k, none⟩ = some (Value.int .i64 (zd : Int))) 100 (by kernel_rfl) ?_
            refine wpAnyE_take (i := 0) (v := ?_) (listed' := #[true, false, false, false, false, false, false, false, false, false, false, false, false]) (by rfl) (by kernel_rfl) (by kernel_rfl) calm_put hS (by rfl) ?_ ?_
            rotate_left
            · intro W hW; clear hW; go_simp; try (with_reducible rfl)
            simp only [Act.put, List.getElem_toArray, List.getElem_cons_succ, List.getElem_cons_zero, List.setIfInBounds_toArray, List.set_cons_zero, List.set_cons_succ]
            refine wpAnyE_take (i := 1) (v := ?_) (listed' := #[true, true, false, false, false, false, false, false, false, false, false, false, false]) (by rfl) (by kernel_rfl) (by kernel_rfl) calm_put hS (by rfl) ?_ ?_
            rotate_left
            · intro W hW; clear hW; go_simp; try (with_reducible rfl)
            simp only [Act.put, List.getElem_toArray, List.getElem_cons_succ, List.getElem_cons_zero, List.setIfInBounds_toArray, List.set_cons_zero, List.set_cons_succ]
            refine wpAnyE_take (i := 3) (v := ?_) (listed' := #[true, true, false, true, false, false, false, false, false, false, false, false, false]) (by rfl) (by kernel_rfl) (by kernel_rfl) calm_put hS (by rfl) ?_ ?_
            rotate_left
            · intro W hW; clear hW; go_simp; try (with_reducible rfl)
            simp only [Act.put, List.getElem_toArray, List.getElem_cons_succ, List.getElem_cons_zero, List.setIfInBounds_toArray, List.set_cons_zero, List.set_cons_succ]
            refine wpAnyE_take (i := 4) (v := ?_) (listed' := #[true, true, false, true, true, false, false, false, false, false, false, false, false]) (by rfl) (by kernel_rfl) (by kernel_rfl) calm_put hS (by rfl) ?_ ?_
            rotate_left
            · intro W hW; clear hW; go_simp; try (with_reducible rfl)
            simp only [Act.put, List.getElem_toArray, List.getElem_cons_succ, List.getElem_cons_zero, List.setIfInBounds_toArray, List.set_cons_zero, List.set_cons_succ]
            refine wpAnyE_take (i := 7) (v := ?_) (listed' := #[true, true, false, true, true, false, false, true, false, false, false, false, false]) (by rfl) (by kernel_rfl) (by kernel_rfl) calm_put hS (by rfl) ?_ ?_
            rotate_left
            · intro W hW; clear hW; go_simp; try (with_reducible rfl)
            simp only [Act.put, List.getElem_toArray, List.getElem_cons_succ, List.getElem_cons_zero, List.setIfInBounds_toArray, List.set_cons_zero, List.set_cons_succ]
            refine wpAnyE_take (i := 8) (v := ?_) (listed' := #[true, true, false, true, true, false, false, true, true, false, false, false, false]) (by rfl) (by kernel_rfl) (by kernel_rfl) calm_put hS (by rfl) ?_ ?_
            rotate_left
            · intro W hW; clear hW; go_simp; try (with_reducible rfl)
            simp only [Act.put, List.getElem_toArray, List.getElem_cons_succ, List.getElem_cons_zero, List.setIfInBounds_toArray, List.set_cons_zero, List.set_cons_succ]
            refine wpAnyE_take (i := 9) (v := ?_) (listed' := #[true, true, false, true, true, false, false, true, true, true, false, false, false]) (by rfl) (by kernel_rfl) (by kernel_rfl) calm_put hS (by rfl) ?_ ?_
            rotate_left
            · intro W hW; clear hW; go_simp; try (with_reducible rfl)
            simp only [Act.put, List.getElem_toArray, List.getElem_cons_succ, List.getElem_cons_zero, List.setIfInBounds_toArray, List.set_cons_zero, List.set_cons_succ]
            refine wpAnyE_take (i := 10) (v := ?_) (listed' := #[true, true, false, true, true, false, false, true, true, true, true, false, false]) (by rfl) (by kernel_rfl) (by kernel_rfl) calm_put hS (by rfl) ?_ ?_
            rotate_left
            · intro W hW; skip; go_simp; try (with_reducible rfl)
            simp only [Act.put, List.getElem_toArray, List.getElem_cons_succ, List.getElem_cons_zero, List.setIfInBounds_toArray, List.set_cons_zero, List.set_cons_succ]
            refine wpAnyE_one (i := 2) (listed' := #[true, true, true, true, true, false, false, true, true, true, true, false, false]) (by rfl) (by kernel_rfl) (by kernel_rfl) (by rfl) (fun K hK => ?_)
            simp only [Act.put, List.getElem_toArray, List.getElem_cons_succ, List.getElem_cons_zero, List.setIfInBounds_toArray, List.set_cons_zero, List.set_cons_succ]
            go_wp2_with fail
            refine Calls.mono (HU.out _ HDR.out) ?_
            rintro e w' ⟨rfl, rfl⟩
            refine hK _ _ (fun _ => hS) ?_; clear hK K
            refine wpAnyE_one (i := 5) (listed' := #[true, true, true, true, true, true, false, true, true, true, true, false, false]) (by rfl) (by kernel_rfl) (by kernel_rfl) (by rfl) (fun K hK => ?_)
            simp only [Act.put, List.getElem_toArray, List.getElem_cons_succ, List.getElem_cons_zero, List.setIfInBounds_toArray, List.set_cons_zero, List.set_cons_succ]
            go_wp2_with fail
            refine Calls.mono (HM.out _ HDR.out) ?_
            rintro e w' ⟨rfl, rfl⟩
            refine hK _ _ (fun _ => hS) ?_; clear hK K
            refine wpAnyE_take (i := 6) (v := .int .i64 (nd : Int)) (listed' := #[true, true, true, true, true, true, true, true, true, true, true, false, false]) (by rfl) (by kernel_rfl) (by kernel_rfl) calm_put hS (by rfl) ?_ ?_
            · intro W hW; clear hW; go_simp; first | done | (exact IntWalk.i64_in _ (by omega)) | (rw [IntWalk.i64_in _ (by omega)])
            simp only [Act.put, List.getElem_toArray, List.getElem_cons_succ, List.getElem_cons_zero, List.setIfInBounds_toArray, List.set_cons_zero, List.set_cons_succ]
            refine wpAnyE_one (i := 11) (listed' := #[true, true, true, true, true, true, true, true, true, true, true, true, false]) (by rfl) (by kernel_rfl) (by kernel_rfl) (by rfl) (fun K hK => ?_)
            simp only [Act.put, List.getElem_toArray, List.getElem_cons_succ, List.getElem_cons_zero, List.setIfInBounds_toArray, List.set_cons_zero, List.set_cons_succ]
            go_wp2_with fail
            refine Calls.mono (HC.out _) ?_
            rintro e w' ⟨rfl, rfl⟩
            refine hK _ _ (fun _ => hS) ?_; clear hK K
            refine wpAnyE_take (i := 12) (v := .bool false) (listed' := #[true, true, true, true, true, true, true, true, true, true, true, true, true]) (by rfl) (by kernel_rfl) (by kernel_rfl) calm_put hS (by rfl) ?_ ?_
            · intro W hW; clear hW; go_simp; try (with_reducible rfl)
            simp only [Act.put, List.getElem_toArray, List.getElem_cons_succ, List.getElem_cons_zero, List.setIfInBounds_toArray, List.set_cons_zero, List.set_cons_succ]
            refine wpAnyE_done (by kernel_rfl) ?_ _
            refine calm_normal ?_

            clear hS
            go_wp2
            go_roundw
            case rel => exact ⟨k + 1, by omega, by go_num, by rw [HNX.out]; go_num, HDR⟩
            case measure => simp [intOf]; omega
          · have hkn : k = nL := by omega
            have hfull : heldTo H k = nH := by rw [hkn, ← HNL.out, heldTo_all HNM.out.2, HNH.out]
            have hge : nL ≤ k := by omega
            rw [hfull]
            have hb : ((nH : Int) == (nH : Int)) = true := by simp
            have HKW := Lib.hid (HK.out.trans (HX.out.keeps.trans HKB.out))
            clear hkn hfull hlt
            go_wp2
            go_ret
            exact ⟨rfl, HKW.out⟩
end
end Go.Proofs.YtglplhmclfekfaaDoor
