/- UsageTurned: the walk. -/
import Derived.Test.YtpnpconphpbcaaaUtu
import Derived.Deep.CutBlock
namespace Go.Proofs.Ytpnpconphpbcaaa
open Go.RowKit Go.ChangeMaps Go.MapKept
set_option linter.unusedVariables false
set_option linter.unusedSimpArgs false

def szOf (l : List Int) (i : Nat) : Nat := 1 + (bits .and .i64 (l.getD i 0) 31).toNat
def szs (l : List Int) (k : Nat) : List Nat := (List.range k).map (szOf l)
theorem szs_next (l : List Int) (k : Nat) : szs l (k + 1) = szs l k ++ [szOf l k] := by simp [szs, List.range_succ]
theorem szs_length (l : List Int) (k : Nat) : (szs l k).length = k := by simp [szs]
theorem szOf_eq (l : List Int) (i : Nat) (h : i < l.length) : ∃ y : Nat, bits .and .i64 l[i] 31 = (y : Int) ∧ szOf l i = y + 1 ∧ y < 32 := by
  obtain ⟨y, hy, hyl⟩ := and_i64 l[i] 5 (by decide) (m := 31) (by decide)
  have e : l.getD i 0 = l[i] := by simp [List.getD_eq_getElem?_getD, h]
  refine ⟨y, hy, ?_, hyl⟩
  unfold szOf
  rw [e, hy]; simp; omega
theorem szOf_bd (l : List Int) (i : Nat) : 1 ≤ szOf l i ∧ szOf l i ≤ 32 := by
  obtain ⟨y, hy, hyl⟩ := and_i64 (l.getD i 0) 5 (by decide) (m := 31) (by decide)
  unfold szOf
  rw [hy]; simp; omega
theorem szs_bd (l : List Int) (k : Nat) : ∀ N ∈ szs l k, 1 ≤ N ∧ N ≤ 32 := by
  intro N hN
  simp only [szs, List.mem_map] at hN
  obtain ⟨i, _, rfl⟩ := hN
  exact szOf_bd l i
section
variable {w W : World} {R : Nat → Prop} {p : Nat} {T : Tab}
set_option maxHeartbeats 4000000
set_option maxRecDepth 100000
theorem law_turned (v : Value) (l : List Int) (v2 : Value) (l2 : List Op5) (w : World) (hs : ISl w v l) (hs2 : OSrc w v2 l2) :
    Calls Try.prog 9 #[v, v2] w fun e w' => e = .returned (.bool true) ∧ Kept w w' := by
  have HS := Lib.hid hs
  obtain ⟨oa, cap, rfl, hcap, hmax, _⟩ := hs
  have HS2 := Lib.hid hs2
  obtain ⟨oa2, cap2, rfl, hcap2, hmax2, _⟩ := hs2
  unfold maxLen at hmax hmax2
  go_enter Try.func9, Try.ntmps9
  go_upto_block 0 with (first
    | (go_at_call 19; refine (usage_shown _).mono ?_; rintro e w1 ⟨rfl, hk1⟩)
    | (go_at_call 20; refine (own_New w _ hk1).mono ?_; rintro e w2 ⟨p, rfl, h2, _⟩; have H2 := Lib.hid (h2.less (R' := fun _ => False) (fun _ h => h.elim)); clear h2 hk1))
  go_cut [7] (fun n wc => ∃ k : Nat, k ≤ 6 ∧ n = .int .i64 k ∧ Own w (fun _ => False) wc p (opensT (szs l k)))
  case first =>
    go_wp2
    go_loopw [7, 8] (fun n i wr => ∃ k : Nat, k ≤ l.length ∧ k ≤ 6 ∧ i = .int .i64 k ∧ n = .int .i64 k ∧ Own w (fun _ => False) wr p (opensT (szs l k))) (fun _ i _ => l.length - (intOf i).toNat)
    case atStart => exact ⟨0, by omega, by omega, rfl, rfl, by have := H2.out; rwa [← opensT_nil] at this⟩
    case round =>
      clear H2
      obtain ⟨k, hk, hk6, rfl, rfl, hO⟩ := hrel
      have HO := Lib.hid hO; clear hO
      by_cases hlt : k < l.length ∧ k < 6
      · obtain ⟨hlt, h6⟩ := hlt
        obtain ⟨b, off, rfl, ck⟩ := (HS.out.kept HO.out.keeps).at k hlt
        obtain ⟨y, hy, hsz, hy31⟩ := szOf_eq l k hlt
        have hop := own_Open HO.out (k : Int) (y + 1) (by omega) (by omega) (by omega) (by have := opensT_none (szs l k); rwa [szs_length] at this)
        have hnx := opensT_next (szs l k) (y + 1)
        rw [szs_length, ← hsz, ← szs_next] at hnx
        rw [← hsz, hnx] at hop
        have HOP := Lib.hid hop; clear hop
        have hyc : (1 : Int) + (y : Int) = ((szOf l k : Nat) : Int) := by omega
        clear hsz hnx
        generalize l[k] = xk at *
        go_wp2_with (go_at_call 21; refine HOP.out.mono ?_; rintro e w3 ⟨rfl, h3, _⟩; have H3 := Lib.hid h3; clear h3)
        go_roundw
        case rel => exact ⟨k + 1, by omega, by omega, by go_num, by go_num, H3.out⟩
        case measure => simp [intOf]; omega
      · have hkk : l.length ≤ k ∨ (k < l.length ∧ 6 ≤ k) := by omega
        clear hlt
        rcases hkk with hkk | ⟨hkk, h6⟩
        all_goals
          go_wp2
          go_meet
          case rel => exact ⟨k, hk6, rfl, HO.out⟩
  case rest =>
    obtain ⟨k, hk6, rfl, hO⟩ := hcut
    have HO := Lib.hid hO; clear hO
    have hTV := TV.opens (szs l k) (szs_bd l k)
    rw [szs_length] at hTV
    have HTV0 := Lib.hid hTV; clear hTV
    clear HS H2
    obtain ⟨wq, rfl⟩ : ∃ wq, wq = wc := ⟨_, rfl⟩
    go_upto_block 2 with fail
    go_cut [] (fun wc => ∃ T, TV T k ∧ Own w (fun _ => False) wc p T)
    case first =>
      go_wp2
      go_loopw [9] (fun i wr => ∃ (q : Nat) (T : Tab), q ≤ l2.length ∧ i = .int .i64 q ∧ TV T k ∧ Own w (fun _ => False) wr p T) (fun i _ => l2.length - (intOf i).toNat)
      case atStart => exact ⟨0, _, by omega, rfl, HTV0.out, HO.out⟩
      case round =>
        clear HTV0 HO
        obtain ⟨q, T, hq, rfl, htv, hO⟩ := hrel
        have HO := Lib.hid hO; clear hO
        have HT := Lib.hid htv; clear htv
        by_cases hc : q < l2.length ∧ q < 200 ∧ 0 < k
        · obtain ⟨hql, hq2, hk0⟩ := hc
          obtain ⟨b, off, rfl, c0, c1, c2, c3⟩ := (HS2.out.kept HO.out.keeps).at q hql
          obtain ⟨y, hy, hyl⟩ := and_i64 l2[q].group 16 (by decide) (m := 65535) (by decide)
          obtain ⟨s, hsb, hsl⟩ := and_i64 l2[q].slot 5 (by decide) (m := 31) (by decide)
          obtain ⟨z, hz, hzl⟩ := and_i64 l2[q].block 6 (by decide) (m := 63) (by decide)
          have hyn : (y : Int) % (k : Int) = ((y % k : Nat) : Int) := by norm_cast
          have hgk : y % k < k := Nat.mod_lt _ hk0
          have hn0 : ((k : Int) == 0) = false := by simp; omega
          have HP := Lib.hid (own_PutAny HO.out HT.out (y % k) hgk s z hzl)
          have HC := Lib.hid (own_ClearAny HO.out HT.out (y % k) hgk s)
          have hkind : (l2[q].kind == 4) = true ∨ (l2[q].kind == 4) = false := by cases (l2[q].kind == 4) <;> simp
          generalize l2[q].kind = xd at *
          generalize l2[q].group = xg at *
          generalize l2[q].slot = xs at *
          generalize l2[q].block = xb at *
          generalize y % k = g at *
          clear hgk
          rcases hkind with hkd | hkd
          all_goals
            go_wp2_with (first
              | (go_at_call 29; refine HC.out.mono ?_; rintro e w3 ⟨E, T', rfl, hT', h3⟩; have H3 := Lib.hid h3; have HT' := Lib.hid hT'; clear h3 hT')
              | (go_at_call 22; refine HP.out.mono ?_; rintro e w3 ⟨E, T', rfl, hT', h3⟩; have H3 := Lib.hid h3; have HT' := Lib.hid hT'; clear h3 hT'))
            go_roundw
            case rel => exact ⟨q + 1, T', by omega, by go_num, HT'.out, H3.out⟩
            case measure => simp [intOf]; omega
        · have hkk : l2.length ≤ q ∨ (q < l2.length ∧ 200 ≤ q) ∨ (q < l2.length ∧ q < 200 ∧ ¬ (0 < k)) := by omega
          clear hc
          rcases hkk with hkk | ⟨hkk, h2⟩ | ⟨hkk, h2, h3⟩
          all_goals
            go_wp2
            go_meet
            case rel => exact ⟨T, HT.out, HO.out⟩
    case rest =>
      clear HTV0 HO
      obtain ⟨T, htv, hO⟩ := hcut
      have HO := Lib.hid hO; clear hO
      have HT := Lib.hid htv; clear htv
      clear HS2
      obtain ⟨wz, rfl⟩ : ∃ wz, wz = wc := ⟨_, rfl⟩
      go_wp2_with (refine wpList_alloc_abs rfl 60 rfl (bools (noB 64)) zero_64 ?_; intro w4 hz4 hs4 hn4 hk4)
      have hO4 := HO.out.more hk4 wz.heap.size (Nat.le_refl _) hs4
      have H4 := Lib.hid (hO4.less (R' := fun k => k = wz.heap.size) (fun _ h => .inr h))
      have HB4 : Hid (BRow w4 wz.heap.size 60 (noB 64)) := hz4
      have hwB : w.heap.size ≤ wz.heap.size := HO.out.keeps.size
      clear hO4 hz4 hn4 hk4 hs4 HO
      generalize wz.heap.size = B at *
      go_loopw [13] (fun g wr => ∃ j : Nat, j ≤ k ∧ g = .int .i64 j ∧ Own w (fun k => k = B) wr p T ∧ BRow wr B 60 (seenL T j 0)) (fun g _ => k - (intOf g).toNat)
      case atStart => exact ⟨0, by omega, rfl, H4.out, by rw [seenL_zero HT.out]; exact HB4.out⟩
      case round =>
        clear H4 HB4
        obtain ⟨j, hj, rfl, hO, hB⟩ := hrel
        have HO := Lib.hid hO; clear hO
        have HB := Lib.hid hB; clear hB
        by_cases hjk : j < k
        · obtain ⟨r, hr, hr1, hr32⟩ := HT.out.g j hjk
          have HR := Lib.hid hr; clear hr
          obtain ⟨wg, rfl⟩ : ∃ wg, wg = wr := ⟨_, rfl⟩
          have hBg : B < wg.heap.size := (Array.getElem?_eq_some_iff.1 HB.out).1
          have HOW := Lib.hid (fun (W : World) (hb : But (fun k => k = B) wg W) => HO.out.but hb rfl hwB)
          go_wp2
          go_loopw [14, 15, 16] (fun bv hv s wr => ∃ q : Nat, q ≤ r.length ∧ s = .int .i64 q ∧ hv = .int .i64 (idxI (r.take q) (-1)) ∧ wr.ownsRow wg.heap.size 3 1 bv (liveL (r.take q)).length (ints (liveL (r.take q))) ∧ BRow wr B 60 (seenL T j q) ∧ But (fun k => k = B) wg wr) (fun _ _ s _ => r.length - (intOf s).toNat)
          case atStart => exact ⟨0, by omega, rfl, rfl, World.ownsRow_nil _ _ _ _, HB.out, But.refl _ _⟩
          case round =>
            obtain ⟨q, hq, rfl, rfl, hown, hB, hbt⟩ := hrel
            have HBT := Lib.hid hbt; clear hbt
            have HB2 := Lib.hid hB; clear hB
            have HOWN := Lib.hid hown
            obtain ⟨oa3, cap3, rfl, _⟩ := NSl.of_owns hown
            clear hown
            have HSLOTS := Lib.hid (own_Slots (HOW.out _ HBT.out) (j : Int) HR.out)
            by_cases hql : q < r.length
            · have hsl : T.slot j q = some r[q] := by rw [Tab.slot_of HR.out, List.getElem?_eq_getElem hql]
              have hsn := List.take_succ_eq_append_getElem hql
              have hix : idxI (r.take (q + 1)) (-1) = if idxI (r.take q) (-1) = -1 then (if r[q] = -1 then (q : Int) else -1) else idxI (r.take q) (-1) := by
                rw [hsn, idxI_snoc, List.length_take, Nat.min_eq_left (by omega)]
              by_cases hd : r[q] = -1
              · rw [hd] at hsl hsn hix
                have hdead := seenL_dead HT.out hsl
                have HBK := Lib.hid (own_Block_dead (HOW.out _ HBT.out) HT.out.ok (j : Int) q hsl)
                have HSN := Lib.hid hsn; clear hsn
                have HDD := Lib.hid hdead; clear hdead
                clear hsl hd
                rcases idxI_range (r.take q) with hi | ⟨h0, hi⟩
                · rw [hi] at hix
                  rw [hi]
                  have HIX := Lib.hid hix; clear hix
                  clear hi
                  go_wp2_with (first
                    | (go_at_call 30; refine HSLOTS.out.mono ?_; rintro e w5 ⟨rfl, rfl⟩)
                    | (go_at_call 27; refine HBK.out.mono ?_; rintro e w5 ⟨rfl, rfl⟩))
                  go_roundw
                  case rel => exact ⟨q + 1, by omega, by go_num, by rw [HIX.out]; rfl, by rw [HSN.out, liveL_snoc_dead]; exact HOWN.out, by rw [HDD.out]; exact HB2.out, HBT.out⟩
                  case measure => simp [intOf]; omega
                · rw [hi, if_neg (by omega)] at hix
                  rw [hi]
                  have HIX := Lib.hid hix; clear hix
                  clear hi
                  go_wp2_with (first
                    | (go_at_call 30; refine HSLOTS.out.mono ?_; rintro e w5 ⟨rfl, rfl⟩)
                    | (go_at_call 27; refine HBK.out.mono ?_; rintro e w5 ⟨rfl, rfl⟩))
                  go_roundw
                  case rel => exact ⟨q + 1, by omega, by go_num, by rw [HIX.out], by rw [HSN.out, liveL_snoc_dead]; exact HOWN.out, by rw [HDD.out]; exact HB2.out, HBT.out⟩
                  case measure => simp [intOf]; omega
              · have hused := HT.out.used r[q] (by rw [HT.out.ok.of j q _ hsl hd]; simp)
                have hff := HT.out.ok.of j q _ hsl hd
                have HD := Lib.hid hd; clear hd
                have hlen := List.length_filter_le (fun x => x != -1) (r.take q)
                generalize r[q] = x at *
                obtain ⟨b, rfl⟩ := Int.eq_ofNat_of_zero_le hused.1
                have hb64 : b < 64 := by omega
                have hbl : b < (seenL T j q).length := by rw [seenL_length]; exact hb64
                have hlive := seenL_live HT.out hsl
                have hfalse : (seenL T j q)[b] = false := by rw [seenL_at]; exact seenB_own HT.out hsl
                have HBK := Lib.hid (own_Block (HOW.out _ HBT.out) HT.out.ok (j : Int) q hsl HD.out)
                have hfd := own_FindK (HOW.out _ HBT.out) (b : Int) _ hff
                simp only [findV] at hfd
                have HFD := Lib.hid hfd; clear hfd
                have HSN := Lib.hid hsn; clear hsn
                have HLV := Lib.hid hlive; clear hlive
                have HFA := Lib.hid hfalse; clear hfalse
                have hix2 : idxI (r.take (q + 1)) (-1) = idxI (r.take q) (-1) := by
                  rw [hix]; split
                  · rename_i e; rw [if_neg HD.out, e]
                  · rfl
                have HIX := Lib.hid hix2; clear hix hix2
                have e2 : ((j : Int) != (j : Int)) = false := by simp
                have e3 : ((q : Int) != (q : Int)) = false := by simp
                have hn32 : (liveL (r.take q)).length ≤ 32 := by have : (r.take q).length ≤ q := List.length_take_le _ _; unfold liveL; omega
                clear hff hsl hused hlen
                generalize idxI (r.take q) (-1) = hx at *
                go_wp2_with (first
                  | (go_at_call 30; refine HSLOTS.out.mono ?_; rintro e w5 ⟨rfl, rfl⟩)
                  | (go_at_call 27; refine HBK.out.mono ?_; rintro e w5 ⟨rfl, rfl⟩)
                  | (go_at_call 28; refine HFD.out.mono ?_; rintro e w6 ⟨rfl, _, hk6⟩; have HB6 : Hid (BRow w6 B 60 (seenL T j q)) := hk6.block HB2.out; have cB := HB6.out.at hbl; rw [HFA.out] at cB; have HO6 := Lib.hid (ownsRow_kept HOWN.out hk6); have HT6 := Lib.hid (HBT.out.keep hk6))
                  | (refine wpList_set_bool (o := ⟨none, .store _ _ _, _, _, _, _⟩) HB6.out hbl true rfl _ _ rfl rfl rfl ?_; intro w7 hw7; clear cB; have HB7 : Hid (BRow w7 B 60 ((seenL T j q).set b true)) := hw7.blk; have HO7 := Lib.hid (ownsRow_wrote' hw7 HO6.out hBg); have HT7 := Lib.hid (HT6.out.trans (But.wrote hw7 rfl)); clear hw7)
                  | (at_builtin; refine stop_at ?_))
                refine Stop.mk ?_
                have ka : ∀ o, Kept w7 (w7.alloc o) := fun o => (Kept.refl _).alloc o
                have hwg7 := HT7.out.size
                refine wpList_append_app _ rfl _ _ rfl ty_ints wg.heap.size _ (liveL (r.take q)).length (ints (liveL (r.take q))) rfl (.inl (ownsRow_kept HO7.out (ka _))) _ 1 [.int .i64 b] rfl Src.one (by intro u hu; simp at hu; subst hu; rfl) (by simp only [maxLen]; omega) (by omega) (by simp; omega) ?_
                intro v' w8 _ _ hb8 hown8
                have ho8 := hown8 (.inl (by omega))
                have e1 : ints (liveL (r.take q)) ++ [Value.int .i64 b] = ints (liveL (r.take (q + 1))) := by
                  rw [HSN.out, liveL_snoc _ _ HD.out]; simp [ints]
                have e4 : (liveL (r.take q)).length + 1 = (liveL (r.take (q + 1))).length := by
                  rw [HSN.out, liveL_snoc _ _ HD.out]; simp
                rw [e1, e4] at ho8
                have HO8 := Lib.hid ho8
                have HT8 := Lib.hid ((HT7.out.alloc (.cells #[.int .i64 b] 3)).upto hb8)
                have HB8 : Hid (BRow w8 B 60 (seenL T j (q + 1))) := by
                  rw [HLV.out]
                  exact (hb8.block B hBg).trans ((ka _).block HB7.out)
                clear ho8 hown8 hb8 e1 e4
                go_wp2
                go_roundw
                case rel => exact ⟨q + 1, by omega, by go_num, by rw [HIX.out], HO8.out, HB8.out, HT8.out⟩
                case measure => simp [intOf]; omega
            · obtain rfl : q = r.length := by omega
              rw [List.take_length] at HOWN ⊢
              have hnx := seenL_next HT.out HR.out
              rw [hnx] at HB2
              have hbl := own_Blocks (HOW.out _ HBT.out) HT.out.ok (j : Int) HR.out
              have HBL := Lib.hid hbl; clear hbl
              have HCT := Lib.hid (fun (W : World) (hW : Own w (fun k => k = B) W p T) => own_Count hW HT.out.ok (j : Int) HR.out)
              have hll : (liveL r).length ≤ 4096 := Nat.le_trans (List.length_filter_le _ _) (by omega)
              have HNUM := Lib.hid (fun v1 v2 (W : World) => law_numbers v1 v2 (liveL r) W hll)
              have e2 : (((liveL r).length : Int) != ((liveL r).length : Int)) = false := by simp
              have HNS := Lib.hid (NSl.of_owns HOWN.out)
              have hhole : (idxI r (-1) = -1 ∧ ∀ W, Own w (fun k => k = B) W p T → Calls Try.prog 24 #[.pointer (some ⟨p, 0, none⟩), .int .i64 j] W fun e w' => e = .returned (.tuple #[.int .i64 0, .bool false]) ∧ W = w') ∨
                  ∃ h0 : Nat, idxI r (-1) = h0 ∧ ∀ W, Own w (fun k => k = B) W p T → Calls Try.prog 24 #[.pointer (some ⟨p, 0, none⟩), .int .i64 j] W fun e w' => e = .returned (.tuple #[.int .i64 h0, .bool true]) ∧ W = w' := by
                rcases idxI_range r with hi | ⟨h0, hi⟩
                · exact .inl ⟨hi, fun W hW => own_Hole_none hW HT.out.ok (j : Int) HR.out hi⟩
                · exact .inr ⟨h0, hi, fun W hW => own_Hole_some hW HT.out.ok (j : Int) HR.out hi⟩
              clear hnx hll
              rcases hhole with ⟨hi, hho⟩ | ⟨h0, hi, hho⟩
              · rw [hi]
                have HHO := Lib.hid hho; clear hho
                clear hi
                go_wp2_with (first
                  | (go_at_call 30; refine HSLOTS.out.mono ?_; rintro e w5 ⟨rfl, rfl⟩)
                  | (go_at_call 24; refine (HHO.out _ (HOW.out _ HBT.out)).mono ?_; rintro e w5 ⟨rfl, rfl⟩)
                  | (go_at_call 25; refine HBL.out.mono ?_; rintro e w6 ⟨g1, cap2, rfl, hrow, _, h6, _, hk6⟩; have H6 := Lib.hid h6; have HROW := Lib.hid hrow; clear h6 hrow)
                  | (go_at_call 31; refine (HNUM.out _ _ _ (NSl.of_irow HROW.out) (HNS.out.kept hk6)).mono ?_; rintro e w7 ⟨rfl, hk7⟩; have H7 := Lib.hid (H6.out.kept hk7).1)
                  | (go_at_call 26; refine (HCT.out _ H7.out).mono ?_; rintro e w8 ⟨rfl, h8, _, hk8⟩; have H8 := Lib.hid h8; clear h8))
                go_roundw
                case rel => exact ⟨j + 1, by omega, by go_num, H8.out, ((hk6.trans hk7).trans hk8).block HB2.out⟩
                case measure => simp [intOf]; omega
              · rw [hi]
                have HHO := Lib.hid hho; clear hho
                have e3 : ((h0 : Int) != (h0 : Int)) = false := by simp
                clear hi
                go_wp2_with (first
                  | (go_at_call 30; refine HSLOTS.out.mono ?_; rintro e w5 ⟨rfl, rfl⟩)
                  | (go_at_call 24; refine (HHO.out _ (HOW.out _ HBT.out)).mono ?_; rintro e w5 ⟨rfl, rfl⟩)
                  | (go_at_call 25; refine HBL.out.mono ?_; rintro e w6 ⟨g1, cap2, rfl, hrow, _, h6, _, hk6⟩; have H6 := Lib.hid h6; have HROW := Lib.hid hrow; clear h6 hrow)
                  | (go_at_call 31; refine (HNUM.out _ _ _ (NSl.of_irow HROW.out) (HNS.out.kept hk6)).mono ?_; rintro e w7 ⟨rfl, hk7⟩; have H7 := Lib.hid (H6.out.kept hk7).1)
                  | (go_at_call 26; refine (HCT.out _ H7.out).mono ?_; rintro e w8 ⟨rfl, h8, _, hk8⟩; have H8 := Lib.hid h8; clear h8))
                go_roundw
                case rel => exact ⟨j + 1, by omega, by go_num, H8.out, ((hk6.trans hk7).trans hk8).block HB2.out⟩
                case measure => simp [intOf]; omega
        · have hjk2 := Lib.hid (show j = k from by omega)
          rw [hjk2.out] at HB
          go_wp2
          obtain ⟨wh, rfl⟩ : ∃ wh, wh = wr := ⟨_, rfl⟩
          go_loopw [25] (fun i wr => ∃ q : Nat, q ≤ 64 ∧ i = .int .i64 q ∧ Own w (fun k => k = B) wr p T ∧ BRow wr B 60 (seenL T k 0)) (fun i _ => 64 - (intOf i).toNat)
          case atStart => exact ⟨0, by omega, rfl, HO.out, HB.out⟩
          case round =>
            clear HO HB
            obtain ⟨q, hq, rfl, hO, hB⟩ := hrel
            have HO := Lib.hid hO; clear hO
            have HB := Lib.hid hB; clear hB
            by_cases hql : q < 64
            · have hbl : q < (seenL T k 0).length := by rw [seenL_length]; exact hql
              have hat : (seenL T k 0)[q] = (T.f (q : Int)).isSome := by rw [seenL_at]; exact seenB_end HT.out q
              have hfd := own_FindK HO.out (q : Int) _ rfl
              cases hf : T.f (q : Int) with
              | none =>
                rw [hf] at hat hfd
                simp only [findV] at hfd
                have HAT := Lib.hid hat; clear hat
                have HFD := Lib.hid hfd; clear hfd
                clear hf
                go_wp2_with (go_at_call 28; refine HFD.out.mono ?_; rintro e w6 ⟨rfl, h6, hk6⟩; have H6 := Lib.hid h6; have HB6 : Hid (BRow w6 B 60 (seenL T k 0)) := hk6.block HB.out; have cB := HB6.out.at hbl; rw [HAT.out] at cB; simp only [Option.isSome_none] at cB; clear h6)
                go_roundw
                case rel => exact ⟨q + 1, by omega, by go_num, H6.out, HB6.out⟩
                case measure => simp [intOf]; omega
              | some x =>
                rw [hf] at hat hfd
                simp only [findV] at hfd
                have HAT := Lib.hid hat; clear hat
                have HFD := Lib.hid hfd; clear hfd
                clear hf
                go_wp2_with (go_at_call 28; refine HFD.out.mono ?_; rintro e w6 ⟨rfl, h6, hk6⟩; have H6 := Lib.hid h6; have HB6 : Hid (BRow w6 B 60 (seenL T k 0)) := hk6.block HB.out; have cB := HB6.out.at hbl; rw [HAT.out] at cB; simp only [Option.isSome_some] at cB; clear h6)
                go_roundw
                case rel => exact ⟨q + 1, by omega, by go_num, H6.out, HB6.out⟩
                case measure => simp [intOf]; omega
            · go_wp2
              go_ret
              exact ⟨rfl, HO.out.keeps⟩
end
end Go.Proofs.Ytpnpconphpbcaaa
