/- PoA: several texts in one: Del Sdr Apl. -/
import Derived.Test.YtiijfocdjcjlaaaGreatPnA
/- slices.DeleteFunc at groups and at numbers (gen_del.py). -/
namespace Go.Proofs.YtiijfocdjcjlaaaGreat
open Go.RowKit Go.ChangeMaps Go.MapKept
set_option linter.unusedVariables false
set_option linter.unusedSimpArgs false
set_option maxRecDepth 100000
set_option maxHeartbeats 1000000
theorem zero_grpA (w : World) : (zeroValue 37).run Tryz.prog w = .ok (.agg [.int .i64 0, .int .i64 0, .slice none 0 0].toArray) w := by kernel_rfl
theorem del_g (p : Gw → Bool) (l : List Gw) (v : Value) (lo hi : Nat) (fn : Nat) (bd caps : Array Value) (w : World) (hlen : l.length ≤ 4096) (hO : Own 37 grw 3 w lo hi v l) (h1 : ∀ x ∈ l, x.2.2.oneCell' = true)
    (hent : ∀ (xs : Array Value) (w1 : World), (callFunc fn xs).run Tryz.prog w1 = .ok (.enter fn xs) w1)
    (hcall : ∀ (x : Gw) (W : World), But (fun k => lo ≤ k ∧ k < hi) w W → Calls Tryz.prog fn (bd.push (.agg (grw x).toArray) ++ caps) W fun e w' => e = .returned (.bool (p x)) ∧ Kept W w') :
    Calls Tryz.prog 114 #[v, .func (.func fn) bd caps] w fun e w' => ∃ v', e = .returned v' ∧ Own 37 grw 3 w' lo hi v' (l.filter fun x => !p x) ∧ But (fun k => lo ≤ k ∧ k < hi) w w' := by
  have HCALL := Lib.hid hcall; clear hcall
  have HO := Lib.hid hO
  have H1 := Lib.hid h1; clear h1
  have hidx := idx_g (fun (s : Unit) x => (p x, s)) (fun _ W => Kept w W) (fun _ => False) () l fn bd caps v w hlen (fun _ W h => (hO.rsl grw_len).kept h) (Kept.refl w) ⟨hent, fun s x w1 h => (HCALL.out x w1 (But.kept h)).mono (by rintro e w2 ⟨rfl, hk⟩; exact ⟨rfl, h.trans hk, KeptX.of hk⟩)⟩
  rw [idxF_plain0] at hidx
  obtain ⟨oa, cap, rfl⟩ := hO.form
  clear hO
  have HIDX := Lib.hid hidx; clear hidx
  rcases idxP_cases p l with ⟨hi0, hno⟩ | ⟨k0, hk0, hi0, hp0, hfind⟩
  · rw [hi0] at HIDX
    have HF := Lib.hid (show l.filter (fun x => !p x) = l by rw [List.filter_eq_self]; intro x hx; simp [hno x hx])
    clear hi0 hno
    go_enter Tryz.func114, Tryz.ntmps114
    go_wp2_with fail
    refine Calls.mono HIDX.out ?_
    rintro e w1 ⟨rfl, hk1, _⟩
    go_wp2
    go_ret
    exact ⟨_, rfl, by rw [HF.out]; exact HO.out.kept hk1, But.kept hk1⟩
  · rw [hi0] at HIDX
    have hlp : 0 < l.length := by omega
    obtain ⟨G, cap', junk, hsl, hG1, hG2, hblk, hj, hc1, hc2⟩ := HO.out.blk hlp
    injection hsl with e1 e2 e3
    subst e1 e3
    unfold maxLen at hc2
    have HBLK := Lib.hid hblk; clear hblk
    have hpre : l.take k0 = l.take k0 := rfl
    have HPRE := Lib.hid (show (l.take k0).filter (fun x => !p x) = l.take k0 ∧ p l[k0] = true by
      refine ⟨?_, hp0⟩
      rw [List.filter_eq_self]
      intro x hx
      obtain ⟨i, hi, rfl⟩ := List.getElem_of_mem hx
      rw [List.getElem_take]
      have hik : i < k0 := by simp at hi; omega
      cases hpx : p l[i] with
      | false => rfl
      | true =>
        exfalso
        have := hi0
        unfold idxP at this
        cases hfx : l.findIdx? p with
        | none => rw [hfx] at this; simp at this
        | some q =>
          rw [hfx] at this
          have hq : q = k0 := by have h : (q : Int) = (k0 : Int) := this; omega
          subst hq
          have := (List.findIdx?_eq_some_iff_getElem.1 hfx).2.2 i hik
          rw [hpx] at this; simp at this)
    clear hi0 hp0 hfind hpre
    go_enter Tryz.func114, Tryz.ntmps114
    go_wp2_with fail
    refine Calls.mono HIDX.out ?_
    rintro e w1 ⟨rfl, hk1, _⟩
    have HK1 := Lib.hid hk1
    have HBLK1 := Lib.hid (show RBlk grw w1 G 37 l junk from hk1.block HBLK.out)
    clear hk1 HIDX HBLK
    have hneg : ((k0 : Int) == -1) = false := by simp
    go_wp2
    clear hneg
    go_loopw [6, 5] (fun jv iv wr => ∃ (j i : Nat) (L : List Gw), j ≤ l.length ∧ i < j ∧ jv = .int .i64 (j : Int) ∧ iv = .int .i64 (i : Int) ∧ Hid (But (fun k => lo ≤ k ∧ k < hi) w wr ∧ L.length = l.length ∧ L.take i = (l.take j).filter (fun x => !p x) ∧ L.drop j = l.drop j ∧ RBlk grw wr G 37 L junk)) (fun jv _ _ => l.length - (intOf jv).toNat)
    case atStart =>
      refine ⟨k0 + 1, k0, l, by omega, by omega, by go_num, rfl, Lib.hid ⟨But.kept HK1.out, rfl, ?_, rfl, HBLK1.out⟩⟩
      rw [List.take_succ_eq_append_getElem hk0, List.filter_append, HPRE.out.1]
      simp [HPRE.out.2]
    case round =>
      obtain ⟨j, i, L, hjl, hij, rfl, rfl, HR⟩ := hrel
      have hLl := HR.out.2.1
      have HLL := Lib.hid hLl
      by_cases hlt : j < l.length
      · have hjL : j < L.length := by omega
        have hiL : i < L.length := by omega
        have hLj : L[j] = l[j] := by
          have := congrArg (fun t => t[0]?) HR.out.2.2.2.1
          simp only [List.getElem?_drop, Nat.add_zero] at this
          rw [List.getElem?_eq_getElem hjL, List.getElem?_eq_getElem hlt] at this
          exact Option.some.inj this
        have hcs := HR.out.2.2.2.2.cells grw_len hjL
        rw [hLj] at hcs
        have c0 := hcs 0 (by rw [grw_len]; decide)
        have c1 := hcs 1 (by rw [grw_len]; decide)
        have c2 := hcs 2 (by rw [grw_len]; decide)
        simp only [Nat.add_zero, Nat.mul_one, grw, List.getElem_cons_zero, List.getElem_cons_succ] at c0 c1 c2
        clear hcs hLj hLl
        have HONE := Lib.hid (show ∀ u ∈ grw l[j], u.oneCell' = true from fun u hu => by simp only [grw, List.mem_cons, List.not_mem_nil, or_false] at hu; rcases hu with rfl | rfl | rfl; rfl; rfl; exact H1.out _ (List.getElem_mem _))
        go_wp2_with (refine stop_at (o := ⟨some 7, .alloc _, _, _, _, _⟩) ?_)
        refine Stop.mk ?_
        refine wpList_alloc_abs rfl _ rfl _ zero_grpA ?_
        intro w3 hz3 hs3 hs3' hk3
        go_wp2_with (refine stop_at (o := ⟨none, .store _ _ _, _, _, _, _⟩) ?_)
        refine Stop.mk ?_
        refine wpList_store_agg (o := ⟨none, .store _ _ _, _, _, _, _⟩) rfl _ _ rfl agT_grp wr.heap.size 0 rfl (grw l[j]) rfl rfl HONE.out _ _ hz3.out (by simp) ?_
        intro w4 hw4
        replace hw4 := hw4.all rfl
        have hkr4 : Kept wr w4 := hw4.kept hk3 (Nat.le_refl _)
        have hcn := hw4.cells
        have n0 := hcn 0 (by rw [grw_len]; decide)
        have n1 := hcn 1 (by rw [grw_len]; decide)
        have n2 := hcn 2 (by rw [grw_len]; decide)
        simp only [Nat.add_zero, Nat.zero_add, grw, List.getElem_cons_zero, List.getElem_cons_succ] at n0 n1 n2
        have HB4 := Lib.hid (HR.out.1.keep hkr4)
        have HR4 := Lib.hid (show RBlk grw w4 G 37 L junk from hkr4.block HR.out.2.2.2.2)
        clear hz3 hs3 hs3' hk3 hw4 hkr4 hcn c0 c1 c2
        generalize wr.heap.size = Y at *
        have hC := HCALL.out l[j] w4 HB4.out
        try dsimp only at hC
        try simp only [grw] at hC
        cases hp : p l[j] with
        | true =>
          rw [hp] at hC
          have HP := Lib.hid hp; clear hp
          have HCC := Lib.hid hC; clear hC
          go_wp2_with (refine HCC.out.mono ?_; rintro e w5 ⟨rfl, hk5⟩)
          go_roundw
          case rel =>
            refine ⟨j + 1, i, L, by omega, by omega, by go_num, rfl, Lib.hid ⟨HB4.out.keep hk5, HLL.out, ?_, ?_, hk5.block HR4.out⟩⟩
            · rw [List.take_succ_eq_append_getElem hlt, List.filter_append, ← HR.out.2.2.1]; simp [HP.out]
            · have := HR.out.2.2.2.1
              have h2 := congrArg (List.drop 1) this
              simpa [List.drop_drop] using h2
          case measure => simp [intOf]; omega
        | false =>
          rw [hp] at hC
          have HP := Lib.hid hp; clear hp
          have HCC := Lib.hid hC; clear hC
          go_wp2_with fail
          refine HCC.out.mono ?_
          rintro e w5 ⟨rfl, hk5⟩
          replace n0 := hk5.cell' n0; replace n1 := hk5.cell' n1; replace n2 := hk5.cell' n2
          have HB5 := Lib.hid (HB4.out.keep hk5)
          have HR5 := Lib.hid (show RBlk grw w5 G 37 L junk from hk5.block HR4.out)
          have hfit : (L.flatMap grw ++ junk).length = l.length * 3 + junk.length := by rw [List.length_append, flat_len grw_len, HLL.out]
          have HFIT := Lib.hid hfit
          have hic1 : (0 : Int) ≤ (i : Int) := by omega
          have hic2 : (i : Int) < (l.length : Int) := by omega
          clear hfit hk5
          go_wp2_with (refine stop_at (o := ⟨none, .store _ _ _, _, _, _, _⟩) ?_)
          refine Stop.mk ?_
          refine wpList_store_agg (o := ⟨none, .store _ _ _, _, _, _, _⟩) rfl _ _ rfl agT_grp G (i * 3) rfl (grw l[j]) rfl rfl HONE.out (L.flatMap grw ++ junk) 37 HR5.out (by rw [HFIT.out]; omega) ?_
          intro w6 hw6
          rw [flat_splice grw_len _ _ hiL] at hw6
          have HW6 := Lib.hid hw6
          have HB6 := Lib.hid (HB5.out.trans (But.wrote (S := fun k => lo ≤ k ∧ k < hi) hw6 ⟨hG1, hG2⟩))
          clear hw6
          go_wp2
          go_roundw
          case rel =>
            refine ⟨j + 1, i + 1, L.set i l[j], by omega, by omega, by go_num, by go_num, Lib.hid ⟨HB6.out, by rw [List.length_set]; exact HLL.out, ?_, ?_, HW6.out.blk⟩⟩
            · rw [List.take_succ_eq_append_getElem hlt, List.filter_append, ← HR.out.2.2.1]
              rw [List.take_succ_eq_append_getElem (by rw [List.length_set]; exact hiL), List.getElem_set_self, List.take_set_of_le (Nat.le_refl _)]
              simp [HP.out]
            · have := HR.out.2.2.2.1
              have h2 := congrArg (List.drop 1) this
              rw [List.drop_set_of_lt (by omega)]
              simpa [List.drop_drop] using h2
          case measure => simp [intOf]; omega
      · have hfit : (L.flatMap grw ++ junk).length = l.length * 3 + junk.length := by rw [List.length_append, flat_len grw_len, HLL.out]
        have HFIT := Lib.hid hfit; clear hfit
        have hic1 : (0 : Int) ≤ (i : Int) := by omega
        have hic2 : (i : Int) ≤ (l.length : Int) := by omega
        have hi2 : i ≤ l.length := by omega
        have hi3 : i ≤ cap := by omega
        go_wp2_with (refine stop_at (o := ⟨none, .call _, _, _, _, _⟩) ?_)
        refine Stop.mk ?_
        refine wpList_clear_rows (n := 3) rfl _ rfl Tryz.underlying23 zero_g rfl (by intro u hu; simp [Value.cells] at hu; rcases hu with rfl | rfl <;> rfl) G (i * 3) (l.length - i) (cap - i) rfl (L.flatMap grw ++ junk) 37 HR.out.2.2.2.2 (by rw [HFIT.out]; omega) ?_
        intro w2 zs hzs hw2
        have hrb : RBlk grw w2 G 37 (L.take i) (zs ++ junk) := by
          have hb := hw2.blk
          unfold RBlk
          rw [hb]
          congr 3
          have e1 : (L.flatMap grw ++ junk).take (i * 3) = (L.take i).flatMap grw := by
            have e2 : L = L.take i ++ L.drop i := (List.take_append_drop i L).symm
            have hti : (L.take i).length = i := by rw [List.length_take]; omega
            conv => lhs; rw [e2, List.flatMap_append, List.append_assoc]
            rw [List.take_append_of_le_length (by rw [flat_len grw_len, hti]; omega), List.take_of_length_le (by rw [flat_len grw_len, hti]; omega)]
          have e3 : (L.flatMap grw ++ junk).drop (i * 3 + zs.length) = junk := by
            rw [hzs, show i * 3 + (l.length - i) * 3 = (L.flatMap grw).length by rw [flat_len grw_len, HLL.out]; omega, List.drop_left']
            rfl
          simp only [splice, e1, e3, List.append_assoc]
        have hti : (L.take i).length = i := by rw [List.length_take, HLL.out]; omega
        have hown := Own.of_blk (lo := lo) (hi := hi) (cap := cap) grw_len hrb hG1 hG2 (by rw [hti, List.length_append, hzs]; omega) (by rw [hti]; omega) (by unfold maxLen; omega)
        rw [hti] at hown
        have HOWN := Lib.hid hown
        have HB2 := Lib.hid (HR.out.1.trans (But.wrote (S := fun k => lo ≤ k ∧ k < hi) hw2 ⟨hG1, hG2⟩))
        clear hown hrb hw2 hzs hti
        go_wp2
        go_ret
        refine ⟨_, rfl, ?_, HB2.out⟩
        have h := HOWN.out
        rw [HR.out.2.2.1, List.take_of_length_le (by omega)] at h
        exact h
theorem del_i (p : Int → Bool) (l : List Int) (v : Value) (lo hi : Nat) (fn : Nat) (bd caps : Array Value) (w : World) (hlen : l.length ≤ 4096) (hO : Own 3 oneV 1 w lo hi v l)
    (hent : ∀ (xs : Array Value) (w1 : World), (callFunc fn xs).run Tryz.prog w1 = .ok (.enter fn xs) w1)
    (hcall : ∀ (x : Int) (W : World), But (fun k => lo ≤ k ∧ k < hi) w W → Calls Tryz.prog fn (bd.push (.int .i64 x) ++ caps) W fun e w' => e = .returned (.bool (p x)) ∧ Kept W w') :
    Calls Tryz.prog 91 #[v, .func (.func fn) bd caps] w fun e w' => ∃ v', e = .returned v' ∧ Own 3 oneV 1 w' lo hi v' (l.filter fun x => !p x) ∧ But (fun k => lo ≤ k ∧ k < hi) w w' := by
  have HCALL := Lib.hid hcall; clear hcall
  have HO := Lib.hid hO
  have hidx := idx_i (fun (s : Unit) x => (p x, s)) (fun _ W => Kept w W) (fun _ => False) () l fn bd caps v w hlen (fun _ W h => (hO.rsl oneV_len).kept h) (Kept.refl w) ⟨hent, fun s x w1 h => (HCALL.out x w1 (But.kept h)).mono (by rintro e w2 ⟨rfl, hk⟩; exact ⟨rfl, h.trans hk, KeptX.of hk⟩)⟩
  rw [idxF_plain0] at hidx
  obtain ⟨oa, cap, rfl⟩ := hO.form
  clear hO
  have HIDX := Lib.hid hidx; clear hidx
  rcases idxP_cases p l with ⟨hi0, hno⟩ | ⟨k0, hk0, hi0, hp0, hfind⟩
  · rw [hi0] at HIDX
    have HF := Lib.hid (show l.filter (fun x => !p x) = l by rw [List.filter_eq_self]; intro x hx; simp [hno x hx])
    clear hi0 hno
    go_enter Tryz.func91, Tryz.ntmps91
    go_wp2_with fail
    refine Calls.mono HIDX.out ?_
    rintro e w1 ⟨rfl, hk1, _⟩
    go_wp2
    go_ret
    exact ⟨_, rfl, by rw [HF.out]; exact HO.out.kept hk1, But.kept hk1⟩
  · rw [hi0] at HIDX
    have hlp : 0 < l.length := by omega
    obtain ⟨G, cap', junk, hsl, hG1, hG2, hblk, hj, hc1, hc2⟩ := HO.out.blk hlp
    injection hsl with e1 e2 e3
    subst e1 e3
    unfold maxLen at hc2
    have HBLK := Lib.hid hblk; clear hblk
    have hpre : l.take k0 = l.take k0 := rfl
    have HPRE := Lib.hid (show (l.take k0).filter (fun x => !p x) = l.take k0 ∧ p l[k0] = true by
      refine ⟨?_, hp0⟩
      rw [List.filter_eq_self]
      intro x hx
      obtain ⟨i, hi, rfl⟩ := List.getElem_of_mem hx
      rw [List.getElem_take]
      have hik : i < k0 := by simp at hi; omega
      cases hpx : p l[i] with
      | false => rfl
      | true =>
        exfalso
        have := hi0
        unfold idxP at this
        cases hfx : l.findIdx? p with
        | none => rw [hfx] at this; simp at this
        | some q =>
          rw [hfx] at this
          have hq : q = k0 := by have h : (q : Int) = (k0 : Int) := this; omega
          subst hq
          have := (List.findIdx?_eq_some_iff_getElem.1 hfx).2.2 i hik
          rw [hpx] at this; simp at this)
    clear hi0 hp0 hfind hpre
    go_enter Tryz.func91, Tryz.ntmps91
    go_wp2_with fail
    refine Calls.mono HIDX.out ?_
    rintro e w1 ⟨rfl, hk1, _⟩
    have HK1 := Lib.hid hk1
    have HBLK1 := Lib.hid (show RBlk oneV w1 G 3 l junk from hk1.block HBLK.out)
    clear hk1 HIDX HBLK
    have hneg : ((k0 : Int) == -1) = false := by simp
    go_wp2
    clear hneg
    go_loopw [6, 5] (fun jv iv wr => ∃ (j i : Nat) (L : List Int), j ≤ l.length ∧ i < j ∧ jv = .int .i64 (j : Int) ∧ iv = .int .i64 (i : Int) ∧ Hid (But (fun k => lo ≤ k ∧ k < hi) w wr ∧ L.length = l.length ∧ L.take i = (l.take j).filter (fun x => !p x) ∧ L.drop j = l.drop j ∧ RBlk oneV wr G 3 L junk)) (fun jv _ _ => l.length - (intOf jv).toNat)
    case atStart =>
      refine ⟨k0 + 1, k0, l, by omega, by omega, by go_num, rfl, Lib.hid ⟨But.kept HK1.out, rfl, ?_, rfl, HBLK1.out⟩⟩
      rw [List.take_succ_eq_append_getElem hk0, List.filter_append, HPRE.out.1]
      simp [HPRE.out.2]
    case round =>
      obtain ⟨j, i, L, hjl, hij, rfl, rfl, HR⟩ := hrel
      have hLl := HR.out.2.1
      have HLL := Lib.hid hLl
      by_cases hlt : j < l.length
      · have hjL : j < L.length := by omega
        have hiL : i < L.length := by omega
        have hLj : L[j] = l[j] := by
          have := congrArg (fun t => t[0]?) HR.out.2.2.2.1
          simp only [List.getElem?_drop, Nat.add_zero] at this
          rw [List.getElem?_eq_getElem hjL, List.getElem?_eq_getElem hlt] at this
          exact Option.some.inj this
        have hcs := HR.out.2.2.2.2.cells oneV_len hjL
        rw [hLj] at hcs
        have c0 := hcs 0 (by rw [oneV_len]; decide)
        simp only [Nat.add_zero, Nat.mul_one, oneV, List.getElem_cons_zero, List.getElem_cons_succ] at c0
        clear hcs hLj hLl
        skip
        have HB4 := Lib.hid HR.out.1
        have HR4 := Lib.hid HR.out.2.2.2.2
        have hC := HCALL.out l[j] wr HB4.out
        try dsimp only at hC
        try simp only [oneV] at hC
        cases hp : p l[j] with
        | true =>
          rw [hp] at hC
          have HP := Lib.hid hp; clear hp
          have HCC := Lib.hid hC; clear hC
          go_wp2_with (refine HCC.out.mono ?_; rintro e w5 ⟨rfl, hk5⟩)
          go_roundw
          case rel =>
            refine ⟨j + 1, i, L, by omega, by omega, by go_num, rfl, Lib.hid ⟨HB4.out.keep hk5, HLL.out, ?_, ?_, hk5.block HR4.out⟩⟩
            · rw [List.take_succ_eq_append_getElem hlt, List.filter_append, ← HR.out.2.2.1]; simp [HP.out]
            · have := HR.out.2.2.2.1
              have h2 := congrArg (List.drop 1) this
              simpa [List.drop_drop] using h2
          case measure => simp [intOf]; omega
        | false =>
          rw [hp] at hC
          have HP := Lib.hid hp; clear hp
          have HCC := Lib.hid hC; clear hC
          go_wp2_with fail
          refine HCC.out.mono ?_
          rintro e w5 ⟨rfl, hk5⟩
          skip
          have HB5 := Lib.hid (HB4.out.keep hk5)
          have HR5 := Lib.hid (show RBlk oneV w5 G 3 L junk from hk5.block HR4.out)
          have hfit : (L.flatMap oneV ++ junk).length = l.length * 1 + junk.length := by rw [List.length_append, flat_len oneV_len, HLL.out]
          have HFIT := Lib.hid hfit
          have hic1 : (0 : Int) ≤ (i : Int) := by omega
          have hic2 : (i : Int) < (l.length : Int) := by omega
          clear hfit hk5
          go_wp2_with (refine stop_at (o := ⟨none, .store _ _ _, _, _, _, _⟩) ?_)
          refine Stop.mk ?_
          refine wpList_set_cell (o := ⟨none, .store _ _ _, _, _, _, _⟩) rfl _ _ rfl size_int G i rfl (.int .i64 l[j]) rfl rfl rfl (L.flatMap oneV ++ junk) 3 HR5.out (by rw [HFIT.out]; omega) ?_
          intro w6 hw6
          rw [flat_set1 _ _ hiL] at hw6
          have HW6 := Lib.hid hw6
          have HB6 := Lib.hid (HB5.out.trans (But.wrote (S := fun k => lo ≤ k ∧ k < hi) hw6 ⟨hG1, hG2⟩))
          clear hw6
          go_wp2
          go_roundw
          case rel =>
            refine ⟨j + 1, i + 1, L.set i l[j], by omega, by omega, by go_num, by go_num, Lib.hid ⟨HB6.out, by rw [List.length_set]; exact HLL.out, ?_, ?_, HW6.out.blk⟩⟩
            · rw [List.take_succ_eq_append_getElem hlt, List.filter_append, ← HR.out.2.2.1]
              rw [List.take_succ_eq_append_getElem (by rw [List.length_set]; exact hiL), List.getElem_set_self, List.take_set_of_le (Nat.le_refl _)]
              simp [HP.out]
            · have := HR.out.2.2.2.1
              have h2 := congrArg (List.drop 1) this
              rw [List.drop_set_of_lt (by omega)]
              simpa [List.drop_drop] using h2
          case measure => simp [intOf]; omega
      · have hfit : (L.flatMap oneV ++ junk).length = l.length * 1 + junk.length := by rw [List.length_append, flat_len oneV_len, HLL.out]
        have HFIT := Lib.hid hfit; clear hfit
        have hic1 : (0 : Int) ≤ (i : Int) := by omega
        have hic2 : (i : Int) ≤ (l.length : Int) := by omega
        have hi2 : i ≤ l.length := by omega
        have hi3 : i ≤ cap := by omega
        go_wp2_with (refine stop_at (o := ⟨none, .call _, _, _, _, _⟩) ?_)
        refine Stop.mk ?_
        refine wpList_clear_rows (n := 1) rfl _ rfl Tryz.underlying25 zero_i rfl (by intro u hu; simp [Value.cells] at hu; subst hu; rfl) G (i) (l.length - i) (cap - i) rfl (L.flatMap oneV ++ junk) 3 HR.out.2.2.2.2 (by rw [HFIT.out]; omega) ?_
        intro w2 zs hzs hw2
        have hrb : RBlk oneV w2 G 3 (L.take i) (zs ++ junk) := by
          have hb := hw2.blk
          unfold RBlk
          rw [hb]
          congr 3
          have e1 : (L.flatMap oneV ++ junk).take (i) = (L.take i).flatMap oneV := by
            have e2 : L = L.take i ++ L.drop i := (List.take_append_drop i L).symm
            have hti : (L.take i).length = i := by rw [List.length_take]; omega
            conv => lhs; rw [e2, List.flatMap_append, List.append_assoc]
            rw [List.take_append_of_le_length (by rw [flat_len oneV_len, hti]; omega), List.take_of_length_le (by rw [flat_len oneV_len, hti]; omega)]
          have e3 : (L.flatMap oneV ++ junk).drop (i + zs.length) = junk := by
            rw [hzs, show i + (l.length - i) * 1 = (L.flatMap oneV).length by rw [flat_len oneV_len, HLL.out]; omega, List.drop_left']
            rfl
          simp only [splice, e1, e3, List.append_assoc]
        have hti : (L.take i).length = i := by rw [List.length_take, HLL.out]; omega
        have hown := Own.of_blk (lo := lo) (hi := hi) (cap := cap) oneV_len hrb hG1 hG2 (by rw [hti, List.length_append, hzs]; omega) (by rw [hti]; omega) (by unfold maxLen; omega)
        rw [hti] at hown
        have HOWN := Lib.hid hown
        have HB2 := Lib.hid (HR.out.1.trans (But.wrote (S := fun k => lo ≤ k ∧ k < hi) hw2 ⟨hG1, hG2⟩))
        clear hown hrb hw2 hzs hti
        go_wp2
        go_ret
        refine ⟨_, rfl, ?_, HB2.out⟩
        have h := HOWN.out
        rw [HR.out.2.2.1, List.take_of_length_le (by omega)] at h
        exact h
end Go.Proofs.YtiijfocdjcjlaaaGreat
/- state.doDrop (gen_sdr.py, XSdr.head). -/
namespace Go.Proofs.YtiijfocdjcjlaaaGreat
open Go.RowKit Go.ChangeMaps Go.MapKept
set_option linter.unusedVariables false
set_option linter.unusedSimpArgs false
set_option maxRecDepth 100000
set_option maxHeartbeats 1000000
theorem exec_load_agg {P : Program} {w : World} {a : Act} {o : Oper} {ty n : Nat} (x : Operand) (ho : o.op = .load ty x) (hT : AggT P ty n) (b off : Nat) (hx : a.eval x = .pointer (some ⟨b, off, none⟩)) (xs : List Value) (hc : Cells w b off xs) (hl : xs.length = n) :
    (execOp a.eval o).run P w = .ok (.value (.agg xs.toArray)) w := by
  obtain ⟨⟨d, hd1, hd2⟩, hs⟩ := hT
  unfold execOp
  simp only [ho, hx, Instr.loadAt, Instr.sureAddr, Sem.run_bind, Sem.run_pure, Result.andThen_ok, run_loadVar_mid w b off ty xs d (rangeAt_of_cells hc) hd1 hd2 (by rw [hs, hl])]
theorem GRels.filter {W : World} (p : Int → Bool) : ∀ {raw : List Gw} {gs : List Grp}, GRels W raw gs → GRels W (raw.filter fun x => p x.1) (gs.filter fun g => p g.id)
  | [], [], _ => ⟨rfl, fun k h => by cases h⟩
  | x :: raw, [], h => by have := h.len; simp at this
  | [], g :: gs, h => by have := h.len; simp at this
  | x :: raw, g :: gs, h => by
    have h0 := h.at_ 0 (by simp) (by simp)
    have ih := GRels.filter p h.tail
    have hid := h0.id
    simp only [List.getElem_cons_zero] at h0 hid
    rw [List.filter_cons, List.filter_cons, hid]
    cases p g.id with
    | false => exact ih
    | true =>
      refine ⟨by simp [ih.len], fun k h1 h2 => ?_⟩
      rcases k with _ | k
      · exact h0
      · exact ih.at_ k (by simpa using h1) (by simpa using h2)
/-- behind a step: the state in block X, its slices anywhere -/
def Stepped (W : World) (X b0 base : Nat) (s : St) : Prop := ∃ sm sg sp sd raw, W.heap[X]? = some (.cells (stC s sm sg sp sd).toArray 31 (0, 0)) ∧ ∀ W', But (fun k => b0 ≤ k ∧ k < base) W W' → StM W' s sm sg sp sd raw
theorem drop1 (x : Gw) (id : Int) (rb : Nat) (w : World) (hc : w.cell? ⟨rb, 5, none⟩ = some (.int .i64 id)) :
    Calls Tryz.prog 115 #[.agg (grw x).toArray, .pointer (some ⟨rb, 0, none⟩)] w fun e w' => e = .returned (.bool (x.1 == id)) ∧ Kept w w' := by
  have hB : ∀ o, Kept w (w.alloc o) := fun o => (Kept.refl _).alloc o
  have HB := Lib.hid hB; clear hB
  have hlt := World.block_lt_of_cell? _ _ hc
  simp only [grw]
  go_enter Tryz.func115, Tryz.ntmps115
  go_wp2
  go_ret
  exact ⟨rfl, HB.out _⟩
theorem drop2 (x : Int) (id : Int) (rb : Nat) (w : World) (hc : w.cell? ⟨rb, 5, none⟩ = some (.int .i64 id)) :
    Calls Tryz.prog 116 #[.int .i64 x, .pointer (some ⟨rb, 0, none⟩)] w fun e w' => e = .returned (.bool (x == id)) ∧ Kept w w' := by
  go_enter Tryz.func116, Tryz.ntmps116
  go_wp2
  go_ret
  exact ⟨rfl, Kept.refl _⟩
def dropS (s : St) (id : Int) : St := { s with gs := s.gs.filter (fun g => !(g.id == id)), dirty := s.dirty.filter (fun d => !(d == id)) }
theorem stC_set2 (s s' : St) (sm sg sp sd sg' : Value) (hb : s'.blocks = s.blocks) (hp : s'.plug = s.plug) : (stC s sm sg sp sd).set 2 sg' = stC s' sm sg' sp sd := by
  unfold stC; rw [hb, hp]; rfl
theorem stC_set4 (s s' : St) (sm sg sp sd sd' : Value) (hb : s'.blocks = s.blocks) (hp : s'.plug = s.plug) : (stC s sm sg sp sd).set 4 sd' = stC s' sm sg sp sd' := by
  unfold stC; rw [hb, hp]; rfl
theorem stC_set1 (s s' : St) (sm sg sp sd sm' : Value) (hb : s'.blocks = s.blocks) (hp : s'.plug = s.plug) : (stC s sm sg sp sd).set 1 sm' = stC s' sm' sg sp sd := by
  unfold stC; rw [hb, hp]; rfl
theorem st_doDrop (s : St) (X b0 base b1 b2 b3 b4 : Nat) (sm sg sp sd : Value) (raw : List Gw) (id : Int) (w : World) (hO : StO w b0 base b1 b2 b3 b4 s sm sg sp sd raw) (hX0 : b0 ≤ X) (hX1 : X < base) (hX : w.heap[X]? = some (.cells (stC s sm sg sp sd).toArray 31 (0, 0))) :
    Calls Tryz.prog 86 #[.pointer (some ⟨X, 0, none⟩), .agg (rcDrop id).toArray] w fun e w' => ∃ c, e = .returned (.int .i64 c) ∧ (s.gs.find? (fun g => g.id == id) = none → c = 8) ∧ (s.gs.find? (fun g => g.id == id) ≠ none → c = 0 ∧ Stepped w' X b0 base (dropS s id)) ∧ But (fun k => k = X ∨ (base ≤ k ∧ k < b4)) w w' := by
  obtain ⟨og, cg, rfl⟩ := hO.g.form
  obtain ⟨od, cd, rfl⟩ := hO.d.form
  have hl0 := hO.le0; have hl1 := hO.le1; have hl2 := hO.le2; have hl3 := hO.le3; have hl4 := hO.le4; have hl5 := hO.le5
  have hrel := hO.ext w (But.refl _ _)
  have hlr : raw.length = s.gs.length := hrel.len
  have hfind := hrel.find id
  have HO := Lib.hid hO; have HX := Lib.hid hX
  have HL := Lib.hid (show (stC s sm (.slice og raw.length cg) sp (.slice od s.dirty.length cd)).length = 136 from stv_len (plv_len hO.plug))
  have hF := fun (W : World) (hk : Kept w W) => st_find s.blocks sm sp (.slice od s.dirty.length cd) (plv s.plug) (plv_len hO.plug) raw og cg id W (by rw [hlr]; exact hO.lgs) ((hO.g.rsl grw_len).kept hk)
  have HF0 := Lib.hid hF
  have HREL := Lib.hid hrel
  clear hF hO hX hlr hrel
  go_enter Tryz.func86, Tryz.ntmps86
  go_wp2_with (refine stop_at (o := ⟨some 3, _, _, _, _, _⟩) ?_)
  refine Stop.mk ?_
  refine wpList_box_rowS rfl _ _ rfl (rcDrop id) rfl ?_
  intro w1 hz1 hs1 hk1
  obtain ⟨rb, hrb⟩ : ∃ rb, rb = w.heap.size := ⟨_, rfl⟩
  rw [← hrb] at hz1 ⊢
  have hrb4 : b4 ≤ rb := by omega
  have cid : w1.cell? ⟨rb, 5, none⟩ = some (.int .i64 id) := (Cells.of_block hz1.out) 5 (by show 5 < 142; decide)
  have HK1 := Lib.hid hk1
  have HX1 := Lib.hid (hk1.block HX.out)
  clear hz1 hs1 hk1 hrb
  have hS : (fun (W : World) => W.cell? ⟨rb, 5, none⟩ = some (.int .i64 id) ∧ Cells W X 0 (stC s sm (.slice og raw.length cg) sp (.slice od s.dirty.length cd))) w1.drew := ⟨cid, Cells.of_block HX1.out⟩
  have HDR := Lib.hid (show Kept w w1.drew from HK1.out.drew)
  have HD1 := Lib.hid (show Kept w1 w1.drew from (Kept.refl _).drew)
  clear cid
  rcases hfind with ⟨e1, e2⟩ | ⟨k, h1, h2, e1, e2⟩
  · have hfp : findP raw og id = .pointer none := by unfold findP; rw [e1]
    have HF : Hid (∀ (W : World), Kept w W → Calls Tryz.prog 20 #[.agg (stC s sm (.slice og raw.length cg) sp (.slice od s.dirty.length cd)).toArray, .int .i64 id] W fun e w' => e = .returned (.pointer none) ∧ Kept W w') := Lib.hid (fun W hk => by have := HF0.out W hk; rw [hfp] at this; exact this)
    have HE := Lib.hid e2
    clear hfp e1 e2 HF0
    go_upto_region 1 with fail
    refine wp_region_calm ?_
    refine wp_region_E (fun (W : World) => W.cell? ⟨rb, 5, none⟩ = some (.int .i64 id) ∧ Cells W X 0 (stC s sm (.slice og raw.length cg) sp (.slice od s.dirty.length cd))) 100 (by kernel_rfl) ?_
    refine wpAnyE_take (i := 0) (v := .pointer (some ⟨X, 0, none⟩)) (listed' := #[true, false, false, false, false, false, false]) (by rfl) (by kernel_rfl) (by kernel_rfl) calm_put hS (by rfl) ?_ ?_
    · intro W hW; clear hW; go_simp; try (with_reducible rfl)
    simp only [Act.put, List.getElem_toArray, List.getElem_cons_succ, List.getElem_cons_zero, List.setIfInBounds_toArray, List.set_cons_zero, List.set_cons_succ]
    refine wpAnyE_take (i := 1) (v := .pointer (some ⟨X, 0, none⟩)) (listed' := #[true, true, false, false, false, false, false]) (by rfl) (by kernel_rfl) (by kernel_rfl) calm_put hS (by rfl) ?_ ?_
    · intro W hW; clear hW; go_simp; try (with_reducible rfl)
    simp only [Act.put, List.getElem_toArray, List.getElem_cons_succ, List.getElem_cons_zero, List.setIfInBounds_toArray, List.set_cons_zero, List.set_cons_succ]
    refine wpAnyE_take (i := 2) (v := .agg (stC s sm (.slice og raw.length cg) sp (.slice od s.dirty.length cd)).toArray) (listed' := #[true, true, true, false, false, false, false]) (by rfl) (by kernel_rfl) (by kernel_rfl) calm_put hS (by rfl) ?_ ?_
    · intro W hW; obtain ⟨cid, hst⟩ := hW; exact exec_load_agg _ rfl agT_state X 0 rfl _ hst HL.out
    simp only [Act.put, List.getElem_toArray, List.getElem_cons_succ, List.getElem_cons_zero, List.setIfInBounds_toArray, List.set_cons_zero, List.set_cons_succ]
    refine wpAnyE_take (i := 3) (v := .pointer (some ⟨rb, 5, none⟩)) (listed' := #[true, true, true, true, false, false, false]) (by rfl) (by kernel_rfl) (by kernel_rfl) calm_put hS (by rfl) ?_ ?_
    · intro W hW; clear hW; go_simp; try (with_reducible rfl)
    simp only [Act.put, List.getElem_toArray, List.getElem_cons_succ, List.getElem_cons_zero, List.setIfInBounds_toArray, List.set_cons_zero, List.set_cons_succ]
    refine wpAnyE_take (i := 4) (v := .int .i64 id) (listed' := #[true, true, true, true, true, false, false]) (by rfl) (by kernel_rfl) (by kernel_rfl) calm_put hS (by rfl) ?_ ?_
    · intro W hW; obtain ⟨cid, hst⟩ := hW; go_simp; try (with_reducible rfl)
    simp only [Act.put, List.getElem_toArray, List.getElem_cons_succ, List.getElem_cons_zero, List.setIfInBounds_toArray, List.set_cons_zero, List.set_cons_succ]
    refine wpAnyE_one (i := 5) (listed' := #[true, true, true, true, true, true, false]) (by rfl) (by kernel_rfl) (by kernel_rfl) (by rfl) (fun K hK => ?_)
    simp only [Act.put, List.getElem_toArray, List.getElem_cons_succ, List.getElem_cons_zero, List.setIfInBounds_toArray, List.set_cons_zero, List.set_cons_succ]
    go_wp2_with fail
    refine Calls.mono (HF.out _ HDR.out) ?_
    rintro e w3 ⟨rfl, hk3⟩
    have hS : (fun (W : World) => W.cell? ⟨rb, 5, none⟩ = some (.int .i64 id) ∧ Cells W X 0 (stC s sm (.slice og raw.length cg) sp (.slice od s.dirty.length cd))) _ := ⟨hk3.cell' hS.1, hS.2.kept hk3⟩
    refine hK _ _ (fun _ => hS) ?_; clear hK K
    refine wpAnyE_take (i := 6) (v := .bool true) (listed' := #[true, true, true, true, true, true, true]) (by rfl) (by kernel_rfl) (by kernel_rfl) calm_put hS (by rfl) ?_ ?_
    · intro W hW; clear hW; go_simp; try (with_reducible rfl)
    simp only [Act.put, List.getElem_toArray, List.getElem_cons_succ, List.getElem_cons_zero, List.setIfInBounds_toArray, List.set_cons_zero, List.set_cons_succ]
    refine wpAnyE_done (by kernel_rfl) ?_ _
    refine calm_normal ?_
    have HK3 := Lib.hid (HDR.out.trans hk3)
    clear hS hk3
    go_wp2
    go_ret
    exact ⟨8, rfl, fun _ => rfl, fun h => absurd HE.out h, But.kept HK3.out⟩
  · have hgl : 0 < raw.length := by omega
    obtain ⟨b, cap', junk, hsl, hg1, hg2, _, _, _, _⟩ := HO.out.g.blk hgl
    injection hsl with f1 f2 f3
    subst f1
    obtain ⟨off, hoff⟩ : ∃ off : Nat, off = 0 := ⟨_, rfl⟩
    have hfp : findP raw (some ⟨b, 0, none⟩) id = .pointer (some ⟨b, off + k * 3, none⟩) := by unfold findP; rw [e1, hoff]
    have HF : Hid (∀ (W : World), Kept w W → Calls Tryz.prog 20 #[.agg (stC s sm (.slice (some ⟨b, 0, none⟩) raw.length cg) sp (.slice od s.dirty.length cd)).toArray, .int .i64 id] W fun e w' => e = .returned (.pointer (some ⟨b, off + k * 3, none⟩)) ∧ Kept W w') := Lib.hid (fun W hk => by have := HF0.out W hk; rw [hfp] at this; exact this)
    have HE := Lib.hid e2
    clear hfp e1 e2 HF0 f2 f3 hoff
    go_upto_region 1 with fail
    refine wp_region_calm ?_
    refine wp_region_E (fun (W : World) => W.cell? ⟨rb, 5, none⟩ = some (.int .i64 id) ∧ Cells W X 0 (stC s sm (.slice (some ⟨b, 0, none⟩) raw.length cg) sp (.slice od s.dirty.length cd))) 100 (by kernel_rfl) ?_
    refine wpAnyE_take (i := 0) (v := .pointer (some ⟨X, 0, none⟩)) (listed' := #[true, false, false, false, false, false, false]) (by rfl) (by kernel_rfl) (by kernel_rfl) calm_put hS (by rfl) ?_ ?_
    · intro W hW; clear hW; go_simp; try (with_reducible rfl)
    simp only [Act.put, List.getElem_toArray, List.getElem_cons_succ, List.getElem_cons_zero, List.setIfInBounds_toArray, List.set_cons_zero, List.set_cons_succ]
    refine wpAnyE_take (i := 1) (v := .pointer (some ⟨X, 0, none⟩)) (listed' := #[true, true, false, false, false, false, false]) (by rfl) (by kernel_rfl) (by kernel_rfl) calm_put hS (by rfl) ?_ ?_
    · intro W hW; clear hW; go_simp; try (with_reducible rfl)
    simp only [Act.put, List.getElem_toArray, List.getElem_cons_succ, List.getElem_cons_zero, List.setIfInBounds_toArray, List.set_cons_zero, List.set_cons_succ]
    refine wpAnyE_take (i := 2) (v := .agg (stC s sm (.slice (some ⟨b, 0, none⟩) raw.length cg) sp (.slice od s.dirty.length cd)).toArray) (listed' := #[true, true, true, false, false, false, false]) (by rfl) (by kernel_rfl) (by kernel_rfl) calm_put hS (by rfl) ?_ ?_
    · intro W hW; obtain ⟨cid, hst⟩ := hW; exact exec_load_agg _ rfl agT_state X 0 rfl _ hst HL.out
    simp only [Act.put, List.getElem_toArray, List.getElem_cons_succ, List.getElem_cons_zero, List.setIfInBounds_toArray, List.set_cons_zero, List.set_cons_succ]
    refine wpAnyE_take (i := 3) (v := .pointer (some ⟨rb, 5, none⟩)) (listed' := #[true, true, true, true, false, false, false]) (by rfl) (by kernel_rfl) (by kernel_rfl) calm_put hS (by rfl) ?_ ?_
    · intro W hW; clear hW; go_simp; try (with_reducible rfl)
    simp only [Act.put, List.getElem_toArray, List.getElem_cons_succ, List.getElem_cons_zero, List.setIfInBounds_toArray, List.set_cons_zero, List.set_cons_succ]
    refine wpAnyE_take (i := 4) (v := .int .i64 id) (listed' := #[true, true, true, true, true, false, false]) (by rfl) (by kernel_rfl) (by kernel_rfl) calm_put hS (by rfl) ?_ ?_
    · intro W hW; obtain ⟨cid, hst⟩ := hW; go_simp; try (with_reducible rfl)
    simp only [Act.put, List.getElem_toArray, List.getElem_cons_succ, List.getElem_cons_zero, List.setIfInBounds_toArray, List.set_cons_zero, List.set_cons_succ]
    refine wpAnyE_one (i := 5) (listed' := #[true, true, true, true, true, true, false]) (by rfl) (by kernel_rfl) (by kernel_rfl) (by rfl) (fun K hK => ?_)
    simp only [Act.put, List.getElem_toArray, List.getElem_cons_succ, List.getElem_cons_zero, List.setIfInBounds_toArray, List.set_cons_zero, List.set_cons_succ]
    go_wp2_with fail
    refine Calls.mono (HF.out _ HDR.out) ?_
    rintro e w3 ⟨rfl, hk3⟩
    have hS : (fun (W : World) => W.cell? ⟨rb, 5, none⟩ = some (.int .i64 id) ∧ Cells W X 0 (stC s sm (.slice (some ⟨b, 0, none⟩) raw.length cg) sp (.slice od s.dirty.length cd))) _ := ⟨hk3.cell' hS.1, hS.2.kept hk3⟩
    refine hK _ _ (fun _ => hS) ?_; clear hK K
    refine wpAnyE_take (i := 6) (v := .bool false) (listed' := #[true, true, true, true, true, true, true]) (by rfl) (by kernel_rfl) (by kernel_rfl) calm_put hS (by rfl) ?_ ?_
    · intro W hW; clear hW; go_simp; try (with_reducible rfl)
    simp only [Act.put, List.getElem_toArray, List.getElem_cons_succ, List.getElem_cons_zero, List.setIfInBounds_toArray, List.set_cons_zero, List.set_cons_succ]
    refine wpAnyE_done (by kernel_rfl) ?_ _
    refine calm_normal ?_
    have HK3 := Lib.hid (HDR.out.trans hk3)
    have HK13 := Lib.hid (HD1.out.trans hk3)
    have cid := hS.1
    have c2 : w3.cell? ⟨X, 2, none⟩ = some (.slice (some ⟨b, 0, none⟩) raw.length cg) := (stv_cells hS.2).2.2.1
    have HX3 := Lib.hid (HK13.out.block HX1.out)
    have HCID := Lib.hid cid
    have hdel := del_g (fun x => x.1 == id) raw (.slice (some ⟨b, 0, none⟩) raw.length cg) b1 b2 115 #[] #[.pointer (some ⟨rb, 0, none⟩)] w3 (by rw [HREL.out.len]; exact HO.out.lgs) (HO.out.g.kept HK3.out) (fun x hx => HREL.out.one x hx _ (by simp [grw])) (fun _ _ => rfl)
      (fun x W hb => drop1 x id rb W (hb.cell (by show ¬ (b1 ≤ rb ∧ rb < b2); omega) HCID.out))
    have HDEL := Lib.hid hdel
    clear hdel hk3 hS
    go_wp2_with fail
    refine Calls.mono HDEL.out ?_
    rintro e w4 ⟨sg', rfl, hog, hb4⟩
    have hX4 := hb4.blk (k := X) (by show ¬ (b1 ≤ X ∧ X < b2); omega) HX3.out
    have HOG := Lib.hid hog
    obtain ⟨og', cg', rfl⟩ := hog.form
    have HB4 := Lib.hid hb4
    have HX4 := Lib.hid hX4
    replace cid := hb4.cell (by show ¬ (b1 ≤ rb ∧ rb < b2); omega) cid
    clear hog hb4 hX4 HDEL c2
    go_wp2_with (refine stop_at (o := ⟨none, .store _ _ _, _, _, _, _⟩) ?_)
    refine Stop.mk ?_
    refine wpList_set_cell rfl _ _ rfl size_grpsT X 2 rfl (.slice og' _ cg') rfl rfl rfl (stC s sm (.slice (some ⟨b, 0, none⟩) raw.length cg) sp (.slice od s.dirty.length cd)) _ HX4.out (by rw [HL.out]; decide) ?_
    intro w5 hw5
    rw [stC_set2 s s sm _ sp _ _ rfl rfl] at hw5
    have hb5 : But (fun k => k = X) w4 w5 := But.wrote hw5 rfl
    replace cid := hb5.cell (by show ¬ rb = X; omega) cid
    have HX5 := Lib.hid hw5.blk
    have HB5 := Lib.hid hb5
    have c4 : w5.cell? ⟨X, 4, none⟩ = some (.slice od s.dirty.length cd) := (stv_cells (Cells.of_block HX5.out : Cells w5 X 0 (stC s sm _ sp _))).2.2.2.2
    have HCID5 := Lib.hid cid
    have hdel := del_i (fun x => x == id) s.dirty (.slice od s.dirty.length cd) b3 b4 116 #[] #[.pointer (some ⟨rb, 0, none⟩)] w5 HO.out.ldi (((HO.out.d.kept HK3.out).but HB4.out (fun k hk => .inl (by omega))).but HB5.out (fun k hk => .inl (by omega))) (fun _ _ => rfl)
      (fun x W hb => drop2 x id rb W (hb.cell (by show ¬ (b3 ≤ rb ∧ rb < b4); omega) HCID5.out))
    have HDEL := Lib.hid hdel
    clear hdel hw5 hb5
    go_wp2_with fail
    refine Calls.mono HDEL.out ?_
    rintro e w6 ⟨sd', rfl, hod, hb6⟩
    have hX6 := hb6.blk (k := X) (by show ¬ (b3 ≤ X ∧ X < b4); omega) HX5.out
    have HOD := Lib.hid hod
    obtain ⟨od', cd', rfl⟩ := hod.form
    have HB6 := Lib.hid hb6
    have HX6 := Lib.hid hX6
    have HL5 := Lib.hid (show (stC s sm (.slice og' (raw.filter fun x => !(x.1 == id)).length cg') sp (.slice od s.dirty.length cd)).length = 136 from stv_len (plv_len HO.out.plug))
    clear hod hb6 hX6 HDEL c4 cid
    go_wp2_with (refine stop_at (o := ⟨none, .store _ _ _, _, _, _, _⟩) ?_)
    refine Stop.mk ?_
    refine wpList_set_cell rfl _ _ rfl size_intsT X 4 rfl (.slice od' _ cd') rfl rfl rfl _ _ HX6.out (by rw [HL5.out]; decide) ?_
    intro w7 hw7
    rw [stC_set4 s (dropS s id) sm _ sp _ _ rfl rfl] at hw7
    have hb7 : But (fun k => k = X) w6 w7 := But.wrote hw7 rfl
    have HW7 := Lib.hid hw7.blk
    have HALL : Hid (But (fun k => k = X ∨ (base ≤ k ∧ k < b4)) w w7) := Lib.hid (((((But.kept (S := fun k => k = X ∨ (base ≤ k ∧ k < b4)) HK3.out).trans (HB4.out.mono fun k hk => by omega)).trans (HB5.out.mono fun k hk => by omega)).trans (HB6.out.mono fun k hk => by omega)).trans (hb7.mono fun k hk => by omega))
    have h := HO.out
    have HST : Hid (∀ W', But (fun k => b0 ≤ k ∧ k < base) w7 W' → StM W' (dropS s id) sm (.slice og' (raw.filter fun x => !(x.1 == id)).length cg') sp (.slice od' (s.dirty.filter fun x => !(x == id)).length cd') (raw.filter fun x => !(x.1 == id))) := Lib.hid fun W' hbW =>
      { ms := ((((((h.m.kept HK3.out).but HB4.out (fun k hk => .inr (by omega))).but HB5.out (fun k hk => .inl (by omega))).but HB6.out (fun k hk => .inr (by omega))).but hb7 (fun k hk => .inl (by omega))).but hbW (fun k hk => .inl (by omega))).rsl trip_len
        gs := ((((HOG.out.but HB5.out (fun k hk => .inl (by omega))).but HB6.out (fun k hk => .inr (by omega))).but hb7 (fun k hk => .inl (by omega))).but hbW (fun k hk => .inl (by omega))).rsl grw_len
        rel := GRels.filter (fun i => !(i == id)) (h.ext W' ((HALL.out.mono fun k hk => by omega).trans (hbW.mono fun k hk => by omega)))
        mp := ((((((h.p.kept HK3.out).but HB4.out (fun k hk => .inl (by omega))).but HB5.out (fun k hk => .inl (by omega))).but HB6.out (fun k hk => .inr (by omega))).but hb7 (fun k hk => .inl (by omega))).but hbW (fun k hk => .inl (by omega))).rsl trip_len
        dirty := ((HOD.out.but hb7 (fun k hk => .inl (by omega))).but hbW (fun k hk => .inl (by omega))).rsl oneV_len
        plug := h.plug
        lms := h.lms
        lgs := Nat.le_trans (List.length_filter_le _ _) h.lgs
        lmp := h.lmp
        ldi := Nat.le_trans (List.length_filter_le _ _) h.ldi }
    clear hw7 hb7
    go_wp2
    go_ret
    exact ⟨0, rfl, fun hn => (by rw [HE.out] at hn; cases hn), fun _ => ⟨rfl, _, _, _, _, _, HW7.out, HST.out⟩, HALL.out⟩
end Go.Proofs.YtiijfocdjcjlaaaGreat
/- state.step at a dropped group; state.Apply, whatever its record and its step tell. -/
namespace Go.Proofs.YtiijfocdjcjlaaaGreat
open Go.RowKit Go.ChangeMaps Go.MapKept
set_option linter.unusedVariables false
set_option linter.unusedSimpArgs false
set_option maxRecDepth 100000
set_option maxHeartbeats 1000000
/-- what a step does: it tells c; if that is OK, the state in X is s' -/
def StepC (wx : World) (rec : List Value) (s : St) (c : Int) (s' : St) : Prop :=
  ∀ (X b0 base b1 b2 b3 b4 : Nat) (sm sg sp sd : Value) (raw : List Gw) (w : World), Kept wx w → wx.heap.size ≤ b0 → StO w b0 base b1 b2 b3 b4 s sm sg sp sd raw → b0 ≤ X → X < base → w.heap[X]? = some (.cells (stC s sm sg sp sd).toArray 31 (0, 0)) →
    Calls Tryz.prog 37 #[.pointer (some ⟨X, 0, none⟩), .agg rec.toArray] w fun e w' => e = .returned (.int .i64 c) ∧ (c = 0 → Stepped w' X b0 base s') ∧ But (fun k => k = X ∨ (base ≤ k ∧ k < b4)) w w'
/-- OK, or what is wrong -/
def applyE (ok : Bool) (s : St) (c : Int) (s' : St) : Int := if (ok && rightS s) = true then (if c = 0 then (if rightS s' = true then 0 else 9) else c) else 1
theorem built_state (w : World) : (Instr.build 31 #[]).run Tryz.prog w = .ok (.agg (stv 0 nilS nilS nilS nilS (plv zeroPlg)).toArray) w := run_build w 31 #[] (stv 0 nilS nilS nilS nilS (plv zeroPlg)).toArray (by kernel_rfl)
theorem zstate_one : ∀ v ∈ stv 0 nilS nilS nilS nilS (plv zeroPlg), v.oneCell' = true := by
  intro v hv
  simp only [stv, List.mem_cons] at hv
  rcases hv with rfl | rfl | rfl | rfl | rfl | h
  · rfl
  · rfl
  · rfl
  · rfl
  · rfl
  · exact plv_one _ v h
section
variable {ops : Array Oper} {rest : List Oper} {o : Oper} {a : Act} {w : World} {Q : Exit → Act → World → Prop}
theorem wpList_zero_state (hgd : Region.wanted o (yielded ops a.tmps) = true) (ho : o.op = .build 31 #[]) (h : wpList Tryz.prog ops Q rest (a.put o.dst (.agg (stv 0 nilS nilS nilS nilS (plv zeroPlg)).toArray)) w) : wpList Tryz.prog ops Q (o :: rest) a w := by
  refine BigFrame.wpList_want hgd fun K hK => ?_
  unfold Oper.wp execOp
  simp only [ho, List.map_toArray, List.map_nil, Sem.run_bind, built_state, Result.andThen_ok, Sem.run_pure]
  exact hK _ _ h
end
theorem step_drop (wx : World) (s : St) (id : Int) : StepC wx (rcDrop id) s (if (s.gs.find? (fun g => g.id == id)).isNone then 8 else 0) (dropS s id) := by
  intro X b0 base b1 b2 b3 b4 sm sg sp sd raw w _ _ hO hX0 hX1 hX
  have hd := fun (W : World) (hk : Kept w W) => st_doDrop s X b0 base b1 b2 b3 b4 sm sg sp sd raw id W
    ⟨hO.le0, hO.le1, hO.le2, hO.le3, hO.le4, Nat.le_trans hO.le5 hk.size, hO.m.kept hk, hO.g.kept hk, hO.p.kept hk, hO.d.kept hk, fun W' hb => hO.ext W' ((But.kept hk).trans hb), hO.plug, hO.lms, hO.lgs, hO.lmp, hO.ldi⟩ hX0 hX1 (hk.block hX)
  have HD := Lib.hid hd; clear hd hO hX
  obtain ⟨cc, hcc⟩ : ∃ cc : Int, cc = if (s.gs.find? (fun g => g.id == id)).isNone then 8 else 0 := ⟨_, rfl⟩
  rw [← hcc]
  have HCC := Lib.hid hcc; clear hcc
  go_enter Tryz.func37, Tryz.ntmps37
  go_wp2_with (refine stop_at (o := ⟨some 3, _, _, _, _, _⟩) ?_)
  refine Stop.mk ?_
  refine wpList_box_rowS rfl _ _ rfl (rcDrop id) rfl ?_
  intro w1 hz1 hs1 hk1
  obtain ⟨rb, hrb⟩ : ∃ rb, rb = w.heap.size := ⟨_, rfl⟩
  rw [← hrb] at hz1 ⊢
  have c0 : w1.cell? ⟨rb, 0, none⟩ = some (.int .i64 3) := (Cells.of_block hz1.out) 0 (by show 0 < 142; decide)
  have HC := Lib.hid (Cells.of_block hz1.out : Cells w1 rb 0 (rcDrop id))
  have HK1 := Lib.hid hk1
  clear hz1 hs1 hk1 hrb
  go_wp2_with (refine stop_at (o := ⟨some 20, _, _, _, _, _⟩) ?_)
  refine Stop.mk ?_
  refine wpList_load_agg rfl _ rfl agT_rec rb 0 rfl _ HC.out (rcv_len _ _ _ _ _ _ _ _ _ _ _) ?_
  go_wp2_with fail
  refine Calls.mono (HD.out w1 HK1.out) ?_
  rintro e w2 ⟨c, rfl, hn, hs, hb⟩
  have hc : c = cc := by
    rw [HCC.out]
    cases hf : s.gs.find? (fun g => g.id == id) with
    | none => rw [hn hf]; rfl
    | some g => rw [(hs (by rw [hf]; simp)).1]; rfl
  have HST : Hid (cc = 0 → Stepped w2 X b0 base (dropS s id)) := Lib.hid (fun h0 => by
    cases hf : s.gs.find? (fun g => g.id == id) with
    | none => rw [← hc, hn hf] at h0; cases h0
    | some g => exact (hs (by rw [hf]; simp)).2)
  have HB := Lib.hid ((But.kept (S := fun k => k = X ∨ (base ≤ k ∧ k < b4)) HK1.out).trans hb)
  subst hc
  clear hn hs hb
  go_wp2
  go_ret
  exact ⟨rfl, HST.out, HB.out⟩
theorem StO.but {W W' : World} {b0 base b1 b2 b3 b4 X : Nat} {s : St} {sm sg sp sd : Value} {raw : List Gw} (h : StO W b0 base b1 b2 b3 b4 s sm sg sp sd raw) (hb : But (fun k => k = X) W W') (h0 : b0 ≤ X) (h1 : X < base) : StO W' b0 base b1 b2 b3 b4 s sm sg sp sd raw :=
  have l1 := h.le1; have l2 := h.le2; have l3 := h.le3; have l4 := h.le4
  ⟨h.le0, h.le1, h.le2, h.le3, h.le4, Nat.le_trans h.le5 hb.size, h.m.but hb (fun k hk => .inl (by omega)), h.g.but hb (fun k hk => .inl (by omega)), h.p.but hb (fun k hk => .inl (by omega)), h.d.but hb (fun k hk => .inl (by omega)),
   fun W2 hb2 => h.ext W2 ((hb.mono (S' := fun i => b0 ≤ i ∧ i < b4) (fun i hi => by omega)).trans hb2), h.plug, h.lms, h.lgs, h.lmp, h.ldi⟩
theorem st_Apply (rec : List Value) (hrl : rec.length = 142) (ok : Bool) (c : Int) (s s' : St) (sm sg sp sd : Value) (raw : List Gw) (w : World) (h : StM w s sm sg sp sd raw)
    (hR : ∀ W, Kept w W → Calls Tryz.prog 35 #[.agg rec.toArray] W fun e w' => (∃ sv, e = .returned (.tuple #[sv, .int .i64 (argE ok)])) ∧ Kept W w') (hS : ok = true → rightS s = true → StepC w rec s c s') :
    Calls Tryz.prog 11 #[.agg (stC s sm sg sp sd).toArray, .agg rec.toArray] w fun e w' => ∃ cells, e = .returned (.tuple #[.agg cells.toArray, .int .i64 (applyE ok s c s')]) ∧ (applyE ok s c s' = 0 → ∃ sm' sg' sp' sd' raw', cells = stC s' sm' sg' sp' sd' ∧ StM w' s' sm' sg' sp' sd' raw') ∧ Kept w w' ∧ cells.length = 136 ∧ ∀ v ∈ cells, v.oneCell' = true := by
  obtain ⟨code, hcode⟩ : ∃ code, code = applyE ok s c s' := ⟨_, rfl⟩
  rw [← hcode]
  have HCODE := Lib.hid hcode; clear hcode
  have HH := Lib.hid h; have HR := Lib.hid hR; have HS := Lib.hid hS; have HRL := Lib.hid hrl
  have HL := Lib.hid (show (stC s sm sg sp sd).length = 136 from stv_len (plv_len h.plug))
  have HZL := Lib.hid (show (stv 0 nilS nilS nilS nilS (plv zeroPlg)).length = 136 from rfl)
  clear h hR hS hrl
  go_enter Tryz.func11, Tryz.ntmps11
  go_wp2_with (refine stop_at (o := ⟨some 2, _, _, _, _, _⟩) ?_)
  refine Stop.mk ?_
  refine wpList_box_rowS rfl _ _ rfl (stC s sm sg sp sd) rfl ?_
  intro w1 hz1 hs1 hk1
  obtain ⟨X, hX⟩ : ∃ X, X = w.heap.size := ⟨_, rfl⟩
  rw [← hX] at hz1 hs1 ⊢
  refine wpList_box_rowS rfl _ _ rfl rec rfl ?_
  intro w2 hz2 hs2 hk2
  obtain ⟨rb, hrb⟩ : ∃ rb, rb = w1.heap.size := ⟨_, rfl⟩
  rw [← hrb] at hz2 hs2 ⊢
  refine wpList_alloc_abs rfl _ rfl _ zero_state ?_
  intro w3 hz3 hs3 hs3' hk3
  obtain ⟨R, hRR⟩ : ∃ R, R = w2.heap.size := ⟨_, rfl⟩
  rw [← hRR] at hz3 hs3' ⊢
  have hn1 : X < rb := by omega
  have hn2 : rb < R := by omega
  have HSZ := Lib.hid (show w3.heap.size = R + 1 by have := hs3'.out; omega)
  have HXW := Lib.hid hX
  have HXB := Lib.hid ((hk2.trans hk3).block hz1.out)
  have HRB := Lib.hid (hk3.block hz2.out)
  have HRZ := hz3
  have HK3 := Lib.hid ((hk1.trans hk2).trans hk3)
  clear hz1 hz2 hz3 hs1 hs2 hs3 hs3' hk1 hk2 hk3 hX hrb hRR
  go_wp2_with (refine stop_at (o := ⟨some 10, _, _, _, _, _⟩) ?_)
  refine Stop.mk ?_
  refine wpList_load_agg rfl _ rfl agT_rec rb 0 rfl _ (Cells.of_block HRB.out) HRL.out ?_
  go_wp2_with fail
  refine Calls.mono (HR.out w3 HK3.out) ?_
  rintro e w4 ⟨⟨sv, rfl⟩, hk4⟩
  have HXB4 := Lib.hid (hk4.block HXB.out); have HRB4 := Lib.hid (hk4.block HRB.out); have HRZ4 := Lib.hid (hk4.block HRZ.out)
  have HK4 := Lib.hid (HK3.out.trans hk4)
  have HSZ4 := Lib.hid (show R < w4.heap.size by have := hk4.size; have := HSZ.out; omega)
  clear hk4 HXB HRB HRZ HK3 HR
  cases ok with
  | false =>
    have HC2 := Lib.hid (show code = 1 by rw [HCODE.out]; rfl)
    have e0 : argE false = 1 := rfl
    rw [e0]
    clear e0
    go_wp2_with (refine stop_at (o := ⟨some 21, _, _, _, _, _⟩) ?_)
    refine Stop.mk ?_
    refine wpList_zero_state rfl rfl ?_
    refine wpList_store_agg rfl _ _ rfl agT_state R 0 rfl (stv 0 nilS nilS nilS nilS (plv zeroPlg)) rfl HZL.out zstate_one _ _ HRZ4.out (by rw [HZL.out]; decide) ?_
    intro wq hwq
    replace hwq := hwq.all rfl
    have HWQ := Lib.hid hwq.blk
    have HKQ := Lib.hid (But.to_kept HK4.out (But.wrote (S := fun k => k = R) hwq rfl) (fun i hi => by have := HXW.out; omega))
    clear hwq
    go_wp2
    try simp only [Exit.inBlock, Exit.then]
    refine bodyPost_ret (results_state2 rfl _ _ R _ rfl (Cells.of_block HWQ.out) HZL.out) rfl ?_
    exact ⟨_, by rw [HC2.out]; rfl, fun h => absurd (HC2.out.symm.trans h) (by decide), HKQ.out, HZL.out, zstate_one⟩
  | true =>
    have e0 : argE true = 0 := rfl
    rw [e0]
    clear e0
    go_wp2_with (refine stop_at (o := ⟨some 17, _, _, _, _, _⟩) ?_)
    refine Stop.mk ?_
    refine wpList_load_aggW _ rfl agT_state X 0 rfl _ (Cells.of_block HXB4.out) HL.out rfl ?_
    go_wp2_with fail
    refine Calls.mono (st_Right s sm sg sp sd raw w4 (HH.out.kept HK4.out)) ?_
    rintro e w5 ⟨rfl, hk5⟩
    have HXB5 := Lib.hid (hk5.block HXB4.out); have HRB5 := Lib.hid (hk5.block HRB4.out); have HRZ5 := Lib.hid (hk5.block HRZ4.out)
    have HK5 := Lib.hid (HK4.out.trans hk5)
    have HSZ5 := Lib.hid (show R < w5.heap.size by have := hk5.size; have := HSZ4.out; omega)
    clear hk5 HXB4 HRB4 HRZ4 HK4
    cases hrs : rightS s with
    | false =>
      have HC2 := Lib.hid (show code = 1 by rw [HCODE.out]; unfold applyE; rw [hrs]; rfl)
      clear hrs
      go_wp2_with (refine stop_at (o := ⟨some 21, _, _, _, _, _⟩) ?_)
      refine Stop.mk ?_
      refine wpList_zero_state rfl rfl ?_
      refine wpList_store_agg rfl _ _ rfl agT_state R 0 rfl (stv 0 nilS nilS nilS nilS (plv zeroPlg)) rfl HZL.out zstate_one _ _ HRZ5.out (by rw [HZL.out]; decide) ?_
      intro wq hwq
      replace hwq := hwq.all rfl
      have HWQ := Lib.hid hwq.blk
      have HKQ := Lib.hid (But.to_kept HK5.out (But.wrote (S := fun k => k = R) hwq rfl) (fun i hi => by have := HXW.out; omega))
      clear hwq
      go_wp2
      try simp only [Exit.inBlock, Exit.then]
      refine bodyPost_ret (results_state2 rfl _ _ R _ rfl (Cells.of_block HWQ.out) HZL.out) rfl ?_
      exact ⟨_, by rw [HC2.out]; rfl, fun h => absurd (HC2.out.symm.trans h) (by decide), HKQ.out, HZL.out, zstate_one⟩
    | true =>
      have HRS := Lib.hid hrs; clear hrs
      go_wp2_with (refine stop_at (o := ⟨some 22, _, _, _, _, _⟩) ?_)
      refine Stop.mk ?_
      refine wpList_load_agg rfl _ rfl agT_state X 0 rfl _ (Cells.of_block HXB5.out) HL.out ?_
      go_wp2_with fail
      refine Calls.mono (st_copied s sm sg sp sd raw w w5 HK5.out HH.out) ?_
      rintro e w6 ⟨base, b1, b2, b3, b4, sm1, sg1, sp1, sd1, raw1, rfl, hO, hk6, hbase⟩
      have HXB6 := Lib.hid (hk6.block HXB5.out); have HRB6 := Lib.hid (hk6.block HRB5.out); have HRZ6 := Lib.hid (hk6.block HRZ5.out)
      have HK6 := Lib.hid (HK5.out.trans hk6)
      have hRb : R < base := by have := HSZ5.out; omega
      have hX0 : w.heap.size ≤ X := by have := HXW.out; omega
      have HO6 := Lib.hid hO
      obtain ⟨_, _, hf1⟩ := hO.m.form; obtain ⟨_, _, hf2⟩ := hO.g.form; obtain ⟨_, _, hf3⟩ := hO.p.form; obtain ⟨_, _, hf4⟩ := hO.d.form
      have HL6 := Lib.hid (show (stC s sm1 sg1 sp1 sd1).length = 136 from stv_len (plv_len hO.plug))
      have HON := Lib.hid (stC_one (s := s) (slice_one hf1).2 (slice_one hf2).2 (slice_one hf3).2 (slice_one hf4).2)
      clear hO hk6 hbase HXB5 HRB5 HRZ5 HK5 hf1 hf2 hf3 hf4
      go_wp2_with (refine stop_at (o := ⟨none, .store _ _ _, _, _, _, _⟩) ?_)
      refine Stop.mk ?_
      refine wpList_store_agg rfl _ _ rfl agT_state X 0 rfl _ rfl HL6.out HON.out _ _ HXB6.out (by rw [HL.out]; decide) ?_
      intro w7 hw7
      replace hw7 := hw7.all (by rw [HL6.out, HL.out])
      have hb7 : But (fun k => k = X) w6 w7 := But.wrote hw7 rfl
      have HXB7 := Lib.hid hw7.blk
      have HRB7 := Lib.hid (hb7.blk (by show ¬ rb = X; omega) HRB6.out)
      have HRZ7 := Lib.hid (hb7.blk (by show ¬ R = X; omega) HRZ6.out)
      have HO7 := Lib.hid (HO6.out.but hb7 hX0 (by omega))
      have HK7 := Lib.hid (But.to_kept HK6.out hb7 (fun i hi => by omega))
      clear hw7 hb7 HXB6 HRB6 HRZ6 HK6 HO6 HON
      go_wp2_with (refine stop_at (o := ⟨some 24, _, _, _, _, _⟩) ?_)
      refine Stop.mk ?_
      refine wpList_load_agg rfl _ rfl agT_rec rb 0 rfl _ (Cells.of_block HRB7.out) HRL.out ?_
      go_wp2_with fail
      refine Calls.mono (HS.out (by trivial) HRS.out X w.heap.size base b1 b2 b3 b4 sm1 sg1 sp1 sd1 raw1 w7 HK7.out (Nat.le_refl _) HO7.out hX0 (by omega) HXB7.out) ?_
      rintro e w8 ⟨rfl, hst, hb8⟩
      have HRZ8 := Lib.hid (hb8.blk (by show ¬ (R = X ∨ (base ≤ R ∧ R < b4)); omega) HRZ7.out)
      have HK8 := Lib.hid (But.to_kept HK7.out hb8 (fun i hi => by omega))
      have HST := Lib.hid hst
      clear hst hb8 HXB7 HRB7 HRZ7 HK7 HO7
      cases hc : (c == 0) with
      | false =>
        have hc0 : c ≠ 0 := by simpa using hc
        have hcn : (c != 0) = true := by rw [bne, hc]; rfl
        have HC2 := Lib.hid (show code = c by rw [HCODE.out]; unfold applyE; rw [HRS.out]; simp [hc0])
        have HNZ := Lib.hid hc0
        clear hc hc0
        go_wp2_with (refine stop_at (o := ⟨some 28, _, _, _, _, _⟩) ?_)
        refine Stop.mk ?_
        refine wpList_zero_state rfl rfl ?_
        go_wp2_with (refine stop_at (o := ⟨none, .store _ _ _, _, _, _, _⟩) ?_)
        refine Stop.mk ?_
        refine wpList_store_agg rfl _ _ rfl agT_state R 0 rfl (stv 0 nilS nilS nilS nilS (plv zeroPlg)) rfl HZL.out zstate_one _ _ HRZ8.out (by rw [HZL.out]; decide) ?_
        intro w9 hw9
        replace hw9 := hw9.all rfl
        have HW9 := Lib.hid hw9.blk
        have HK9 := Lib.hid (But.to_kept HK8.out (But.wrote (S := fun k => k = R) hw9 rfl) (fun i hi => by omega))
        clear hw9 hcn
        go_wp2
        try simp only [Exit.inBlock, Exit.then]
        refine bodyPost_ret (results_state2 rfl _ _ R _ rfl (Cells.of_block HW9.out) HZL.out) rfl ?_
        exact ⟨_, by rw [HC2.out]; rfl, fun h => absurd (HC2.out.symm.trans h) HNZ.out, HK9.out, HZL.out, zstate_one⟩
      | true =>
        have hc0 : c = 0 := by simpa using hc
        subst hc0
        obtain ⟨sm2, sg2, sp2, sd2, raw2, hx8, hm8⟩ := HST.out rfl
        have HX8 := Lib.hid hx8; have HMC := Lib.hid hm8
        have hm8 := hm8 w8 (But.refl _ _)
        have HM8 := Lib.hid hm8
        have HL8 := Lib.hid (show (stC s' sm2 sg2 sp2 sd2).length = 136 from stv_len (plv_len hm8.plug))
        clear hx8 hm8 hc HST
        go_wp2_with (refine stop_at (o := ⟨some 30, _, _, _, _, _⟩) ?_)
        refine Stop.mk ?_
        refine wpList_load_agg rfl _ rfl agT_state X 0 rfl _ (Cells.of_block HX8.out) HL8.out ?_
        go_wp2_with fail
        refine Calls.mono (st_Right s' sm2 sg2 sp2 sd2 raw2 w8 HM8.out) ?_
        rintro e w9 ⟨rfl, hk9⟩
        have HX9 := Lib.hid (hk9.block HX8.out); have HRZ9 := Lib.hid (hk9.block HRZ8.out)
        have HK9 := Lib.hid (HK8.out.trans hk9)
        have HM9 := Lib.hid (HM8.out.kept hk9)
        have HK89 := Lib.hid hk9
        clear hk9 HX8 HRZ8 HM8
        cases hrs : rightS s' with
        | false =>
          have HC2 := Lib.hid (show code = 9 by rw [HCODE.out]; unfold applyE; rw [HRS.out, hrs]; rfl)
          clear hrs
          go_wp2_with (refine stop_at (o := ⟨some 33, _, _, _, _, _⟩) ?_)
          refine Stop.mk ?_
          refine wpList_zero_state rfl rfl ?_
          refine wpList_store_agg rfl _ _ rfl agT_state R 0 rfl (stv 0 nilS nilS nilS nilS (plv zeroPlg)) rfl HZL.out zstate_one _ _ HRZ9.out (by rw [HZL.out]; decide) ?_
          intro wq hwq
          replace hwq := hwq.all rfl
          have HWQ := Lib.hid hwq.blk
          have HKQ := Lib.hid (But.to_kept HK9.out (But.wrote (S := fun k => k = R) hwq rfl) (fun i hi => by have := HXW.out; omega))
          clear hwq
          go_wp2
          try simp only [Exit.inBlock, Exit.then]
          refine bodyPost_ret (results_state2 rfl _ _ R _ rfl (Cells.of_block HWQ.out) HZL.out) rfl ?_
          exact ⟨_, by rw [HC2.out]; rfl, fun h => absurd (HC2.out.symm.trans h) (by decide), HKQ.out, HZL.out, zstate_one⟩
        | true =>
          have HC2 := Lib.hid (show code = 0 by rw [HCODE.out]; unfold applyE; rw [HRS.out, hrs]; rfl)
          obtain ⟨_, _, hf1, _⟩ := HM9.out.ms.form; obtain ⟨_, _, hf2, _⟩ := HM9.out.gs.form; obtain ⟨_, _, hf3, _⟩ := HM9.out.mp.form; obtain ⟨_, _, hf4, _⟩ := HM9.out.dirty.form
          have HON := Lib.hid (stC_one (s := s') (slice_one hf1).2 (slice_one hf2).2 (slice_one hf3).2 (slice_one hf4).2)
          clear hrs hf1 hf2 hf3 hf4
          go_wp2_with (refine stop_at (o := ⟨some 34, _, _, _, _, _⟩) ?_)
          refine Stop.mk ?_
          refine wpList_load_agg rfl _ rfl agT_state X 0 rfl _ (Cells.of_block HX9.out) HL8.out ?_
          refine wpList_store_agg rfl _ _ rfl agT_state R 0 rfl _ rfl HL8.out HON.out _ _ HRZ9.out (by rw [HZL.out]; decide) ?_
          intro w10 hw10
          replace hw10 := hw10.all (by rw [HL8.out]; rfl)
          have HW10 := Lib.hid hw10.blk
          have hb10 : But (fun k => k = R) w9 w10 := But.wrote hw10 rfl
          have HK10 := Lib.hid (But.to_kept HK9.out hb10 (fun i hi => by omega))
          have HM10 : Hid (StM w10 s' sm2 sg2 sp2 sd2 raw2) := Lib.hid (HMC.out w10 ((But.kept HK89.out).trans (hb10.mono fun k hk => by have := HXW.out; omega)))
          clear hw10 hb10
          go_wp2
          try simp only [Exit.inBlock, Exit.then]
          refine bodyPost_ret (results_state2 rfl _ _ R _ rfl (Cells.of_block HW10.out) HL8.out) rfl ?_
          exact ⟨_, by rw [HC2.out]; rfl, fun _ => ⟨sm2, sg2, sp2, sd2, rfl, raw2, HM10.out⟩, HK10.out, HL8.out, HON.out⟩
end Go.Proofs.YtiijfocdjcjlaaaGreat
