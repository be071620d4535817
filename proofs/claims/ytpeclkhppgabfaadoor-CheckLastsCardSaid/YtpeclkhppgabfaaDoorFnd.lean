/- metalog's find walked, for each of the two function values that it gets. -/
import Derived.Test.YtpeclkhppgabfaaDoorPaI
import Derived.Test.YtpeclkhppgabfaaDoorPaK
import Derived.Test.YtpeclkhppgabfaaDoorPaM
namespace Go.Proofs.YtpeclkhppgabfaaDoor
open Go.RowKit
set_option linter.unusedVariables false
set_option linter.unusedSimpArgs false

theorem meta_passed (c : Int) (w : World) : Calls Tryd.prog 52 #[.int .i64 c] w fun e w' => e = .returned (.bool (passE c)) ∧ w = w' := by
  by_cases h7 : c = 7
  · subst h7
    go_enter Tryd.func52, Tryd.ntmps52
    go_wp2
    go_ret
    exact ⟨rfl, rfl⟩
  · by_cases h8 : c = 8
    · subst h8
      go_enter Tryd.func52, Tryd.ntmps52
      go_wp2
      go_ret
      exact ⟨rfl, rfl⟩
    · have b7 : (c == 7) = false := by simpa using h7
      have b8 : (c == 8) = false := by simpa using h8
      have HP := Lib.hid (show passE c = false by simp [passE, b7, b8])
      clear h7 h8
      go_enter Tryd.func52, Tryd.ntmps52
      go_wp2
      go_ret
      exact ⟨by rw [HP.out]; rfl, rfl⟩
theorem so_first (num : Int) (t : Tag) (P : Nat) (w : World) (hp : w.cell? ⟨P, 0, none⟩ = some (.int .i64 num)) : Calls Tryd.prog 64 #[t.val, .pointer (some ⟨P, 0, none⟩)] w fun e w' => e = .returned (.bool (soFirst num t)) ∧ Kept w w' := by
  obtain ⟨g, n, p, ps, l⟩ := t
  simp only [Tag.val]
  have HE := Lib.hid (show soFirst num ⟨g, n, p, ps, l⟩ = (n == num && p == 0) from rfl)
  rw [HE.out]
  clear HE
  go_enter Tryd.func64, Tryd.ntmps64
  go_wp2_with (refine stop_at (o := ⟨some 2, _, _, _, _, _⟩) ?_)
  refine Stop.mk ?_
  refine wpList_box_row rfl _ _ rfl [.int .i64 g, .int .i64 n, .int .i64 p, .int .i64 ps, .int .i64 l] rfl ?_
  intro w1 hz1 hs1 hk1
  have c1 : w1.cell? ⟨w.heap.size, 1, none⟩ = some (.int .i64 n) := cell_of_row _ _ 1 _ _ _ hz1.out
  have c2 : w1.cell? ⟨w.heap.size, 2, none⟩ = some (.int .i64 p) := cell_of_row _ _ 2 _ _ _ hz1.out
  have hp1 := hk1.cell' hp
  have HK := Lib.hid hk1
  generalize w.heap.size = X at *
  clear hz1 hs1 hk1 hp
  rcases hb : (n == num) with _ | _
  · go_wp2
    go_ret
    exact ⟨by rw [hb]; rfl, HK.out⟩
  · go_wp2
    go_ret
    exact ⟨by rw [hb]; rfl, HK.out⟩
theorem so_next (gen num part parts l : Int) (t : Tag) (P : Nat) (w : World) (hp : w.heap[P]? = some (.cells (Tag.vals ⟨gen, num, part, parts, l⟩).toArray 74 (0, 0))) : Calls Tryd.prog 65 #[t.val, .pointer (some ⟨P, 0, none⟩)] w fun e w' => e = .returned (.bool (soNext gen num part parts t)) ∧ w'.heap[P]? = some (.cells (Tag.vals ⟨gen, num, part, parts, t.len⟩).toArray 74 (0, 0)) ∧ But (fun k => k = P) w w' := by
  have HE := Lib.hid (show soNext gen num part parts t = decide (t = ⟨gen, num, part, parts, t.len⟩) from rfl)
  rw [HE.out]
  obtain ⟨tl, htl⟩ : ∃ tl, t.len = tl := ⟨_, rfl⟩
  rw [htl]
  have HTL := Lib.hid htl
  have hv : t.val = .agg t.vals.toArray := rfl
  rw [hv]
  clear HE htl hv
  go_enter Tryd.func65, Tryd.ntmps65
  go_wp2_with (refine stop_at (o := ⟨some 2, _, _, _, _, _⟩) ?_)
  refine Stop.mk ?_
  refine wpList_box_row rfl _ _ rfl t.vals rfl ?_
  intro w1 hz1 hs1 hk1
  have c4 : w1.cell? ⟨w.heap.size, 4, none⟩ = some (.int .i64 tl) := by
    rw [cell_of_row _ _ 4 _ _ _ hz1.out, ← HTL.out]; rfl
  have HX := Lib.hid (by simpa using Cells.of_block hz1.out : Cells w1 w.heap.size 0 t.vals)
  have HP1 := Lib.hid (hk1.block hp)
  have HK := Lib.hid hk1
  have HXP := Lib.hid (Array.getElem?_eq_some_iff.1 hp).1
  generalize w.heap.size = X at *
  clear hz1 hs1 hk1 hp
  go_wp2_with (refine stop_at (o := ⟨none, .store _ _ _, _, _, _, _⟩) ?_)
  refine Stop.mk ?_
  refine wpList_set_cell rfl _ _ rfl size_int P 4 rfl (.int .i64 tl) rfl rfl rfl _ _ HP1.out (show 4 < 5 by decide) ?_
  intro w2 hw2
  have HP2 : Hid (w2.heap[P]? = some (.cells (Tag.vals ⟨gen, num, part, parts, tl⟩).toArray 74 (0, 0))) := Lib.hid hw2.blk
  have HX2 : Hid (Cells w2 X 0 t.vals) := Lib.hid fun j hj => (World.cell?_of_block (hw2.oth X (by have := HXP.out; omega))).trans (HX.out j hj)
  have HB := Lib.hid ((But.kept HK.out).trans (But.wrote (S := fun k => k = P) hw2 rfl))
  clear hw2 HP1 HX HK
  go_wp2_with (refine stop_at (o := ⟨some 7, _, _, _, _, _⟩) ?_)
  refine Stop.mk ?_
  refine wpList_load_agg rfl _ rfl ty_tag X 0 rfl t.vals HX2.out rfl ?_
  refine wpList_load_agg rfl _ rfl ty_tag P 0 rfl (Tag.vals ⟨gen, num, part, parts, tl⟩) (by simpa using Cells.of_block HP2.out) rfl ?_
  refine wpList_eq_tag rfl _ _ rfl t ⟨gen, num, part, parts, tl⟩ rfl rfl _ rfl ?_
  go_wp2
  go_ret
  exact ⟨rfl, HP2.out, HB.out⟩
theorem BK.but {w0 W W' : World} {R : Nat → Prop} {q : Nat} {T : BankT} {P : Nat} (h : BK w0 R W q T) (hb : But (fun k => k = P) W W') (hR : R P) (h0 : w0.heap.size ≤ P) : BK w0 R W' q T := by
  obtain ⟨Y, hy, h⟩ := h
  exact ⟨Y, hy, ⟨h.d.same fun b hb' => hb.block b (h.d.lt hb') (fun e => (h.off P hR).2 (e ▸ hb')), But.to_kept h.keeps hb (fun i hi => hi ▸ h0), h.own, fun k hk => ⟨Nat.lt_of_lt_of_le (h.off k hk).1 hb.size, (h.off k hk).2⟩⟩⟩
theorem Cells.but {W W' : World} {P B off : Nat} {xs : List Value} (h : Cells W B off xs) (hb : But (fun k => k = P) W W') (hB : B ≠ P) : Cells W' B off xs := fun j hj => hb.cell (p := ⟨B, off + j, none⟩) hB (h j hj)
theorem results_hit {fn : Func} {p q r s : Tmp} (h : fn.results = #[.cell p 39, .tmp q, .tmp r, .tmp s]) (tmps : Array Value) (w : World) (b : Nat) (bs : List Int) (hl : bs.length = 64)
    (hp : tmps.getD p undef = .pointer (some ⟨b, 0, none⟩)) (hc : Cells w b 0 (u8s bs)) :
    (results fn tmps).run Tryd.prog w = .ok (.tuple #[secV bs, tmps.getD q undef, tmps.getD r undef, tmps.getD s undef]) w := by
  have hp' : tmps[p]?.getD undef = .pointer (some ⟨b, 0, none⟩) := by simpa using hp
  obtain ⟨⟨d, hd1, hd2⟩, hs⟩ := ty_sec
  have hr := run_loadVar_mid (P := Tryd.prog) w b 0 39 _ d (rangeAt_of_cells hc) hd1 hd2 (by rw [hs, u8s_length, hl])
  simp [results, h, hp', asAddr, hr, secV]
theorem findL_sec {T : BankT} (h : T.Inv) (p gen : Int) (so : Tag → Bool) : ∀ (L : List Int) (n : Nat), SecB (findL T.read p gen so L n).s
  | [], n => zeroB_byte
  | d :: L, n => by
    unfold findL
    split
    · exact findL_sec h p gen so L n
    · split
      · exact BankT.read_sec h d (2 + p)
      · split
        · exact BankT.read_sec h d (2 + p)
        · exact findL_sec h p gen so L (n + 1)
theorem build_sec (W : World) : (Instr.build 39 #[]).run Tryd.prog W = .ok (.agg (u8s zeroB).toArray) W := by
  have h := run_build (P := Tryd.prog) W 39 #[] (u8s zeroB).toArray (by kernel_rfl)
  exact h
theorem but_wrote_up {S : Nat → Prop} {a b c d : World} {g : Nat} {cs : List Value} {t : TypeId} (hk : Kept a b) (hb : But S b c) (hw : Wrote c d g cs t) (hg : a.heap.size ≤ g) : But S a d :=
  have h := (But.kept (S := S) hk).trans hb
  ⟨hw.os.trans h.os, hw.tape.trans h.tape, hw.output.trans h.output, by rw [hw.size]; exact h.size, fun i hi hn => (hw.oth i (by omega)).trans (h.block i hi hn)⟩
section
variable {w0 W : World} {R : Nat → Prop} {q : Nat} {T : BankT}
set_option maxHeartbeats 4000000
set_option maxRecDepth 100000
theorem find_first (h : BK w0 R W q T) (u : T.Use) (P : Nat) (hR : R P) (hP0 : w0.heap.size ≤ P) (B c : Nat) (L : List Int) (hlv : Cells W B 0 (ints L)) (hBP : B ≠ P) (hL : L.length ≤ 100) (gen p : Int) (hp : 0 ≤ p ∧ p ≤ 1000) (so : Tag → Bool) (I : World → Prop) (hI : I W) (hIk : ∀ w w', I w → Kept w w' → I w') (hIw : ∀ (w w' : World) (g : Nat) (cs : List Value) (t : TypeId), I w → Wrote w w' g cs t → g ≠ P → I w')
    (hcl : ∀ (t : Tag) (w : World), I w → Calls Tryd.prog 64 #[t.val, .pointer (some ⟨P, 0, none⟩)] w fun e w' => e = .returned (.bool (so t)) ∧ I w' ∧ But (fun k => k = P) w w') :
    Calls Tryd.prog 63 #[.agg #[.pointer (some ⟨q, 0, none⟩), .slice (some ⟨B, 0, none⟩) L.length c, .int .i64 gen], .int .i64 p, .func (.func 64) #[] #[.pointer (some ⟨P, 0, none⟩)]] W fun e w' =>
      e = .returned (.tuple #[secV (findL T.read p gen so L 0).s, .int .i64 (findL T.read p gen so L 0).n, .bool (findL T.read p gen so L 0).ok, .int .i64 (findL T.read p gen so L 0).e]) ∧ I w' ∧ But (fun k => k = P) W w' := by
  obtain ⟨res, hres⟩ : ∃ res, findL T.read p gen so L 0 = res := ⟨_, rfl⟩
  rw [hres]
  have HRES := Lib.hid (show findL T.read p gen so (L.drop 0) 0 = res from hres)
  have HPW := Lib.hid (show P < W.heap.size by obtain ⟨_, _, hh⟩ := h; exact (hh.off P hR).1)
  have HB := Lib.hid h; have HU := Lib.hid u; have HLV := Lib.hid hlv; have HR := Lib.hid hR; have HI := Lib.hid hI; have HIK := Lib.hid hIk; have HIW := Lib.hid hIw; have HCL := Lib.hid hcl; have HBP := Lib.hid hBP; have HP0 := Lib.hid hP0
  obtain ⟨hp0, hp1⟩ := hp
  clear h u hlv hR hI hIk hIw hcl hBP hP0 hres
  go_enter Tryd.func63, Tryd.ntmps63
  go_wp2_with (refine stop_at (o := ⟨some 3, _, _, _, _, _⟩) ?_)
  refine Stop.mk ?_
  refine wpList_box_row rfl _ _ rfl [.pointer (some ⟨q, 0, none⟩), .slice (some ⟨B, 0, none⟩) L.length c, .int .i64 gen] rfl ?_
  intro w1 hz1 hs1 hk1
  refine wpList_alloc_abs rfl 39 rfl (u8s zeroB) zero_sec ?_
  intro w2 hz2 hs2 hn2 hk2
  have HX2 := Lib.hid (hk2.block hz1.out)
  have HZ2 := hz2
  have HK2 := Lib.hid (hk1.trans hk2)
  have HI2 := Lib.hid (HIK.out _ _ HI.out HK2.out)
  have HXP := Lib.hid (show W.heap.size ≠ P by have := HPW.out; omega)
  have HZP := Lib.hid (show w1.heap.size ≠ P ∧ w1.heap.size ≠ W.heap.size by have := HPW.out; have := hs1; have := hk1.size; omega)
  have x1 : w2.cell? ⟨W.heap.size, 1, none⟩ = some (.slice (some ⟨B, 0, none⟩) L.length c) := cell_of_row _ _ 1 _ _ _ HX2.out
  have HW2 := Lib.hid HK2.out.size
  have HUP := Lib.hid (fun (b c : World) (cs : List Value) (t : TypeId) (hb : But (fun k => k = P) w2 b) (hw : Wrote b c w1.heap.size cs t) => but_wrote_up HK2.out hb hw hk1.size)
  generalize W.heap.size = X at *
  generalize w1.heap.size = Z at *
  clear hz1 hs1 hk1 hz2 hs2 hn2 hk2
  go_wp2
  clear x1
  go_loopw [10, 20] (fun m i wr => ∃ (t n : Nat), t ≤ L.length ∧ n ≤ t ∧ i = .int .i64 t ∧ m = .int .i64 n ∧ Hid (findL T.read p gen so (L.drop t) n = res) ∧ Hid (But (fun k => k = P) w2 wr) ∧ Hid (I wr)) (fun _ i _ => L.length - (intOf i).toNat)
  case atStart => exact ⟨0, 0, Nat.zero_le _, Nat.le_refl _, rfl, rfl, HRES, Lib.hid (But.refl _ _), HI2⟩
  case round =>
    clear HRES HI2
    obtain ⟨t, n, ht, hn, rfl, rfl, HRES, HB2, HI⟩ := hrel
    obtain ⟨wo, hwo⟩ : ∃ wo, wo = wr := ⟨_, rfl⟩
    subst hwo
    have HBW := Lib.hid ((But.kept HK2.out).trans HB2.out)
    have HZ := Lib.hid ((HB2.out.block Z (Array.getElem?_eq_some_iff.1 HZ2.out).1 HZP.out.1).trans HZ2.out)
    by_cases hlt : t < L.length
    · have hcell := cell_ints (HLV.out.but HBW.out HBP.out) hlt
      have hX := (HB2.out.block X (Array.getElem?_eq_some_iff.1 HX2.out).1 HXP.out).trans HX2.out
      have x0 : wo.cell? ⟨X, 0, none⟩ = some (.pointer (some ⟨q, 0, none⟩)) := cell_of_row _ _ 0 _ _ _ hX
      have HXC := Lib.hid (show wo.cell? ⟨X, 2, none⟩ = some (.int .i64 gen) from cell_of_row _ _ 2 _ _ _ hX)
      replace HRES : Hid (findL T.read p gen so (L.getD t 0 :: L.drop (t + 1)) n = res) := Lib.hid (by rw [← drop_int hlt]; exact HRES.out)
      generalize L.getD t 0 = d at *
      obtain ⟨s, c1, hr⟩ : ∃ s c1, T.read d (2 + p) = (s, c1) := ⟨_, _, rfl⟩
      have HSB : Hid (SecB s) := Lib.hid (by have := BankT.read_sec HU.out.inv d (2 + p); rw [hr] at this; exact this)
      have HRD := Lib.hid hr
      unfold findL at HRES
      rw [hr] at HRES
      simp only [] at HRES
      clear hr hX
      go_wp2_with fail
      refine Calls.mono (st_read (HB.out.but HBW.out HR.out HP0.out) HU.out d (2 + p) HRD.out) ?_
      rintro e w3 ⟨rfl, _, hk3⟩
      go_wp2_with (refine stop_at (o := ⟨some 13, _, _, _, _, _⟩) ?_)
      refine Stop.mk ?_
      refine wpList_new_row rfl rfl _ _ rfl rfl ty_sec (u8s zeroB) zero_sec (by rw [u8s_length, zeroB_length]) (u8s s) rfl (by rw [u8s_length, HSB.out.1]) (u8s_one _) rfl ?_
      intro w4 hz4 hs4 hk4
      have HK4 := Lib.hid (hk3.trans hk4)
      have HB4 := Lib.hid (HB2.out.keep HK4.out)
      have HI4 := Lib.hid (HIK.out _ _ HI.out HK4.out)
      have HS4 := hz4
      have HZ4 := Lib.hid (HK4.out.block HZ.out)
      have x2 := HK4.out.cell' HXC.out
      have HYZ := Lib.hid (show w3.heap.size ≠ P ∧ w3.heap.size ≠ Z by have := (Array.getElem?_eq_some_iff.1 HZ.out).1; have := hk3.size; have := HB2.out.size; have := HW2.out; have := HPW.out; omega)
      generalize w3.heap.size = Y at *
      clear hz4 hs4 hk4 hk3 HI HRD hcell x0 HXC HB2 HZ HBW
      rcases hpass : passE c1 with _ | _
      · by_cases hc : c1 = 0
        · subst hc
          replace HRES : Hid ((if isTag s = true ∧ (tagRaw s).gen = gen ∧ so (tagRaw s) = true then (⟨s, n + 1, true, 0⟩ : Hit) else findL T.read p gen so (L.drop (t + 1)) (n + 1)) = res) := Lib.hid (by have := HRES.out; rw [if_neg (by rw [hpass]; decide), if_neg (by decide)] at this; exact this)
          have HPS := Lib.hid hpass
          clear hpass
          go_wp2_with fail
          refine Calls.mono (meta_passed 0 _) ?_
          rintro e w' ⟨rfl, rfl⟩
          rw [HPS.out]
          go_wp2_with (refine stop_at (o := ⟨some 46, _, _, _, _, _⟩) ?_)
          refine Stop.mk ?_
          refine wpList_load_agg rfl _ rfl ty_sec Y 0 rfl (u8s s) (by simpa using Cells.of_block HS4.out) (by rw [u8s_length, HSB.out.1]) ?_
          rcases htag : isTag s with _ | _
          · have hc := record_TagOf s w4 HSB.out.2 HSB.out.1
            rw [tagRes_no htag] at hc
            have HC := Lib.hid hc
            replace HRES : Hid (findL T.read p gen so (L.drop (t + 1)) (n + 1) = res) := Lib.hid (by have := HRES.out; rw [if_neg (by rw [htag]; simp)] at this; exact this)
            clear hc htag
            go_wp2_with fail
            refine Calls.mono HC.out ?_
            rintro e w5 ⟨rfl, hk5⟩
            have HB5 := Lib.hid (HB4.out.keep hk5)
            have HI5 := Lib.hid (HIK.out _ _ HI4.out hk5)
            clear hk5 HC HB4 HI4
            go_wp2_with (refine stop_at (o := ⟨some 15, _, _, _, _, _⟩) ?_)
            refine Stop.mk ?_
            refine wpList_new_row rfl rfl _ _ rfl rfl ty_tag tag0.vals zero_tag rfl tag0.vals rfl rfl (tag_one _) rfl ?_
            intro w6 hz6 hs6 hk6
            have HB6 := Lib.hid (HB5.out.keep hk6)
            have HI6 := Lib.hid (HIK.out _ _ HI5.out hk6)
            clear hz6 hs6 hk6 HB5 HI5
            go_wp2
            go_roundw
            case rel => exact ⟨t + 1, n + 1, hlt, by omega, by go_num, by go_num, HRES, HB6, HI6⟩
            case measure => simp [intOf]; omega
          · have hc := record_TagOf s w4 HSB.out.2 HSB.out.1
            rw [tagRes_is htag] at hc
            have HC := Lib.hid hc
            have HT := Lib.hid htag
            clear hc htag
            go_wp2_with fail
            refine Calls.mono HC.out ?_
            rintro e w5 ⟨rfl, hk5⟩
            have HB5 := Lib.hid (HB4.out.keep hk5)
            have HI5 := Lib.hid (HIK.out _ _ HI4.out hk5)
            have HZ5 := Lib.hid (hk5.block HZ4.out)
            have HS5 := Lib.hid (hk5.block HS4.out)
            have x25 := hk5.cell' x2
            clear hk5 HC HB4 HI4 HZ4 HS4 x2
            go_wp2_with (refine stop_at (o := ⟨some 15, _, _, _, _, _⟩) ?_)
            refine Stop.mk ?_
            refine wpList_new_row rfl rfl _ _ rfl rfl ty_tag tag0.vals zero_tag rfl (tagRaw s).vals rfl rfl (tag_one _) rfl ?_
            intro w6 hz6 hs6 hk6
            have HB6 := Lib.hid (HB5.out.keep hk6)
            have HI6 := Lib.hid (HIK.out _ _ HI5.out hk6)
            have HZ6 := Lib.hid (hk6.block HZ5.out)
            have HS6 := Lib.hid (hk6.block HS5.out)
            have HV6 := hz6
            have x26 := hk6.cell' x25
            have v0 : w6.cell? ⟨w5.heap.size, 0, none⟩ = some (.int .i64 (tagRaw s).gen) := cell_of_row _ _ 0 _ _ _ hz6.out
            generalize w5.heap.size = V at *
            clear hz6 hs6 hk6 HB5 HI5 HZ5 HS5 x25
            rcases hg : ((tagRaw s).gen == gen) with _ | _
            · replace HRES : Hid (findL T.read p gen so (L.drop (t + 1)) (n + 1) = res) := Lib.hid (by have := HRES.out; rw [if_neg (fun h => by rw [h.2.1] at hg; simp at hg)] at this; exact this)
              go_wp2
              go_roundw
              case rel => exact ⟨t + 1, n + 1, hlt, by omega, by go_num, by go_num, HRES, HB6, HI6⟩
              case measure => simp [intOf]; omega
            · have HG := Lib.hid hg
              have HCC := Lib.hid (HCL.out (tagRaw s) w6 HI6.out)
              go_wp2_with (refine stop_at (o := ⟨some 60, _, _, _, _, _⟩) ?_)
              refine Stop.mk ?_
              refine wpList_load_aggW _ rfl ty_tag V 0 rfl (tagRaw s).vals (by simpa using Cells.of_block HV6.out) rfl rfl ?_
              go_wp2_with fail
              refine Calls.mono HCC.out ?_
              rintro e w7 ⟨rfl, hi7, hb7⟩
              have HI7 := Lib.hid hi7
              have HB7 := Lib.hid (HB6.out.trans hb7)
              have HZ7 := Lib.hid ((hb7.block Z (Array.getElem?_eq_some_iff.1 HZ6.out).1 HZP.out.1).trans HZ6.out)
              have HS7 := Lib.hid ((hb7.block Y (Array.getElem?_eq_some_iff.1 HS6.out).1 HYZ.out.1).trans HS6.out)
              clear hi7 hb7 HCC HB6 HI6 HZ6 HS6 hg HV6 v0 x26
              rcases hso : so (tagRaw s) with _ | _
              · replace HRES : Hid (findL T.read p gen so (L.drop (t + 1)) (n + 1) = res) := Lib.hid (by have := HRES.out; rw [if_neg (fun h => by rw [hso] at h; exact absurd h.2.2 (by decide))] at this; exact this)
                clear hso
                go_wp2
                go_roundw
                case rel => exact ⟨t + 1, n + 1, hlt, by omega, by go_num, by go_num, HRES, HB7, HI7⟩
                case measure => simp [intOf]; omega
              · have HRR : Hid (res = ⟨s, n + 1, true, 0⟩) := Lib.hid (by
                  have := HRES.out
                  rw [if_pos ⟨HT.out, by have := HG.out; simpa using this, hso⟩] at this
                  exact this.symm)
                clear hso HRES
                go_wp2_with (refine stop_at (o := ⟨some 63, _, _, _, _, _⟩) ?_)
                refine Stop.mk ?_
                refine wpList_load_agg rfl _ rfl ty_sec Y 0 rfl (u8s s) (by simpa using Cells.of_block HS7.out) (by rw [u8s_length, HSB.out.1]) ?_
                go_wp2_with (refine stop_at (o := ⟨none, .store _ _ _, _, _, _, _⟩) ?_)
                refine Stop.mk ?_
                refine wpList_store_agg rfl _ _ rfl ty_sec Z 0 rfl (u8s s) rfl (by rw [u8s_length, HSB.out.1]) (u8s_one _) (u8s zeroB) _ HZ7.out (by simp [u8s_length, zeroB_length]) ?_
                intro w8 hw8
                replace hw8 := hw8.all (by rw [u8s_length, u8s_length, zeroB_length, HSB.out.1])
                have HI8 := Lib.hid (HIW.out _ _ Z _ _ HI7.out hw8 HZP.out.1)
                have HB8 := Lib.hid (HUP.out _ _ _ _ HB7.out hw8)
                have HC8 := Lib.hid hw8.cells
                clear hw8 HB7 HI7 HZ7 HS7
                go_wp2
                refine bodyPost_ret (results_hit rfl _ _ Z s HSB.out.1 rfl HC8.out) rfl ?_
                exact ⟨by rw [HRR.out]; rfl, HI8.out, HB8.out⟩
        · have hcb : (c1 == 0) = false := by simpa using hc
          have HRR : Hid (res = ⟨s, n, false, c1⟩) := Lib.hid (by have := HRES.out; rw [if_neg (by rw [hpass]; decide), if_pos hc] at this; exact this.symm)
          have HPS := Lib.hid hpass
          clear hpass hc HRES
          go_wp2_with fail
          refine Calls.mono (meta_passed c1 _) ?_
          rintro e w' ⟨rfl, rfl⟩
          rw [HPS.out]
          go_wp2_with (refine stop_at (o := ⟨some 40, _, _, _, _, _⟩) ?_)
          refine Stop.mk ?_
          refine wpList_load_agg rfl _ rfl ty_sec Y 0 rfl (u8s s) (by simpa using Cells.of_block HS4.out) (by rw [u8s_length, HSB.out.1]) ?_
          go_wp2_with (refine stop_at (o := ⟨none, .store _ _ _, _, _, _, _⟩) ?_)
          refine Stop.mk ?_
          refine wpList_store_agg rfl _ _ rfl ty_sec Z 0 rfl (u8s s) rfl (by rw [u8s_length, HSB.out.1]) (u8s_one _) (u8s zeroB) _ HZ4.out (by simp [u8s_length, zeroB_length]) ?_
          intro w8 hw8
          replace hw8 := hw8.all (by rw [u8s_length, u8s_length, zeroB_length, HSB.out.1])
          have HI7 := HI4
          have HI8 := Lib.hid (HIW.out _ _ Z _ _ HI7.out hw8 HZP.out.1)
          have HB8 := Lib.hid (HUP.out _ _ _ _ HB4.out hw8)
          have HC8 := Lib.hid hw8.cells
          clear hw8 HB4 HI4 HI7 HZ4 HS4
          go_wp2
          refine bodyPost_ret (results_hit rfl _ _ Z s HSB.out.1 rfl HC8.out) rfl ?_
          exact ⟨by rw [HRR.out]; rfl, HI8.out, HB8.out⟩
      · replace HRES : Hid (findL T.read p gen so (L.drop (t + 1)) n = res) := Lib.hid (by have := HRES.out; rw [if_pos hpass] at this; exact this)
        have HPS := Lib.hid hpass
        clear hpass
        go_wp2_with fail
        refine Calls.mono (meta_passed c1 _) ?_
        rintro e w' ⟨rfl, rfl⟩
        rw [HPS.out]
        go_wp2
        go_roundw
        case rel => exact ⟨t + 1, n, hlt, by omega, by go_num, rfl, HRES, HB4, HI4⟩
        case measure => simp [intOf]; omega
    · have htn : t = L.length := by omega
      have HRR : Hid (res = ⟨zeroB, n, false, 0⟩) := Lib.hid (by have := HRES.out; rw [htn, List.drop_length] at this; unfold findL at this; exact this.symm)
      have hge : L.length ≤ t := by omega
      clear htn HRES
      go_wp2_with (refine stop_at (o := ⟨some 66, _, _, _, _, _⟩) ?_)
      refine Stop.mk ?_
      refine wpList_build_zeroR rfl rfl (.agg (u8s zeroB).toArray) build_sec ?_
      go_wp2_with (refine stop_at (o := ⟨none, .store _ _ _, _, _, _, _⟩) ?_)
      refine Stop.mk ?_
      refine wpList_store_agg rfl _ _ rfl ty_sec Z 0 rfl (u8s zeroB) rfl (by rw [u8s_length, zeroB_length]) (u8s_one _) (u8s zeroB) _ HZ.out (by simp [u8s_length, zeroB_length]) ?_
      intro w8 hw8
      replace hw8 := hw8.all rfl
      have HI7 := HI
      have HI8 := Lib.hid (HIW.out _ _ Z _ _ HI7.out hw8 HZP.out.1)
      have HB8 := Lib.hid (HUP.out _ _ _ _ HB2.out hw8)
      have HC8 := Lib.hid hw8.cells
      clear hw8 HI HI7 HZ
      go_wp2
      refine bodyPost_ret (results_hit rfl _ _ Z zeroB zeroB_length rfl HC8.out) rfl ?_
      exact ⟨by rw [HRR.out]; rfl, HI8.out, HB8.out⟩
end
section
variable {w0 W : World} {R : Nat → Prop} {q : Nat} {T : BankT}
set_option maxHeartbeats 4000000
set_option maxRecDepth 100000
theorem find_next (h : BK w0 R W q T) (u : T.Use) (P : Nat) (hR : R P) (hP0 : w0.heap.size ≤ P) (B c : Nat) (L : List Int) (hlv : Cells W B 0 (ints L)) (hBP : B ≠ P) (hL : L.length ≤ 100) (gen p : Int) (hp : 0 ≤ p ∧ p ≤ 1000) (so : Tag → Bool) (I : World → Prop) (hI : I W) (hIk : ∀ w w', I w → Kept w w' → I w') (hIw : ∀ (w w' : World) (g : Nat) (cs : List Value) (t : TypeId), I w → Wrote w w' g cs t → g ≠ P → I w')
    (hcl : ∀ (t : Tag) (w : World), I w → Calls Tryd.prog 65 #[t.val, .pointer (some ⟨P, 0, none⟩)] w fun e w' => e = .returned (.bool (so t)) ∧ I w' ∧ But (fun k => k = P) w w') :
    Calls Tryd.prog 63 #[.agg #[.pointer (some ⟨q, 0, none⟩), .slice (some ⟨B, 0, none⟩) L.length c, .int .i64 gen], .int .i64 p, .func (.func 65) #[] #[.pointer (some ⟨P, 0, none⟩)]] W fun e w' =>
      e = .returned (.tuple #[secV (findL T.read p gen so L 0).s, .int .i64 (findL T.read p gen so L 0).n, .bool (findL T.read p gen so L 0).ok, .int .i64 (findL T.read p gen so L 0).e]) ∧ I w' ∧ But (fun k => k = P) W w' := by
  obtain ⟨res, hres⟩ : ∃ res, findL T.read p gen so L 0 = res := ⟨_, rfl⟩
  rw [hres]
  have HRES := Lib.hid (show findL T.read p gen so (L.drop 0) 0 = res from hres)
  have HPW := Lib.hid (show P < W.heap.size by obtain ⟨_, _, hh⟩ := h; exact (hh.off P hR).1)
  have HB := Lib.hid h; have HU := Lib.hid u; have HLV := Lib.hid hlv; have HR := Lib.hid hR; have HI := Lib.hid hI; have HIK := Lib.hid hIk; have HIW := Lib.hid hIw; have HCL := Lib.hid hcl; have HBP := Lib.hid hBP; have HP0 := Lib.hid hP0
  obtain ⟨hp0, hp1⟩ := hp
  clear h u hlv hR hI hIk hIw hcl hBP hP0 hres
  go_enter Tryd.func63, Tryd.ntmps63
  go_wp2_with (refine stop_at (o := ⟨some 3, _, _, _, _, _⟩) ?_)
  refine Stop.mk ?_
  refine wpList_box_row rfl _ _ rfl [.pointer (some ⟨q, 0, none⟩), .slice (some ⟨B, 0, none⟩) L.length c, .int .i64 gen] rfl ?_
  intro w1 hz1 hs1 hk1
  refine wpList_alloc_abs rfl 39 rfl (u8s zeroB) zero_sec ?_
  intro w2 hz2 hs2 hn2 hk2
  have HX2 := Lib.hid (hk2.block hz1.out)
  have HZ2 := hz2
  have HK2 := Lib.hid (hk1.trans hk2)
  have HI2 := Lib.hid (HIK.out _ _ HI.out HK2.out)
  have HXP := Lib.hid (show W.heap.size ≠ P by have := HPW.out; omega)
  have HZP := Lib.hid (show w1.heap.size ≠ P ∧ w1.heap.size ≠ W.heap.size by have := HPW.out; have := hs1; have := hk1.size; omega)
  have x1 : w2.cell? ⟨W.heap.size, 1, none⟩ = some (.slice (some ⟨B, 0, none⟩) L.length c) := cell_of_row _ _ 1 _ _ _ HX2.out
  have HW2 := Lib.hid HK2.out.size
  have HUP := Lib.hid (fun (b c : World) (cs : List Value) (t : TypeId) (hb : But (fun k => k = P) w2 b) (hw : Wrote b c w1.heap.size cs t) => but_wrote_up HK2.out hb hw hk1.size)
  generalize W.heap.size = X at *
  generalize w1.heap.size = Z at *
  clear hz1 hs1 hk1 hz2 hs2 hn2 hk2
  go_wp2
  clear x1
  go_loopw [10, 20] (fun m i wr => ∃ (t n : Nat), t ≤ L.length ∧ n ≤ t ∧ i = .int .i64 t ∧ m = .int .i64 n ∧ Hid (findL T.read p gen so (L.drop t) n = res) ∧ Hid (But (fun k => k = P) w2 wr) ∧ Hid (I wr)) (fun _ i _ => L.length - (intOf i).toNat)
  case atStart => exact ⟨0, 0, Nat.zero_le _, Nat.le_refl _, rfl, rfl, HRES, Lib.hid (But.refl _ _), HI2⟩
  case round =>
    clear HRES HI2
    obtain ⟨t, n, ht, hn, rfl, rfl, HRES, HB2, HI⟩ := hrel
    obtain ⟨wo, hwo⟩ : ∃ wo, wo = wr := ⟨_, rfl⟩
    subst hwo
    have HBW := Lib.hid ((But.kept HK2.out).trans HB2.out)
    have HZ := Lib.hid ((HB2.out.block Z (Array.getElem?_eq_some_iff.1 HZ2.out).1 HZP.out.1).trans HZ2.out)
    by_cases hlt : t < L.length
    · have hcell := cell_ints (HLV.out.but HBW.out HBP.out) hlt
      have hX := (HB2.out.block X (Array.getElem?_eq_some_iff.1 HX2.out).1 HXP.out).trans HX2.out
      have x0 : wo.cell? ⟨X, 0, none⟩ = some (.pointer (some ⟨q, 0, none⟩)) := cell_of_row _ _ 0 _ _ _ hX
      have HXC := Lib.hid (show wo.cell? ⟨X, 2, none⟩ = some (.int .i64 gen) from cell_of_row _ _ 2 _ _ _ hX)
      replace HRES : Hid (findL T.read p gen so (L.getD t 0 :: L.drop (t + 1)) n = res) := Lib.hid (by rw [← drop_int hlt]; exact HRES.out)
      generalize L.getD t 0 = d at *
      obtain ⟨s, c1, hr⟩ : ∃ s c1, T.read d (2 + p) = (s, c1) := ⟨_, _, rfl⟩
      have HSB : Hid (SecB s) := Lib.hid (by have := BankT.read_sec HU.out.inv d (2 + p); rw [hr] at this; exact this)
      have HRD := Lib.hid hr
      unfold findL at HRES
      rw [hr] at HRES
      simp only [] at HRES
      clear hr hX
      go_wp2_with fail
      refine Calls.mono (st_read (HB.out.but HBW.out HR.out HP0.out) HU.out d (2 + p) HRD.out) ?_
      rintro e w3 ⟨rfl, _, hk3⟩
      go_wp2_with (refine stop_at (o := ⟨some 13, _, _, _, _, _⟩) ?_)
      refine Stop.mk ?_
      refine wpList_new_row rfl rfl _ _ rfl rfl ty_sec (u8s zeroB) zero_sec (by rw [u8s_length, zeroB_length]) (u8s s) rfl (by rw [u8s_length, HSB.out.1]) (u8s_one _) rfl ?_
      intro w4 hz4 hs4 hk4
      have HK4 := Lib.hid (hk3.trans hk4)
      have HB4 := Lib.hid (HB2.out.keep HK4.out)
      have HI4 := Lib.hid (HIK.out _ _ HI.out HK4.out)
      have HS4 := hz4
      have HZ4 := Lib.hid (HK4.out.block HZ.out)
      have x2 := HK4.out.cell' HXC.out
      have HYZ := Lib.hid (show w3.heap.size ≠ P ∧ w3.heap.size ≠ Z by have := (Array.getElem?_eq_some_iff.1 HZ.out).1; have := hk3.size; have := HB2.out.size; have := HW2.out; have := HPW.out; omega)
      generalize w3.heap.size = Y at *
      clear hz4 hs4 hk4 hk3 HI HRD hcell x0 HXC HB2 HZ HBW
      rcases hpass : passE c1 with _ | _
      · by_cases hc : c1 = 0
        · subst hc
          replace HRES : Hid ((if isTag s = true ∧ (tagRaw s).gen = gen ∧ so (tagRaw s) = true then (⟨s, n + 1, true, 0⟩ : Hit) else findL T.read p gen so (L.drop (t + 1)) (n + 1)) = res) := Lib.hid (by have := HRES.out; rw [if_neg (by rw [hpass]; decide), if_neg (by decide)] at this; exact this)
          have HPS := Lib.hid hpass
          clear hpass
          go_wp2_with fail
          refine Calls.mono (meta_passed 0 _) ?_
          rintro e w' ⟨rfl, rfl⟩
          rw [HPS.out]
          go_wp2_with (refine stop_at (o := ⟨some 46, _, _, _, _, _⟩) ?_)
          refine Stop.mk ?_
          refine wpList_load_agg rfl _ rfl ty_sec Y 0 rfl (u8s s) (by simpa using Cells.of_block HS4.out) (by rw [u8s_length, HSB.out.1]) ?_
          rcases htag : isTag s with _ | _
          · have hc := record_TagOf s w4 HSB.out.2 HSB.out.1
            rw [tagRes_no htag] at hc
            have HC := Lib.hid hc
            replace HRES : Hid (findL T.read p gen so (L.drop (t + 1)) (n + 1) = res) := Lib.hid (by have := HRES.out; rw [if_neg (by rw [htag]; simp)] at this; exact this)
            clear hc htag
            go_wp2_with fail
            refine Calls.mono HC.out ?_
            rintro e w5 ⟨rfl, hk5⟩
            have HB5 := Lib.hid (HB4.out.keep hk5)
            have HI5 := Lib.hid (HIK.out _ _ HI4.out hk5)
            clear hk5 HC HB4 HI4
            go_wp2_with (refine stop_at (o := ⟨some 15, _, _, _, _, _⟩) ?_)
            refine Stop.mk ?_
            refine wpList_new_row rfl rfl _ _ rfl rfl ty_tag tag0.vals zero_tag rfl tag0.vals rfl rfl (tag_one _) rfl ?_
            intro w6 hz6 hs6 hk6
            have HB6 := Lib.hid (HB5.out.keep hk6)
            have HI6 := Lib.hid (HIK.out _ _ HI5.out hk6)
            clear hz6 hs6 hk6 HB5 HI5
            go_wp2
            go_roundw
            case rel => exact ⟨t + 1, n + 1, hlt, by omega, by go_num, by go_num, HRES, HB6, HI6⟩
            case measure => simp [intOf]; omega
          · have hc := record_TagOf s w4 HSB.out.2 HSB.out.1
            rw [tagRes_is htag] at hc
            have HC := Lib.hid hc
            have HT := Lib.hid htag
            clear hc htag
            go_wp2_with fail
            refine Calls.mono HC.out ?_
            rintro e w5 ⟨rfl, hk5⟩
            have HB5 := Lib.hid (HB4.out.keep hk5)
            have HI5 := Lib.hid (HIK.out _ _ HI4.out hk5)
            have HZ5 := Lib.hid (hk5.block HZ4.out)
            have HS5 := Lib.hid (hk5.block HS4.out)
            have x25 := hk5.cell' x2
            clear hk5 HC HB4 HI4 HZ4 HS4 x2
            go_wp2_with (refine stop_at (o := ⟨some 15, _, _, _, _, _⟩) ?_)
            refine Stop.mk ?_
            refine wpList_new_row rfl rfl _ _ rfl rfl ty_tag tag0.vals zero_tag rfl (tagRaw s).vals rfl rfl (tag_one _) rfl ?_
            intro w6 hz6 hs6 hk6
            have HB6 := Lib.hid (HB5.out.keep hk6)
            have HI6 := Lib.hid (HIK.out _ _ HI5.out hk6)
            have HZ6 := Lib.hid (hk6.block HZ5.out)
            have HS6 := Lib.hid (hk6.block HS5.out)
            have HV6 := hz6
            have x26 := hk6.cell' x25
            have v0 : w6.cell? ⟨w5.heap.size, 0, none⟩ = some (.int .i64 (tagRaw s).gen) := cell_of_row _ _ 0 _ _ _ hz6.out
            generalize w5.heap.size = V at *
            clear hz6 hs6 hk6 HB5 HI5 HZ5 HS5 x25
            rcases hg : ((tagRaw s).gen == gen) with _ | _
            · replace HRES : Hid (findL T.read p gen so (L.drop (t + 1)) (n + 1) = res) := Lib.hid (by have := HRES.out; rw [if_neg (fun h => by rw [h.2.1] at hg; simp at hg)] at this; exact this)
              go_wp2
              go_roundw
              case rel => exact ⟨t + 1, n + 1, hlt, by omega, by go_num, by go_num, HRES, HB6, HI6⟩
              case measure => simp [intOf]; omega
            · have HG := Lib.hid hg
              have HCC := Lib.hid (HCL.out (tagRaw s) w6 HI6.out)
              go_wp2_with (refine stop_at (o := ⟨some 60, _, _, _, _, _⟩) ?_)
              refine Stop.mk ?_
              refine wpList_load_aggW _ rfl ty_tag V 0 rfl (tagRaw s).vals (by simpa using Cells.of_block HV6.out) rfl rfl ?_
              go_wp2_with fail
              refine Calls.mono HCC.out ?_
              rintro e w7 ⟨rfl, hi7, hb7⟩
              have HI7 := Lib.hid hi7
              have HB7 := Lib.hid (HB6.out.trans hb7)
              have HZ7 := Lib.hid ((hb7.block Z (Array.getElem?_eq_some_iff.1 HZ6.out).1 HZP.out.1).trans HZ6.out)
              have HS7 := Lib.hid ((hb7.block Y (Array.getElem?_eq_some_iff.1 HS6.out).1 HYZ.out.1).trans HS6.out)
              clear hi7 hb7 HCC HB6 HI6 HZ6 HS6 hg HV6 v0 x26
              rcases hso : so (tagRaw s) with _ | _
              · replace HRES : Hid (findL T.read p gen so (L.drop (t + 1)) (n + 1) = res) := Lib.hid (by have := HRES.out; rw [if_neg (fun h => by rw [hso] at h; exact absurd h.2.2 (by decide))] at this; exact this)
                clear hso
                go_wp2
                go_roundw
                case rel => exact ⟨t + 1, n + 1, hlt, by omega, by go_num, by go_num, HRES, HB7, HI7⟩
                case measure => simp [intOf]; omega
              · have HRR : Hid (res = ⟨s, n + 1, true, 0⟩) := Lib.hid (by
                  have := HRES.out
                  rw [if_pos ⟨HT.out, by have := HG.out; simpa using this, hso⟩] at this
                  exact this.symm)
                clear hso HRES
                go_wp2_with (refine stop_at (o := ⟨some 63, _, _, _, _, _⟩) ?_)
                refine Stop.mk ?_
                refine wpList_load_agg rfl _ rfl ty_sec Y 0 rfl (u8s s) (by simpa using Cells.of_block HS7.out) (by rw [u8s_length, HSB.out.1]) ?_
                go_wp2_with (refine stop_at (o := ⟨none, .store _ _ _, _, _, _, _⟩) ?_)
                refine Stop.mk ?_
                refine wpList_store_agg rfl _ _ rfl ty_sec Z 0 rfl (u8s s) rfl (by rw [u8s_length, HSB.out.1]) (u8s_one _) (u8s zeroB) _ HZ7.out (by simp [u8s_length, zeroB_length]) ?_
                intro w8 hw8
                replace hw8 := hw8.all (by rw [u8s_length, u8s_length, zeroB_length, HSB.out.1])
                have HI8 := Lib.hid (HIW.out _ _ Z _ _ HI7.out hw8 HZP.out.1)
                have HB8 := Lib.hid (HUP.out _ _ _ _ HB7.out hw8)
                have HC8 := Lib.hid hw8.cells
                clear hw8 HB7 HI7 HZ7 HS7
                go_wp2
                refine bodyPost_ret (results_hit rfl _ _ Z s HSB.out.1 rfl HC8.out) rfl ?_
                exact ⟨by rw [HRR.out]; rfl, HI8.out, HB8.out⟩
        · have hcb : (c1 == 0) = false := by simpa using hc
          have HRR : Hid (res = ⟨s, n, false, c1⟩) := Lib.hid (by have := HRES.out; rw [if_neg (by rw [hpass]; decide), if_pos hc] at this; exact this.symm)
          have HPS := Lib.hid hpass
          clear hpass hc HRES
          go_wp2_with fail
          refine Calls.mono (meta_passed c1 _) ?_
          rintro e w' ⟨rfl, rfl⟩
          rw [HPS.out]
          go_wp2_with (refine stop_at (o := ⟨some 40, _, _, _, _, _⟩) ?_)
          refine Stop.mk ?_
          refine wpList_load_agg rfl _ rfl ty_sec Y 0 rfl (u8s s) (by simpa using Cells.of_block HS4.out) (by rw [u8s_length, HSB.out.1]) ?_
          go_wp2_with (refine stop_at (o := ⟨none, .store _ _ _, _, _, _, _⟩) ?_)
          refine Stop.mk ?_
          refine wpList_store_agg rfl _ _ rfl ty_sec Z 0 rfl (u8s s) rfl (by rw [u8s_length, HSB.out.1]) (u8s_one _) (u8s zeroB) _ HZ4.out (by simp [u8s_length, zeroB_length]) ?_
          intro w8 hw8
          replace hw8 := hw8.all (by rw [u8s_length, u8s_length, zeroB_length, HSB.out.1])
          have HI7 := HI4
          have HI8 := Lib.hid (HIW.out _ _ Z _ _ HI7.out hw8 HZP.out.1)
          have HB8 := Lib.hid (HUP.out _ _ _ _ HB4.out hw8)
          have HC8 := Lib.hid hw8.cells
          clear hw8 HB4 HI4 HI7 HZ4 HS4
          go_wp2
          refine bodyPost_ret (results_hit rfl _ _ Z s HSB.out.1 rfl HC8.out) rfl ?_
          exact ⟨by rw [HRR.out]; rfl, HI8.out, HB8.out⟩
      · replace HRES : Hid (findL T.read p gen so (L.drop (t + 1)) n = res) := Lib.hid (by have := HRES.out; rw [if_pos hpass] at this; exact this)
        have HPS := Lib.hid hpass
        clear hpass
        go_wp2_with fail
        refine Calls.mono (meta_passed c1 _) ?_
        rintro e w' ⟨rfl, rfl⟩
        rw [HPS.out]
        go_wp2
        go_roundw
        case rel => exact ⟨t + 1, n, hlt, by omega, by go_num, rfl, HRES, HB4, HI4⟩
        case measure => simp [intOf]; omega
    · have htn : t = L.length := by omega
      have HRR : Hid (res = ⟨zeroB, n, false, 0⟩) := Lib.hid (by have := HRES.out; rw [htn, List.drop_length] at this; unfold findL at this; exact this.symm)
      have hge : L.length ≤ t := by omega
      clear htn HRES
      go_wp2_with (refine stop_at (o := ⟨some 66, _, _, _, _, _⟩) ?_)
      refine Stop.mk ?_
      refine wpList_build_zeroR rfl rfl (.agg (u8s zeroB).toArray) build_sec ?_
      go_wp2_with (refine stop_at (o := ⟨none, .store _ _ _, _, _, _, _⟩) ?_)
      refine Stop.mk ?_
      refine wpList_store_agg rfl _ _ rfl ty_sec Z 0 rfl (u8s zeroB) rfl (by rw [u8s_length, zeroB_length]) (u8s_one _) (u8s zeroB) _ HZ.out (by simp [u8s_length, zeroB_length]) ?_
      intro w8 hw8
      replace hw8 := hw8.all rfl
      have HI7 := HI
      have HI8 := Lib.hid (HIW.out _ _ Z _ _ HI7.out hw8 HZP.out.1)
      have HB8 := Lib.hid (HUP.out _ _ _ _ HB2.out hw8)
      have HC8 := Lib.hid hw8.cells
      clear hw8 HI HI7 HZ
      go_wp2
      refine bodyPost_ret (results_hit rfl _ _ Z zeroB zeroB_length rfl HC8.out) rfl ?_
      exact ⟨by rw [HRR.out]; rfl, HI8.out, HB8.out⟩
end
end Go.Proofs.YtpeclkhppgabfaaDoor
