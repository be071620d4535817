/- PbA: several texts in one: Fnd Mrc Scn Log. -/
import Derived.Test.YtpeclkhppgabfaaDoorPaI
import Derived.Test.YtpeclkhppgabfaaDoorPaK
import Derived.Test.YtpeclkhppgabfaaDoorPaM
import Derived.Lib.SliceRun
/- metalog's find walked, for each of the two function values that it gets. -/
namespace Go.Proofs.YtpeclkhppgabfaaDoor
open Go.RowKit
set_option linter.unusedVariables false
set_option linter.unusedSimpArgs false

theorem meta_passed (c : Int) (w : World) : Calls Tryd.prog 52 #[.int .i64 c] w fun e w' => e = .returned (.bool (passE c)) ∧ w = w' := by
  by_cases h7 : c = 7
  · subst h7
    go_enter Tryd.func52, Tryd.ntmps52
    go_wp2
    go_ret
    exact ⟨rfl, rfl⟩
  · by_cases h8 : c = 8
    · subst h8
      go_enter Tryd.func52, Tryd.ntmps52
      go_wp2
      go_ret
      exact ⟨rfl, rfl⟩
    · have b7 : (c == 7) = false := by simpa using h7
      have b8 : (c == 8) = false := by simpa using h8
      have HP := Lib.hid (show passE c = false by simp [passE, b7, b8])
      clear h7 h8
      go_enter Tryd.func52, Tryd.ntmps52
      go_wp2
      go_ret
      exact ⟨by rw [HP.out]; rfl, rfl⟩
theorem so_first (num : Int) (t : Tag) (P : Nat) (w : World) (hp : w.cell? ⟨P, 0, none⟩ = some (.int .i64 num)) : Calls Tryd.prog 64 #[t.val, .pointer (some ⟨P, 0, none⟩)] w fun e w' => e = .returned (.bool (soFirst num t)) ∧ Kept w w' := by
  obtain ⟨g, n, p, ps, l⟩ := t
  simp only [Tag.val]
  have HE := Lib.hid (show soFirst num ⟨g, n, p, ps, l⟩ = (n == num && p == 0) from rfl)
  rw [HE.out]
  clear HE
  go_enter Tryd.func64, Tryd.ntmps64
  go_wp2_with (refine stop_at (o := ⟨some 2, _, _, _, _, _⟩) ?_)
  refine Stop.mk ?_
  refine wpList_box_row rfl _ _ rfl [.int .i64 g, .int .i64 n, .int .i64 p, .int .i64 ps, .int .i64 l] rfl ?_
  intro w1 hz1 hs1 hk1
  have c1 : w1.cell? ⟨w.heap.size, 1, none⟩ = some (.int .i64 n) := cell_of_row _ _ 1 _ _ _ hz1.out
  have c2 : w1.cell? ⟨w.heap.size, 2, none⟩ = some (.int .i64 p) := cell_of_row _ _ 2 _ _ _ hz1.out
  have hp1 := hk1.cell' hp
  have HK := Lib.hid hk1
  generalize w.heap.size = X at *
  clear hz1 hs1 hk1 hp
  rcases hb : (n == num) with _ | _
  · go_wp2
    go_ret
    exact ⟨by rw [hb]; rfl, HK.out⟩
  · go_wp2
    go_ret
    exact ⟨by rw [hb]; rfl, HK.out⟩
theorem so_next (gen num part parts l : Int) (t : Tag) (P : Nat) (w : World) (hp : w.heap[P]? = some (.cells (Tag.vals ⟨gen, num, part, parts, l⟩).toArray 74 (0, 0))) : Calls Tryd.prog 65 #[t.val, .pointer (some ⟨P, 0, none⟩)] w fun e w' => e = .returned (.bool (soNext gen num part parts t)) ∧ w'.heap[P]? = some (.cells (Tag.vals ⟨gen, num, part, parts, t.len⟩).toArray 74 (0, 0)) ∧ But (fun k => k = P) w w' := by
  have HE := Lib.hid (show soNext gen num part parts t = decide (t = ⟨gen, num, part, parts, t.len⟩) from rfl)
  rw [HE.out]
  obtain ⟨tl, htl⟩ : ∃ tl, t.len = tl := ⟨_, rfl⟩
  rw [htl]
  have HTL := Lib.hid htl
  have hv : t.val = .agg t.vals.toArray := rfl
  rw [hv]
  clear HE htl hv
  go_enter Tryd.func65, Tryd.ntmps65
  go_wp2_with (refine stop_at (o := ⟨some 2, _, _, _, _, _⟩) ?_)
  refine Stop.mk ?_
  refine wpList_box_row rfl _ _ rfl t.vals rfl ?_
  intro w1 hz1 hs1 hk1
  have c4 : w1.cell? ⟨w.heap.size, 4, none⟩ = some (.int .i64 tl) := by
    rw [cell_of_row _ _ 4 _ _ _ hz1.out, ← HTL.out]; rfl
  have HX := Lib.hid (by simpa using Cells.of_block hz1.out : Cells w1 w.heap.size 0 t.vals)
  have HP1 := Lib.hid (hk1.block hp)
  have HK := Lib.hid hk1
  have HXP := Lib.hid (Array.getElem?_eq_some_iff.1 hp).1
  generalize w.heap.size = X at *
  clear hz1 hs1 hk1 hp
  go_wp2_with (refine stop_at (o := ⟨none, .store _ _ _, _, _, _, _⟩) ?_)
  refine Stop.mk ?_
  refine wpList_set_cell rfl _ _ rfl size_int P 4 rfl (.int .i64 tl) rfl rfl rfl _ _ HP1.out (show 4 < 5 by decide) ?_
  intro w2 hw2
  have HP2 : Hid (w2.heap[P]? = some (.cells (Tag.vals ⟨gen, num, part, parts, tl⟩).toArray 74 (0, 0))) := Lib.hid hw2.blk
  have HX2 : Hid (Cells w2 X 0 t.vals) := Lib.hid fun j hj => (World.cell?_of_block (hw2.oth X (by have := HXP.out; omega))).trans (HX.out j hj)
  have HB := Lib.hid ((But.kept HK.out).trans (But.wrote (S := fun k => k = P) hw2 rfl))
  clear hw2 HP1 HX HK
  go_wp2_with (refine stop_at (o := ⟨some 7, _, _, _, _, _⟩) ?_)
  refine Stop.mk ?_
  refine wpList_load_agg rfl _ rfl ty_tag X 0 rfl t.vals HX2.out rfl ?_
  refine wpList_load_agg rfl _ rfl ty_tag P 0 rfl (Tag.vals ⟨gen, num, part, parts, tl⟩) (by simpa using Cells.of_block HP2.out) rfl ?_
  refine wpList_eq_tag rfl _ _ rfl t ⟨gen, num, part, parts, tl⟩ rfl rfl _ rfl ?_
  go_wp2
  go_ret
  exact ⟨rfl, HP2.out, HB.out⟩
theorem BK.but {w0 W W' : World} {R : Nat → Prop} {q : Nat} {T : BankT} {P : Nat} (h : BK w0 R W q T) (hb : But (fun k => k = P) W W') (hR : R P) (h0 : w0.heap.size ≤ P) : BK w0 R W' q T := by
  obtain ⟨Y, hy, h⟩ := h
  exact ⟨Y, hy, ⟨h.d.same fun b hb' => hb.block b (h.d.lt hb') (fun e => (h.off P hR).2 (e ▸ hb')), But.to_kept h.keeps hb (fun i hi => hi ▸ h0), h.own, fun k hk => ⟨Nat.lt_of_lt_of_le (h.off k hk).1 hb.size, (h.off k hk).2⟩⟩⟩
theorem Cells.but {W W' : World} {P B off : Nat} {xs : List Value} (h : Cells W B off xs) (hb : But (fun k => k = P) W W') (hB : B ≠ P) : Cells W' B off xs := fun j hj => hb.cell (p := ⟨B, off + j, none⟩) hB (h j hj)
theorem results_hit {fn : Func} {p q r s : Tmp} (h : fn.results = #[.cell p 39, .tmp q, .tmp r, .tmp s]) (tmps : Array Value) (w : World) (b : Nat) (bs : List Int) (hl : bs.length = 64)
    (hp : tmps.getD p undef = .pointer (some ⟨b, 0, none⟩)) (hc : Cells w b 0 (u8s bs)) :
    (results fn tmps).run Tryd.prog w = .ok (.tuple #[secV bs, tmps.getD q undef, tmps.getD r undef, tmps.getD s undef]) w := by
  have hp' : tmps[p]?.getD undef = .pointer (some ⟨b, 0, none⟩) := by simpa using hp
  obtain ⟨⟨d, hd1, hd2⟩, hs⟩ := ty_sec
  have hr := run_loadVar_mid (P := Tryd.prog) w b 0 39 _ d (rangeAt_of_cells hc) hd1 hd2 (by rw [hs, u8s_length, hl])
  simp [results, h, hp', asAddr, hr, secV]
theorem findL_sec {T : BankT} (h : T.Inv) (p gen : Int) (so : Tag → Bool) : ∀ (L : List Int) (n : Nat), SecB (findL T.read p gen so L n).s
  | [], n => zeroB_byte
  | d :: L, n => by
    unfold findL
    split
    · exact findL_sec h p gen so L n
    · split
      · exact BankT.read_sec h d (2 + p)
      · split
        · exact BankT.read_sec h d (2 + p)
        · exact findL_sec h p gen so L (n + 1)
theorem build_sec (W : World) : (Instr.build 39 #[]).run Tryd.prog W = .ok (.agg (u8s zeroB).toArray) W := by
  have h := run_build (P := Tryd.prog) W 39 #[] (u8s zeroB).toArray (by kernel_rfl)
  exact h
theorem but_wrote_up {S : Nat → Prop} {a b c d : World} {g : Nat} {cs : List Value} {t : TypeId} (hk : Kept a b) (hb : But S b c) (hw : Wrote c d g cs t) (hg : a.heap.size ≤ g) : But S a d :=
  have h := (But.kept (S := S) hk).trans hb
  ⟨hw.os.trans h.os, hw.tape.trans h.tape, hw.output.trans h.output, by rw [hw.size]; exact h.size, fun i hi hn => (hw.oth i (by omega)).trans (h.block i hi hn)⟩
section
variable {w0 W : World} {R : Nat → Prop} {q : Nat} {T : BankT}
set_option maxHeartbeats 4000000
set_option maxRecDepth 100000
theorem find_first (h : BK w0 R W q T) (u : T.Use) (P : Nat) (hR : R P) (hP0 : w0.heap.size ≤ P) (B c : Nat) (L : List Int) (hlv : Cells W B 0 (ints L)) (hBP : B ≠ P) (hL : L.length ≤ 100) (gen p : Int) (hp : 0 ≤ p ∧ p ≤ 1000) (so : Tag → Bool) (I : World → Prop) (hI : I W) (hIk : ∀ w w', I w → Kept w w' → I w') (hIw : ∀ (w w' : World) (g : Nat) (cs : List Value) (t : TypeId), I w → Wrote w w' g cs t → g ≠ P → I w')
    (hcl : ∀ (t : Tag) (w : World), I w → Calls Tryd.prog 64 #[t.val, .pointer (some ⟨P, 0, none⟩)] w fun e w' => e = .returned (.bool (so t)) ∧ I w' ∧ But (fun k => k = P) w w') :
    Calls Tryd.prog 63 #[.agg #[.pointer (some ⟨q, 0, none⟩), .slice (some ⟨B, 0, none⟩) L.length c, .int .i64 gen], .int .i64 p, .func (.func 64) #[] #[.pointer (some ⟨P, 0, none⟩)]] W fun e w' =>
      e = .returned (.tuple #[secV (findL T.read p gen so L 0).s, .int .i64 (findL T.read p gen so L 0).n, .bool (findL T.read p gen so L 0).ok, .int .i64 (findL T.read p gen so L 0).e]) ∧ I w' ∧ But (fun k => k = P) W w' := by
  obtain ⟨res, hres⟩ : ∃ res, findL T.read p gen so L 0 = res := ⟨_, rfl⟩
  rw [hres]
  have HRES := Lib.hid (show findL T.read p gen so (L.drop 0) 0 = res from hres)
  have HPW := Lib.hid (show P < W.heap.size by obtain ⟨_, _, hh⟩ := h; exact (hh.off P hR).1)
  have HB := Lib.hid h; have HU := Lib.hid u; have HLV := Lib.hid hlv; have HR := Lib.hid hR; have HI := Lib.hid hI; have HIK := Lib.hid hIk; have HIW := Lib.hid hIw; have HCL := Lib.hid hcl; have HBP := Lib.hid hBP; have HP0 := Lib.hid hP0
  obtain ⟨hp0, hp1⟩ := hp
  clear h u hlv hR hI hIk hIw hcl hBP hP0 hres
  go_enter Tryd.func63, Tryd.ntmps63
  go_wp2_with (refine stop_at (o := ⟨some 3, _, _, _, _, _⟩) ?_)
  refine Stop.mk ?_
  refine wpList_box_row rfl _ _ rfl [.pointer (some ⟨q, 0, none⟩), .slice (some ⟨B, 0, none⟩) L.length c, .int .i64 gen] rfl ?_
  intro w1 hz1 hs1 hk1
  refine wpList_alloc_abs rfl 39 rfl (u8s zeroB) zero_sec ?_
  intro w2 hz2 hs2 hn2 hk2
  have HX2 := Lib.hid (hk2.block hz1.out)
  have HZ2 := hz2
  have HK2 := Lib.hid (hk1.trans hk2)
  have HI2 := Lib.hid (HIK.out _ _ HI.out HK2.out)
  have HXP := Lib.hid (show W.heap.size ≠ P by have := HPW.out; omega)
  have HZP := Lib.hid (show w1.heap.size ≠ P ∧ w1.heap.size ≠ W.heap.size by have := HPW.out; have := hs1; have := hk1.size; omega)
  have x1 : w2.cell? ⟨W.heap.size, 1, none⟩ = some (.slice (some ⟨B, 0, none⟩) L.length c) := cell_of_row _ _ 1 _ _ _ HX2.out
  have HW2 := Lib.hid HK2.out.size
  have HUP := Lib.hid (fun (b c : World) (cs : List Value) (t : TypeId) (hb : But (fun k => k = P) w2 b) (hw : Wrote b c w1.heap.size cs t) => but_wrote_up HK2.out hb hw hk1.size)
  generalize W.heap.size = X at *
  generalize w1.heap.size = Z at *
  clear hz1 hs1 hk1 hz2 hs2 hn2 hk2
  go_wp2
  clear x1
  go_loopw [10, 20] (fun m i wr => ∃ (t n : Nat), t ≤ L.length ∧ n ≤ t ∧ i = .int .i64 t ∧ m = .int .i64 n ∧ Hid (findL T.read p gen so (L.drop t) n = res) ∧ Hid (But (fun k => k = P) w2 wr) ∧ Hid (I wr)) (fun _ i _ => L.length - (intOf i).toNat)
  case atStart => exact ⟨0, 0, Nat.zero_le _, Nat.le_refl _, rfl, rfl, HRES, Lib.hid (But.refl _ _), HI2⟩
  case round =>
    clear HRES HI2
    obtain ⟨t, n, ht, hn, rfl, rfl, HRES, HB2, HI⟩ := hrel
    obtain ⟨wo, hwo⟩ : ∃ wo, wo = wr := ⟨_, rfl⟩
    subst hwo
    have HBW := Lib.hid ((But.kept HK2.out).trans HB2.out)
    have HZ := Lib.hid ((HB2.out.block Z (Array.getElem?_eq_some_iff.1 HZ2.out).1 HZP.out.1).trans HZ2.out)
    by_cases hlt : t < L.length
    · have hcell := cell_ints (HLV.out.but HBW.out HBP.out) hlt
      have hX := (HB2.out.block X (Array.getElem?_eq_some_iff.1 HX2.out).1 HXP.out).trans HX2.out
      have x0 : wo.cell? ⟨X, 0, none⟩ = some (.pointer (some ⟨q, 0, none⟩)) := cell_of_row _ _ 0 _ _ _ hX
      have HXC := Lib.hid (show wo.cell? ⟨X, 2, none⟩ = some (.int .i64 gen) from cell_of_row _ _ 2 _ _ _ hX)
      replace HRES : Hid (findL T.read p gen so (L.getD t 0 :: L.drop (t + 1)) n = res) := Lib.hid (by rw [← drop_int hlt]; exact HRES.out)
      generalize L.getD t 0 = d at *
      obtain ⟨s, c1, hr⟩ : ∃ s c1, T.read d (2 + p) = (s, c1) := ⟨_, _, rfl⟩
      have HSB : Hid (SecB s) := Lib.hid (by have := BankT.read_sec HU.out.inv d (2 + p); rw [hr] at this; exact this)
      have HRD := Lib.hid hr
      unfold findL at HRES
      rw [hr] at HRES
      simp only [] at HRES
      clear hr hX
      go_wp2_with fail
      refine Calls.mono (st_read (HB.out.but HBW.out HR.out HP0.out) HU.out d (2 + p) HRD.out) ?_
      rintro e w3 ⟨rfl, _, hk3⟩
      go_wp2_with (refine stop_at (o := ⟨some 13, _, _, _, _, _⟩) ?_)
      refine Stop.mk ?_
      refine wpList_new_row rfl rfl _ _ rfl rfl ty_sec (u8s zeroB) zero_sec (by rw [u8s_length, zeroB_length]) (u8s s) rfl (by rw [u8s_length, HSB.out.1]) (u8s_one _) rfl ?_
      intro w4 hz4 hs4 hk4
      have HK4 := Lib.hid (hk3.trans hk4)
      have HB4 := Lib.hid (HB2.out.keep HK4.out)
      have HI4 := Lib.hid (HIK.out _ _ HI.out HK4.out)
      have HS4 := hz4
      have HZ4 := Lib.hid (HK4.out.block HZ.out)
      have x2 := HK4.out.cell' HXC.out
      have HYZ := Lib.hid (show w3.heap.size ≠ P ∧ w3.heap.size ≠ Z by have := (Array.getElem?_eq_some_iff.1 HZ.out).1; have := hk3.size; have := HB2.out.size; have := HW2.out; have := HPW.out; omega)
      generalize w3.heap.size = Y at *
      clear hz4 hs4 hk4 hk3 HI HRD hcell x0 HXC HB2 HZ HBW
      rcases hpass : passE c1 with _ | _
      · by_cases hc : c1 = 0
        · subst hc
          replace HRES : Hid ((if isTag s = true ∧ (tagRaw s).gen = gen ∧ so (tagRaw s) = true then (⟨s, n + 1, true, 0⟩ : Hit) else findL T.read p gen so (L.drop (t + 1)) (n + 1)) = res) := Lib.hid (by have := HRES.out; rw [if_neg (by rw [hpass]; decide), if_neg (by decide)] at this; exact this)
          have HPS := Lib.hid hpass
          clear hpass
          go_wp2_with fail
          refine Calls.mono (meta_passed 0 _) ?_
          rintro e w' ⟨rfl, rfl⟩
          rw [HPS.out]
          go_wp2_with (refine stop_at (o := ⟨some 46, _, _, _, _, _⟩) ?_)
          refine Stop.mk ?_
          refine wpList_load_agg rfl _ rfl ty_sec Y 0 rfl (u8s s) (by simpa using Cells.of_block HS4.out) (by rw [u8s_length, HSB.out.1]) ?_
          rcases htag : isTag s with _ | _
          · have hc := record_TagOf s w4 HSB.out.2 HSB.out.1
            rw [tagRes_no htag] at hc
            have HC := Lib.hid hc
            replace HRES : Hid (findL T.read p gen so (L.drop (t + 1)) (n + 1) = res) := Lib.hid (by have := HRES.out; rw [if_neg (by rw [htag]; simp)] at this; exact this)
            clear hc htag
            go_wp2_with fail
            refine Calls.mono HC.out ?_
            rintro e w5 ⟨rfl, hk5⟩
            have HB5 := Lib.hid (HB4.out.keep hk5)
            have HI5 := Lib.hid (HIK.out _ _ HI4.out hk5)
            clear hk5 HC HB4 HI4
            go_wp2_with (refine stop_at (o := ⟨some 15, _, _, _, _, _⟩) ?_)
            refine Stop.mk ?_
            refine wpList_new_row rfl rfl _ _ rfl rfl ty_tag tag0.vals zero_tag rfl tag0.vals rfl rfl (tag_one _) rfl ?_
            intro w6 hz6 hs6 hk6
            have HB6 := Lib.hid (HB5.out.keep hk6)
            have HI6 := Lib.hid (HIK.out _ _ HI5.out hk6)
            clear hz6 hs6 hk6 HB5 HI5
            go_wp2
            go_roundw
            case rel => exact ⟨t + 1, n + 1, hlt, by omega, by go_num, by go_num, HRES, HB6, HI6⟩
            case measure => simp [intOf]; omega
          · have hc := record_TagOf s w4 HSB.out.2 HSB.out.1
            rw [tagRes_is htag] at hc
            have HC := Lib.hid hc
            have HT := Lib.hid htag
            clear hc htag
            go_wp2_with fail
            refine Calls.mono HC.out ?_
            rintro e w5 ⟨rfl, hk5⟩
            have HB5 := Lib.hid (HB4.out.keep hk5)
            have HI5 := Lib.hid (HIK.out _ _ HI4.out hk5)
            have HZ5 := Lib.hid (hk5.block HZ4.out)
            have HS5 := Lib.hid (hk5.block HS4.out)
            have x25 := hk5.cell' x2
            clear hk5 HC HB4 HI4 HZ4 HS4 x2
            go_wp2_with (refine stop_at (o := ⟨some 15, _, _, _, _, _⟩) ?_)
            refine Stop.mk ?_
            refine wpList_new_row rfl rfl _ _ rfl rfl ty_tag tag0.vals zero_tag rfl (tagRaw s).vals rfl rfl (tag_one _) rfl ?_
            intro w6 hz6 hs6 hk6
            have HB6 := Lib.hid (HB5.out.keep hk6)
            have HI6 := Lib.hid (HIK.out _ _ HI5.out hk6)
            have HZ6 := Lib.hid (hk6.block HZ5.out)
            have HS6 := Lib.hid (hk6.block HS5.out)
            have HV6 := hz6
            have x26 := hk6.cell' x25
            have v0 : w6.cell? ⟨w5.heap.size, 0, none⟩ = some (.int .i64 (tagRaw s).gen) := cell_of_row _ _ 0 _ _ _ hz6.out
            generalize w5.heap.size = V at *
            clear hz6 hs6 hk6 HB5 HI5 HZ5 HS5 x25
            rcases hg : ((tagRaw s).gen == gen) with _ | _
            · replace HRES : Hid (findL T.read p gen so (L.drop (t + 1)) (n + 1) = res) := Lib.hid (by have := HRES.out; rw [if_neg (fun h => by rw [h.2.1] at hg; simp at hg)] at this; exact this)
              go_wp2
              go_roundw
              case rel => exact ⟨t + 1, n + 1, hlt, by omega, by go_num, by go_num, HRES, HB6, HI6⟩
              case measure => simp [intOf]; omega
            · have HG := Lib.hid hg
              have HCC := Lib.hid (HCL.out (tagRaw s) w6 HI6.out)
              go_wp2_with (refine stop_at (o := ⟨some 60, _, _, _, _, _⟩) ?_)
              refine Stop.mk ?_
              refine wpList_load_aggW _ rfl ty_tag V 0 rfl (tagRaw s).vals (by simpa using Cells.of_block HV6.out) rfl rfl ?_
              go_wp2_with fail
              refine Calls.mono HCC.out ?_
              rintro e w7 ⟨rfl, hi7, hb7⟩
              have HI7 := Lib.hid hi7
              have HB7 := Lib.hid (HB6.out.trans hb7)
              have HZ7 := Lib.hid ((hb7.block Z (Array.getElem?_eq_some_iff.1 HZ6.out).1 HZP.out.1).trans HZ6.out)
              have HS7 := Lib.hid ((hb7.block Y (Array.getElem?_eq_some_iff.1 HS6.out).1 HYZ.out.1).trans HS6.out)
              clear hi7 hb7 HCC HB6 HI6 HZ6 HS6 hg HV6 v0 x26
              rcases hso : so (tagRaw s) with _ | _
              · replace HRES : Hid (findL T.read p gen so (L.drop (t + 1)) (n + 1) = res) := Lib.hid (by have := HRES.out; rw [if_neg (fun h => by rw [hso] at h; exact absurd h.2.2 (by decide))] at this; exact this)
                clear hso
                go_wp2
                go_roundw
                case rel => exact ⟨t + 1, n + 1, hlt, by omega, by go_num, by go_num, HRES, HB7, HI7⟩
                case measure => simp [intOf]; omega
              · have HRR : Hid (res = ⟨s, n + 1, true, 0⟩) := Lib.hid (by
                  have := HRES.out
                  rw [if_pos ⟨HT.out, by have := HG.out; simpa using this, hso⟩] at this
                  exact this.symm)
                clear hso HRES
                go_wp2_with (refine stop_at (o := ⟨some 63, _, _, _, _, _⟩) ?_)
                refine Stop.mk ?_
                refine wpList_load_agg rfl _ rfl ty_sec Y 0 rfl (u8s s) (by simpa using Cells.of_block HS7.out) (by rw [u8s_length, HSB.out.1]) ?_
                go_wp2_with (refine stop_at (o := ⟨none, .store _ _ _, _, _, _, _⟩) ?_)
                refine Stop.mk ?_
                refine wpList_store_agg rfl _ _ rfl ty_sec Z 0 rfl (u8s s) rfl (by rw [u8s_length, HSB.out.1]) (u8s_one _) (u8s zeroB) _ HZ7.out (by simp [u8s_length, zeroB_length]) ?_
                intro w8 hw8
                replace hw8 := hw8.all (by rw [u8s_length, u8s_length, zeroB_length, HSB.out.1])
                have HI8 := Lib.hid (HIW.out _ _ Z _ _ HI7.out hw8 HZP.out.1)
                have HB8 := Lib.hid (HUP.out _ _ _ _ HB7.out hw8)
                have HC8 := Lib.hid hw8.cells
                clear hw8 HB7 HI7 HZ7 HS7
                go_wp2
                refine bodyPost_ret (results_hit rfl _ _ Z s HSB.out.1 rfl HC8.out) rfl ?_
                exact ⟨by rw [HRR.out]; rfl, HI8.out, HB8.out⟩
        · have hcb : (c1 == 0) = false := by simpa using hc
          have HRR : Hid (res = ⟨s, n, false, c1⟩) := Lib.hid (by have := HRES.out; rw [if_neg (by rw [hpass]; decide), if_pos hc] at this; exact this.symm)
          have HPS := Lib.hid hpass
          clear hpass hc HRES
          go_wp2_with fail
          refine Calls.mono (meta_passed c1 _) ?_
          rintro e w' ⟨rfl, rfl⟩
          rw [HPS.out]
          go_wp2_with (refine stop_at (o := ⟨some 40, _, _, _, _, _⟩) ?_)
          refine Stop.mk ?_
          refine wpList_load_agg rfl _ rfl ty_sec Y 0 rfl (u8s s) (by simpa using Cells.of_block HS4.out) (by rw [u8s_length, HSB.out.1]) ?_
          go_wp2_with (refine stop_at (o := ⟨none, .store _ _ _, _, _, _, _⟩) ?_)
          refine Stop.mk ?_
          refine wpList_store_agg rfl _ _ rfl ty_sec Z 0 rfl (u8s s) rfl (by rw [u8s_length, HSB.out.1]) (u8s_one _) (u8s zeroB) _ HZ4.out (by simp [u8s_length, zeroB_length]) ?_
          intro w8 hw8
          replace hw8 := hw8.all (by rw [u8s_length, u8s_length, zeroB_length, HSB.out.1])
          have HI7 := HI4
          have HI8 := Lib.hid (HIW.out _ _ Z _ _ HI7.out hw8 HZP.out.1)
          have HB8 := Lib.hid (HUP.out _ _ _ _ HB4.out hw8)
          have HC8 := Lib.hid hw8.cells
          clear hw8 HB4 HI4 HI7 HZ4 HS4
          go_wp2
          refine bodyPost_ret (results_hit rfl _ _ Z s HSB.out.1 rfl HC8.out) rfl ?_
          exact ⟨by rw [HRR.out]; rfl, HI8.out, HB8.out⟩
      · replace HRES : Hid (findL T.read p gen so (L.drop (t + 1)) n = res) := Lib.hid (by have := HRES.out; rw [if_pos hpass] at this; exact this)
        have HPS := Lib.hid hpass
        clear hpass
        go_wp2_with fail
        refine Calls.mono (meta_passed c1 _) ?_
        rintro e w' ⟨rfl, rfl⟩
        rw [HPS.out]
        go_wp2
        go_roundw
        case rel => exact ⟨t + 1, n, hlt, by omega, by go_num, rfl, HRES, HB4, HI4⟩
        case measure => simp [intOf]; omega
    · have htn : t = L.length := by omega
      have HRR : Hid (res = ⟨zeroB, n, false, 0⟩) := Lib.hid (by have := HRES.out; rw [htn, List.drop_length] at this; unfold findL at this; exact this.symm)
      have hge : L.length ≤ t := by omega
      clear htn HRES
      go_wp2_with (refine stop_at (o := ⟨some 66, _, _, _, _, _⟩) ?_)
      refine Stop.mk ?_
      refine wpList_build_zeroR rfl rfl (.agg (u8s zeroB).toArray) build_sec ?_
      go_wp2_with (refine stop_at (o := ⟨none, .store _ _ _, _, _, _, _⟩) ?_)
      refine Stop.mk ?_
      refine wpList_store_agg rfl _ _ rfl ty_sec Z 0 rfl (u8s zeroB) rfl (by rw [u8s_length, zeroB_length]) (u8s_one _) (u8s zeroB) _ HZ.out (by simp [u8s_length, zeroB_length]) ?_
      intro w8 hw8
      replace hw8 := hw8.all rfl
      have HI7 := HI
      have HI8 := Lib.hid (HIW.out _ _ Z _ _ HI7.out hw8 HZP.out.1)
      have HB8 := Lib.hid (HUP.out _ _ _ _ HB2.out hw8)
      have HC8 := Lib.hid hw8.cells
      clear hw8 HI HI7 HZ
      go_wp2
      refine bodyPost_ret (results_hit rfl _ _ Z zeroB zeroB_length rfl HC8.out) rfl ?_
      exact ⟨by rw [HRR.out]; rfl, HI8.out, HB8.out⟩
end
section
variable {w0 W : World} {R : Nat → Prop} {q : Nat} {T : BankT}
set_option maxHeartbeats 4000000
set_option maxRecDepth 100000
theorem find_next (h : BK w0 R W q T) (u : T.Use) (P : Nat) (hR : R P) (hP0 : w0.heap.size ≤ P) (B c : Nat) (L : List Int) (hlv : Cells W B 0 (ints L)) (hBP : B ≠ P) (hL : L.length ≤ 100) (gen p : Int) (hp : 0 ≤ p ∧ p ≤ 1000) (so : Tag → Bool) (I : World → Prop) (hI : I W) (hIk : ∀ w w', I w → Kept w w' → I w') (hIw : ∀ (w w' : World) (g : Nat) (cs : List Value) (t : TypeId), I w → Wrote w w' g cs t → g ≠ P → I w')
    (hcl : ∀ (t : Tag) (w : World), I w → Calls Tryd.prog 65 #[t.val, .pointer (some ⟨P, 0, none⟩)] w fun e w' => e = .returned (.bool (so t)) ∧ I w' ∧ But (fun k => k = P) w w') :
    Calls Tryd.prog 63 #[.agg #[.pointer (some ⟨q, 0, none⟩), .slice (some ⟨B, 0, none⟩) L.length c, .int .i64 gen], .int .i64 p, .func (.func 65) #[] #[.pointer (some ⟨P, 0, none⟩)]] W fun e w' =>
      e = .returned (.tuple #[secV (findL T.read p gen so L 0).s, .int .i64 (findL T.read p gen so L 0).n, .bool (findL T.read p gen so L 0).ok, .int .i64 (findL T.read p gen so L 0).e]) ∧ I w' ∧ But (fun k => k = P) W w' := by
  obtain ⟨res, hres⟩ : ∃ res, findL T.read p gen so L 0 = res := ⟨_, rfl⟩
  rw [hres]
  have HRES := Lib.hid (show findL T.read p gen so (L.drop 0) 0 = res from hres)
  have HPW := Lib.hid (show P < W.heap.size by obtain ⟨_, _, hh⟩ := h; exact (hh.off P hR).1)
  have HB := Lib.hid h; have HU := Lib.hid u; have HLV := Lib.hid hlv; have HR := Lib.hid hR; have HI := Lib.hid hI; have HIK := Lib.hid hIk; have HIW := Lib.hid hIw; have HCL := Lib.hid hcl; have HBP := Lib.hid hBP; have HP0 := Lib.hid hP0
  obtain ⟨hp0, hp1⟩ := hp
  clear h u hlv hR hI hIk hIw hcl hBP hP0 hres
  go_enter Tryd.func63, Tryd.ntmps63
  go_wp2_with (refine stop_at (o := ⟨some 3, _, _, _, _, _⟩) ?_)
  refine Stop.mk ?_
  refine wpList_box_row rfl _ _ rfl [.pointer (some ⟨q, 0, none⟩), .slice (some ⟨B, 0, none⟩) L.length c, .int .i64 gen] rfl ?_
  intro w1 hz1 hs1 hk1
  refine wpList_alloc_abs rfl 39 rfl (u8s zeroB) zero_sec ?_
  intro w2 hz2 hs2 hn2 hk2
  have HX2 := Lib.hid (hk2.block hz1.out)
  have HZ2 := hz2
  have HK2 := Lib.hid (hk1.trans hk2)
  have HI2 := Lib.hid (HIK.out _ _ HI.out HK2.out)
  have HXP := Lib.hid (show W.heap.size ≠ P by have := HPW.out; omega)
  have HZP := Lib.hid (show w1.heap.size ≠ P ∧ w1.heap.size ≠ W.heap.size by have := HPW.out; have := hs1; have := hk1.size; omega)
  have x1 : w2.cell? ⟨W.heap.size, 1, none⟩ = some (.slice (some ⟨B, 0, none⟩) L.length c) := cell_of_row _ _ 1 _ _ _ HX2.out
  have HW2 := Lib.hid HK2.out.size
  have HUP := Lib.hid (fun (b c : World) (cs : List Value) (t : TypeId) (hb : But (fun k => k = P) w2 b) (hw : Wrote b c w1.heap.size cs t) => but_wrote_up HK2.out hb hw hk1.size)
  generalize W.heap.size = X at *
  generalize w1.heap.size = Z at *
  clear hz1 hs1 hk1 hz2 hs2 hn2 hk2
  go_wp2
  clear x1
  go_loopw [10, 20] (fun m i wr => ∃ (t n : Nat), t ≤ L.length ∧ n ≤ t ∧ i = .int .i64 t ∧ m = .int .i64 n ∧ Hid (findL T.read p gen so (L.drop t) n = res) ∧ Hid (But (fun k => k = P) w2 wr) ∧ Hid (I wr)) (fun _ i _ => L.length - (intOf i).toNat)
  case atStart => exact ⟨0, 0, Nat.zero_le _, Nat.le_refl _, rfl, rfl, HRES, Lib.hid (But.refl _ _), HI2⟩
  case round =>
    clear HRES HI2
    obtain ⟨t, n, ht, hn, rfl, rfl, HRES, HB2, HI⟩ := hrel
    obtain ⟨wo, hwo⟩ : ∃ wo, wo = wr := ⟨_, rfl⟩
    subst hwo
    have HBW := Lib.hid ((But.kept HK2.out).trans HB2.out)
    have HZ := Lib.hid ((HB2.out.block Z (Array.getElem?_eq_some_iff.1 HZ2.out).1 HZP.out.1).trans HZ2.out)
    by_cases hlt : t < L.length
    · have hcell := cell_ints (HLV.out.but HBW.out HBP.out) hlt
      have hX := (HB2.out.block X (Array.getElem?_eq_some_iff.1 HX2.out).1 HXP.out).trans HX2.out
      have x0 : wo.cell? ⟨X, 0, none⟩ = some (.pointer (some ⟨q, 0, none⟩)) := cell_of_row _ _ 0 _ _ _ hX
      have HXC := Lib.hid (show wo.cell? ⟨X, 2, none⟩ = some (.int .i64 gen) from cell_of_row _ _ 2 _ _ _ hX)
      replace HRES : Hid (findL T.read p gen so (L.getD t 0 :: L.drop (t + 1)) n = res) := Lib.hid (by rw [← drop_int hlt]; exact HRES.out)
      generalize L.getD t 0 = d at *
      obtain ⟨s, c1, hr⟩ : ∃ s c1, T.read d (2 + p) = (s, c1) := ⟨_, _, rfl⟩
      have HSB : Hid (SecB s) := Lib.hid (by have := BankT.read_sec HU.out.inv d (2 + p); rw [hr] at this; exact this)
      have HRD := Lib.hid hr
      unfold findL at HRES
      rw [hr] at HRES
      simp only [] at HRES
      clear hr hX
      go_wp2_with fail
      refine Calls.mono (st_read (HB.out.but HBW.out HR.out HP0.out) HU.out d (2 + p) HRD.out) ?_
      rintro e w3 ⟨rfl, _, hk3⟩
      go_wp2_with (refine stop_at (o := ⟨some 13, _, _, _, _, _⟩) ?_)
      refine Stop.mk ?_
      refine wpList_new_row rfl rfl _ _ rfl rfl ty_sec (u8s zeroB) zero_sec (by rw [u8s_length, zeroB_length]) (u8s s) rfl (by rw [u8s_length, HSB.out.1]) (u8s_one _) rfl ?_
      intro w4 hz4 hs4 hk4
      have HK4 := Lib.hid (hk3.trans hk4)
      have HB4 := Lib.hid (HB2.out.keep HK4.out)
      have HI4 := Lib.hid (HIK.out _ _ HI.out HK4.out)
      have HS4 := hz4
      have HZ4 := Lib.hid (HK4.out.block HZ.out)
      have x2 := HK4.out.cell' HXC.out
      have HYZ := Lib.hid (show w3.heap.size ≠ P ∧ w3.heap.size ≠ Z by have := (Array.getElem?_eq_some_iff.1 HZ.out).1; have := hk3.size; have := HB2.out.size; have := HW2.out; have := HPW.out; omega)
      generalize w3.heap.size = Y at *
      clear hz4 hs4 hk4 hk3 HI HRD hcell x0 HXC HB2 HZ HBW
      rcases hpass : passE c1 with _ | _
      · by_cases hc : c1 = 0
        · subst hc
          replace HRES : Hid ((if isTag s = true ∧ (tagRaw s).gen = gen ∧ so (tagRaw s) = true then (⟨s, n + 1, true, 0⟩ : Hit) else findL T.read p gen so (L.drop (t + 1)) (n + 1)) = res) := Lib.hid (by have := HRES.out; rw [if_neg (by rw [hpass]; decide), if_neg (by decide)] at this; exact this)
          have HPS := Lib.hid hpass
          clear hpass
          go_wp2_with fail
          refine Calls.mono (meta_passed 0 _) ?_
          rintro e w' ⟨rfl, rfl⟩
          rw [HPS.out]
          go_wp2_with (refine stop_at (o := ⟨some 46, _, _, _, _, _⟩) ?_)
          refine Stop.mk ?_
          refine wpList_load_agg rfl _ rfl ty_sec Y 0 rfl (u8s s) (by simpa using Cells.of_block HS4.out) (by rw [u8s_length, HSB.out.1]) ?_
          rcases htag : isTag s with _ | _
          · have hc := record_TagOf s w4 HSB.out.2 HSB.out.1
            rw [tagRes_no htag] at hc
            have HC := Lib.hid hc
            replace HRES : Hid (findL T.read p gen so (L.drop (t + 1)) (n + 1) = res) := Lib.hid (by have := HRES.out; rw [if_neg (by rw [htag]; simp)] at this; exact this)
            clear hc htag
            go_wp2_with fail
            refine Calls.mono HC.out ?_
            rintro e w5 ⟨rfl, hk5⟩
            have HB5 := Lib.hid (HB4.out.keep hk5)
            have HI5 := Lib.hid (HIK.out _ _ HI4.out hk5)
            clear hk5 HC HB4 HI4
            go_wp2_with (refine stop_at (o := ⟨some 15, _, _, _, _, _⟩) ?_)
            refine Stop.mk ?_
            refine wpList_new_row rfl rfl _ _ rfl rfl ty_tag tag0.vals zero_tag rfl tag0.vals rfl rfl (tag_one _) rfl ?_
            intro w6 hz6 hs6 hk6
            have HB6 := Lib.hid (HB5.out.keep hk6)
            have HI6 := Lib.hid (HIK.out _ _ HI5.out hk6)
            clear hz6 hs6 hk6 HB5 HI5
            go_wp2
            go_roundw
            case rel => exact ⟨t + 1, n + 1, hlt, by omega, by go_num, by go_num, HRES, HB6, HI6⟩
            case measure => simp [intOf]; omega
          · have hc := record_TagOf s w4 HSB.out.2 HSB.out.1
            rw [tagRes_is htag] at hc
            have HC := Lib.hid hc
            have HT := Lib.hid htag
            clear hc htag
            go_wp2_with fail
            refine Calls.mono HC.out ?_
            rintro e w5 ⟨rfl, hk5⟩
            have HB5 := Lib.hid (HB4.out.keep hk5)
            have HI5 := Lib.hid (HIK.out _ _ HI4.out hk5)
            have HZ5 := Lib.hid (hk5.block HZ4.out)
            have HS5 := Lib.hid (hk5.block HS4.out)
            have x25 := hk5.cell' x2
            clear hk5 HC HB4 HI4 HZ4 HS4 x2
            go_wp2_with (refine stop_at (o := ⟨some 15, _, _, _, _, _⟩) ?_)
            refine Stop.mk ?_
            refine wpList_new_row rfl rfl _ _ rfl rfl ty_tag tag0.vals zero_tag rfl (tagRaw s).vals rfl rfl (tag_one _) rfl ?_
            intro w6 hz6 hs6 hk6
            have HB6 := Lib.hid (HB5.out.keep hk6)
            have HI6 := Lib.hid (HIK.out _ _ HI5.out hk6)
            have HZ6 := Lib.hid (hk6.block HZ5.out)
            have HS6 := Lib.hid (hk6.block HS5.out)
            have HV6 := hz6
            have x26 := hk6.cell' x25
            have v0 : w6.cell? ⟨w5.heap.size, 0, none⟩ = some (.int .i64 (tagRaw s).gen) := cell_of_row _ _ 0 _ _ _ hz6.out
            generalize w5.heap.size = V at *
            clear hz6 hs6 hk6 HB5 HI5 HZ5 HS5 x25
            rcases hg : ((tagRaw s).gen == gen) with _ | _
            · replace HRES : Hid (findL T.read p gen so (L.drop (t + 1)) (n + 1) = res) := Lib.hid (by have := HRES.out; rw [if_neg (fun h => by rw [h.2.1] at hg; simp at hg)] at this; exact this)
              go_wp2
              go_roundw
              case rel => exact ⟨t + 1, n + 1, hlt, by omega, by go_num, by go_num, HRES, HB6, HI6⟩
              case measure => simp [intOf]; omega
            · have HG := Lib.hid hg
              have HCC := Lib.hid (HCL.out (tagRaw s) w6 HI6.out)
              go_wp2_with (refine stop_at (o := ⟨some 60, _, _, _, _, _⟩) ?_)
              refine Stop.mk ?_
              refine wpList_load_aggW _ rfl ty_tag V 0 rfl (tagRaw s).vals (by simpa using Cells.of_block HV6.out) rfl rfl ?_
              go_wp2_with fail
              refine Calls.mono HCC.out ?_
              rintro e w7 ⟨rfl, hi7, hb7⟩
              have HI7 := Lib.hid hi7
              have HB7 := Lib.hid (HB6.out.trans hb7)
              have HZ7 := Lib.hid ((hb7.block Z (Array.getElem?_eq_some_iff.1 HZ6.out).1 HZP.out.1).trans HZ6.out)
              have HS7 := Lib.hid ((hb7.block Y (Array.getElem?_eq_some_iff.1 HS6.out).1 HYZ.out.1).trans HS6.out)
              clear hi7 hb7 HCC HB6 HI6 HZ6 HS6 hg HV6 v0 x26
              rcases hso : so (tagRaw s) with _ | _
              · replace HRES : Hid (findL T.read p gen so (L.drop (t + 1)) (n + 1) = res) := Lib.hid (by have := HRES.out; rw [if_neg (fun h => by rw [hso] at h; exact absurd h.2.2 (by decide))] at this; exact this)
                clear hso
                go_wp2
                go_roundw
                case rel => exact ⟨t + 1, n + 1, hlt, by omega, by go_num, by go_num, HRES, HB7, HI7⟩
                case measure => simp [intOf]; omega
              · have HRR : Hid (res = ⟨s, n + 1, true, 0⟩) := Lib.hid (by
                  have := HRES.out
                  rw [if_pos ⟨HT.out, by have := HG.out; simpa using this, hso⟩] at this
                  exact this.symm)
                clear hso HRES
                go_wp2_with (refine stop_at (o := ⟨some 63, _, _, _, _, _⟩) ?_)
                refine Stop.mk ?_
                refine wpList_load_agg rfl _ rfl ty_sec Y 0 rfl (u8s s) (by simpa using Cells.of_block HS7.out) (by rw [u8s_length, HSB.out.1]) ?_
                go_wp2_with (refine stop_at (o := ⟨none, .store _ _ _, _, _, _, _⟩) ?_)
                refine Stop.mk ?_
                refine wpList_store_agg rfl _ _ rfl ty_sec Z 0 rfl (u8s s) rfl (by rw [u8s_length, HSB.out.1]) (u8s_one _) (u8s zeroB) _ HZ7.out (by simp [u8s_length, zeroB_length]) ?_
                intro w8 hw8
                replace hw8 := hw8.all (by rw [u8s_length, u8s_length, zeroB_length, HSB.out.1])
                have HI8 := Lib.hid (HIW.out _ _ Z _ _ HI7.out hw8 HZP.out.1)
                have HB8 := Lib.hid (HUP.out _ _ _ _ HB7.out hw8)
                have HC8 := Lib.hid hw8.cells
                clear hw8 HB7 HI7 HZ7 HS7
                go_wp2
                refine bodyPost_ret (results_hit rfl _ _ Z s HSB.out.1 rfl HC8.out) rfl ?_
                exact ⟨by rw [HRR.out]; rfl, HI8.out, HB8.out⟩
        · have hcb : (c1 == 0) = false := by simpa using hc
          have HRR : Hid (res = ⟨s, n, false, c1⟩) := Lib.hid (by have := HRES.out; rw [if_neg (by rw [hpass]; decide), if_pos hc] at this; exact this.symm)
          have HPS := Lib.hid hpass
          clear hpass hc HRES
          go_wp2_with fail
          refine Calls.mono (meta_passed c1 _) ?_
          rintro e w' ⟨rfl, rfl⟩
          rw [HPS.out]
          go_wp2_with (refine stop_at (o := ⟨some 40, _, _, _, _, _⟩) ?_)
          refine Stop.mk ?_
          refine wpList_load_agg rfl _ rfl ty_sec Y 0 rfl (u8s s) (by simpa using Cells.of_block HS4.out) (by rw [u8s_length, HSB.out.1]) ?_
          go_wp2_with (refine stop_at (o := ⟨none, .store _ _ _, _, _, _, _⟩) ?_)
          refine Stop.mk ?_
          refine wpList_store_agg rfl _ _ rfl ty_sec Z 0 rfl (u8s s) rfl (by rw [u8s_length, HSB.out.1]) (u8s_one _) (u8s zeroB) _ HZ4.out (by simp [u8s_length, zeroB_length]) ?_
          intro w8 hw8
          replace hw8 := hw8.all (by rw [u8s_length, u8s_length, zeroB_length, HSB.out.1])
          have HI7 := HI4
          have HI8 := Lib.hid (HIW.out _ _ Z _ _ HI7.out hw8 HZP.out.1)
          have HB8 := Lib.hid (HUP.out _ _ _ _ HB4.out hw8)
          have HC8 := Lib.hid hw8.cells
          clear hw8 HB4 HI4 HI7 HZ4 HS4
          go_wp2
          refine bodyPost_ret (results_hit rfl _ _ Z s HSB.out.1 rfl HC8.out) rfl ?_
          exact ⟨by rw [HRR.out]; rfl, HI8.out, HB8.out⟩
      · replace HRES : Hid (findL T.read p gen so (L.drop (t + 1)) n = res) := Lib.hid (by have := HRES.out; rw [if_pos hpass] at this; exact this)
        have HPS := Lib.hid hpass
        clear hpass
        go_wp2_with fail
        refine Calls.mono (meta_passed c1 _) ?_
        rintro e w' ⟨rfl, rfl⟩
        rw [HPS.out]
        go_wp2
        go_roundw
        case rel => exact ⟨t + 1, n, hlt, by omega, by go_num, rfl, HRES, HB4, HI4⟩
        case measure => simp [intOf]; omega
    · have htn : t = L.length := by omega
      have HRR : Hid (res = ⟨zeroB, n, false, 0⟩) := Lib.hid (by have := HRES.out; rw [htn, List.drop_length] at this; unfold findL at this; exact this.symm)
      have hge : L.length ≤ t := by omega
      clear htn HRES
      go_wp2_with (refine stop_at (o := ⟨some 66, _, _, _, _, _⟩) ?_)
      refine Stop.mk ?_
      refine wpList_build_zeroR rfl rfl (.agg (u8s zeroB).toArray) build_sec ?_
      go_wp2_with (refine stop_at (o := ⟨none, .store _ _ _, _, _, _, _⟩) ?_)
      refine Stop.mk ?_
      refine wpList_store_agg rfl _ _ rfl ty_sec Z 0 rfl (u8s zeroB) rfl (by rw [u8s_length, zeroB_length]) (u8s_one _) (u8s zeroB) _ HZ.out (by simp [u8s_length, zeroB_length]) ?_
      intro w8 hw8
      replace hw8 := hw8.all rfl
      have HI7 := HI
      have HI8 := Lib.hid (HIW.out _ _ Z _ _ HI7.out hw8 HZP.out.1)
      have HB8 := Lib.hid (HUP.out _ _ _ _ HB2.out hw8)
      have HC8 := Lib.hid hw8.cells
      clear hw8 HI HI7 HZ
      go_wp2
      refine bodyPost_ret (results_hit rfl _ _ Z zeroB zeroB_length rfl HC8.out) rfl ?_
      exact ⟨by rw [HRR.out]; rfl, HI8.out, HB8.out⟩
end
end Go.Proofs.YtpeclkhppgabfaaDoor
/- metalog's record walked. -/
namespace Go.Proofs.YtpeclkhppgabfaaDoor
open Go.RowKit
set_option linter.unusedVariables false
set_option linter.unusedSimpArgs false

theorem ty_scan : AggT Tryd.prog 105 3 := ⟨⟨_, Tryd.underlying105, rfl⟩, by kernel_rfl⟩
theorem findL_ok {rd : Rd} (p gen : Int) (so : Tag → Bool) : ∀ (L : List Int) (n : Nat), (findL rd p gen so L n).ok = true → isTag (findL rd p gen so L n).s = true ∧ (findL rd p gen so L n).n ≠ 0
  | [], n, h => by unfold findL at h; cases h
  | d :: L, n, h => by
    unfold findL at h ⊢
    split at h
    · rename_i h1; rw [if_pos h1]; exact findL_ok p gen so L n h
    · rename_i h1
      rw [if_neg h1]
      split at h
      · cases h
      · rename_i h2
        rw [if_neg h2]
        split at h
        · rename_i h3; rw [if_pos h3]; exact ⟨h3.1, Nat.succ_ne_zero _⟩
        · rename_i h3; rw [if_neg h3]; exact findL_ok p gen so L (n + 1) h
theorem findL_n {rd : Rd} (p gen : Int) (so : Tag → Bool) : ∀ (L : List Int) (n : Nat), (findL rd p gen so L n).n ≤ n + L.length
  | [], n => by unfold findL; simp
  | d :: L, n => by
    have h1 := findL_n (rd := rd) p gen so L n
    have h2 := findL_n (rd := rd) p gen so L (n + 1)
    unfold findL
    rw [List.length_cons]
    split
    · omega
    · split
      · show n ≤ _; omega
      · split
        · show n + 1 ≤ _; omega
        · omega
theorem isTag_parts {s : List Int} (h : isTag s = true) : 1 ≤ (tagRaw s).parts ∧ (tagRaw s).parts ≤ 40 := by
  unfold isTag tagBad at h
  simp only [Bool.not_eq_true', Bool.or_eq_false_iff, decide_eq_false_iff_not] at h
  have h1 := h.1.1.1.1.1.1
  have h2 := h.1.1.1.1.1.2
  omega
theorem wpList_box_one {P : Program} {ops : Array Oper} {rest : List Oper} {o : Oper} {a : Act} {w : World} {Q : Exit → Act → World → Prop} (hgd : Region.wanted o (yielded ops a.tmps) = true) (T : TypeId) (x : Operand) (ho : o.op = .box T x) (v : Value) (hx : a.eval x = v) (hv : v.cells = #[v])
    (h : ∀ w1, Hid (w1.heap[w.heap.size]? = some (.cells [v].toArray T (0, 0))) → w.heap.size < w1.heap.size → Kept w w1 → wpList P ops Q rest (a.put o.dst (.pointer (some ⟨w.heap.size, 0, none⟩))) w1) : wpList P ops Q (o :: rest) a w := by
  refine BigFrame.wpList_want hgd fun K hK => ?_
  unfold Oper.wp execOp
  simp only [ho, hx, Instr.box, newVar, newRow, Sem.run_bind, Result.andThen_ok, Sem.run_pure, run_newObj_alloc, hv]
  exact hK _ _ (h _ (Lib.hid (heap_alloc_new w _)) (by simp) ((Kept.refl _).alloc _))
theorem but_kept {W W' : World} {P : Nat} (h : But (fun k => k = P) W W') {w : World} (hk : Kept w W) (hP : w.heap.size ≤ P) : Kept w W' := But.to_kept hk h (fun i hi => hi ▸ hP)
theorem SL.but {W W' : World} {v : Value} {L : List (List Int)} {P : Nat} (h : SL W v L) (hb : But (fun k => k = P) W W') {co : Array Value} {t : TypeId} (hP : W.heap[P]? = some (.cells co t (0, 0))) (ht : t ≠ 39) : SL W' v L :=
  h.same fun g hg => hb.block g (own_lt h.1 hg) (own_ne h.1 hP ht g hg)
theorem SL.grew {W0 W W' : World} {v v' : Value} (hK : Kept W0 W) (hf : ∀ g, v.ownBlock = some g → W0.heap.size ≤ g) (hgr : Grw W W' v v') : Kept W0 W' ∧ ∀ g, v'.ownBlock = some g → W0.heap.size ≤ g := by
  rcases hgr with ⟨e, hb⟩ | ⟨g', e, h1, _, hk⟩
  · exact ⟨But.to_kept hK hb (fun k hk => hf k hk), fun g hg => hf g (e ▸ hg)⟩
  · refine ⟨hK.trans hk, fun g hg => ?_⟩
    rw [e] at hg; injection hg with hg
    have := hK.size; omega
theorem SL.one {W : World} {G : Nat} {s : List Int} (hs : s.length = 64) (h : W.heap[G]? = some (.cells (u8s s).toArray 39 (0, 0))) : SL W (.slice (some ⟨G, 0, none⟩) 1 1) [s] := by
  refine ⟨⟨by simp [secs, u8s_length, hs], .inr ⟨G, 1, _, rfl, Nat.zero_le _, h, Nat.le_refl _, by decide, by simp [u8s_length, hs], ?_⟩⟩, fun x hx => by rw [List.mem_singleton.1 hx]; exact hs⟩
  have e : secs [s] = u8s s := by simp [secs]
  rw [e, List.length_singleton]
  exact List.take_of_length_le (by rw [u8s_length, hs]; decide)
def lenOf : Value → Nat
  | .slice _ n _ => n
  | _ => 0
section
variable {w0 W : World} {R : Nat → Prop} {q : Nat} {T : BankT}
set_option maxHeartbeats 4000000
set_option maxRecDepth 100000
theorem meta_record (h : BK w0 R W q T) (u : T.Use) (B c : Nat) (L : List Int) (hlv : Cells W B 0 (ints L)) (hBW : B < W.heap.size) (hL : L.length ≤ 100) (gen num : Int) (p : Nat) (hp : p ≤ 48) :
    Calls Tryd.prog 54 #[.agg #[.pointer (some ⟨q, 0, none⟩), .slice (some ⟨B, 0, none⟩) L.length c, .int .i64 gen], .int .i64 (p : Int), .int .i64 num] W fun e w' => ∃ v, e = .returned (.tuple #[v, .int .i64 (recL T.read L gen p num).2]) ∧ SL w' v (recL T.read L gen p num).1 ∧ (∀ s ∈ (recL T.read L gen p num).1, SecB s) ∧ (∀ g, v.ownBlock = some g → W.heap.size ≤ g) ∧ Kept W w' := by
  obtain ⟨res, hres⟩ : ∃ res, recL T.read L gen p num = res := ⟨_, rfl⟩
  rw [hres]
  unfold recL at hres
  have HRES := Lib.hid hres
  have HB := Lib.hid h; have HU := Lib.hid u; have HLV := Lib.hid hlv; have HBW := Lib.hid hBW
  have HW0 := Lib.hid h.keeps.size
  have HOK := Lib.hid (findL_ok (rd := T.read) (p : Int) gen (soFirst num) L 0)
  have HFN := Lib.hid (findL_n (rd := T.read) (p : Int) gen (soFirst num) L 0)
  have HFS := Lib.hid (findL_sec u.inv (p : Int) gen (soFirst num) L 0)
  clear h u hlv hBW hres
  go_enter Tryd.func54, Tryd.ntmps54
  go_wp2_with (refine stop_at (o := ⟨some 3, _, _, _, _, _⟩) ?_)
  refine Stop.mk ?_
  refine wpList_box_row rfl _ _ rfl [.pointer (some ⟨q, 0, none⟩), .slice (some ⟨B, 0, none⟩) L.length c, .int .i64 gen] rfl ?_
  intro w1 hz1 hs1 hk1
  refine wpList_box_one rfl _ _ rfl (.int .i64 num) rfl rfl ?_
  intro w2 hz2 hs2 hk2
  have HX2 := Lib.hid (hk2.block hz1.out)
  have HK2 := Lib.hid (hk1.trans hk2)
  have HP2 := hz2
  have HXP := Lib.hid hs1
  have HPL := Lib.hid (show w1.heap.size < w2.heap.size from hs2)
  have HBK2 := Lib.hid ((HB.out.kept hk1).1.more hk2 w1.heap.size (Nat.le_refl _) hs2)
  have HGP := Lib.hid (show W.heap.size ≤ w1.heap.size ∧ w0.heap.size ≤ w1.heap.size by have := hk1.size; have := HW0.out; omega)
  generalize w1.heap.size = P at *
  have hXW := Lib.hid (show W.heap.size ≤ W.heap.size ∧ B < W.heap.size from ⟨Nat.le_refl _, HBW.out⟩)
  clear hz1 hs1 hk1 hz2 hs2 hk2
  generalize hX : W.heap.size = X at HX2 HXP hXW ⊢
  have HXE := Lib.hid hX
  clear hX
  go_wp2_with (refine stop_at (o := ⟨some 21, _, _, _, _, _⟩) ?_)
  refine Stop.mk ?_
  refine wpList_load_agg rfl _ rfl ty_scan X 0 rfl _ (by simpa using Cells.of_block HX2.out) rfl ?_
  go_wp2_with fail
  refine Calls.mono (find_first HBK2.out HU.out P (.inr rfl) HGP.out.2 B c L (HLV.out.kept HK2.out) (by have := hXW.out.2; have := HXP.out; omega) hL gen (p : Int) (by omega) (soFirst num) (fun w => w.cell? ⟨P, 0, none⟩ = some (.int .i64 num)) (cell_of_row _ _ 0 _ _ _ HP2.out) (fun w w' hi hk => hk.cell' hi) (fun w w' g cs t hi hw hg => (World.cell?_of_block (hw.oth P (Ne.symm hg))).trans hi) (fun t w hi => (so_first num t P w hi).mono fun e w' ⟨he, hk⟩ => ⟨he, hk.cell' hi, But.kept hk⟩)) ?_
  rintro e w3 ⟨rfl, hi3, hb3⟩
  have HK3 := Lib.hid (but_kept hb3 HK2.out HGP.out.1)
  have HX3 := Lib.hid ((hb3.block X (Array.getElem?_eq_some_iff.1 HX2.out).1 (by have := HXP.out; omega)).trans HX2.out)
  have HPC3 := Lib.hid hi3
  have HPL3 := Lib.hid (Nat.lt_of_lt_of_le HPL.out hb3.size)
  generalize findL T.read (p : Int) gen (soFirst num) L 0 = r at *
  obtain ⟨s, n, ok, e⟩ := r
  simp only [] at HRES HOK HFN HFS ⊢
  clear hi3 hb3 HX2 HP2 HBK2 HK2 HPL
  go_wp2_with (refine stop_at (o := ⟨some 8, _, _, _, _, _⟩) ?_)
  refine Stop.mk ?_
  refine wpList_new_row rfl rfl _ _ rfl rfl ty_sec (u8s zeroB) zero_sec (by rw [u8s_length, zeroB_length]) (u8s s) rfl (by rw [u8s_length, HFS.out.1]) (u8s_one _) rfl ?_
  intro w4 hz4 hs4 hk4
  have HK4 := Lib.hid (HK3.out.trans hk4)
  have HX4 := Lib.hid (hk4.block HX3.out)
  have HPC4 := Lib.hid (hk4.cell' HPC3.out)
  have HPL4 := Lib.hid (Nat.lt_of_lt_of_le HPL3.out hk4.size)
  have HS4 := hz4
  generalize w3.heap.size = Y at *
  clear hz4 hs4 hk4 HK3 HX3 HPC3 HPL3
  by_cases he : e = 0
  · subst he
    rw [if_neg (by decide)] at HRES
    by_cases hn : n = 0
    · subst hn
      rw [if_pos rfl] at HRES
      go_wp2
      go_ret2
      exact ⟨_, by rw [← HRES.out]; rfl, by rw [← HRES.out]; exact SL.nil _, by rw [← HRES.out]; exact (fun s h => by cases h), (fun g hg => by simp [Value.ownBlock] at hg), HK4.out⟩
    · rw [if_neg hn] at HRES
      have hnb : ((n : Int) == 0) = false := by simpa using hn
      cases ok with
      | false =>
        rw [if_pos rfl] at HRES
        go_wp2
        go_ret2
        exact ⟨_, by rw [← HRES.out]; rfl, by rw [← HRES.out]; exact SL.nil _, by rw [← HRES.out]; exact (fun s h => by cases h), (fun g hg => by simp [Value.ownBlock] at hg), HK4.out⟩
      | true =>
        rw [if_neg (by decide)] at HRES
        obtain ⟨htag, _⟩ := HOK.out rfl
        obtain ⟨hp1, hp40⟩ := isTag_parts htag
        have hc := record_TagOf s w4 HFS.out.2 HFS.out.1
        rw [tagRes_is htag] at hc
        have HC := Lib.hid hc
        obtain ⟨m, hm⟩ := Int.eq_ofNat_of_zero_le (show 0 ≤ (tagRaw s).parts by omega)
        have HM := Lib.hid hm
        rw [hm] at HRES hp1 hp40
        clear hc htag hn hm HOK
        go_wp2_with (refine stop_at (o := ⟨some 40, _, _, _, _, _⟩) ?_)
        refine Stop.mk ?_
        refine wpList_load_agg rfl _ rfl ty_sec Y 0 rfl (u8s s) (by simpa using Cells.of_block HS4.out) (by rw [u8s_length, HFS.out.1]) ?_
        go_wp2_with fail
        refine Calls.mono HC.out ?_
        rintro e w5 ⟨rfl, hk5⟩
        have HK5 := Lib.hid (HK4.out.trans hk5)
        have HX5 := Lib.hid (hk5.block HX4.out)
        have HPC5 := Lib.hid (hk5.cell' HPC4.out)
        have HPL5 := Lib.hid (Nat.lt_of_lt_of_le HPL4.out hk5.size)
        have HS5 := Lib.hid (hk5.block HS4.out)
        clear hk5 HK4 HX4 HPC4 HPL4 HS4 HC
        go_wp2_with (refine stop_at (o := ⟨some 12, _, _, _, _, _⟩) ?_)
        refine Stop.mk ?_
        refine wpList_new_row rfl rfl _ _ rfl rfl ty_tag tag0.vals zero_tag rfl (tagRaw s).vals rfl rfl (tag_one _) rfl ?_
        intro w6 hz6 hs6 hk6
        have HK6 := Lib.hid (HK5.out.trans hk6)
        have HX6 := Lib.hid (hk6.block HX5.out)
        have HPC6 := Lib.hid (hk6.cell' HPC5.out)
        have HPL6 := Lib.hid (Nat.lt_of_lt_of_le HPL5.out hk6.size)
        have HS6 := Lib.hid (hk6.block HS5.out)
        have v3 : w6.cell? ⟨w5.heap.size, 3, none⟩ = some (.int .i64 (m : Int)) := by
          rw [cell_of_row _ _ 3 _ _ _ hz6.out, ← HM.out]; rfl
        have HVL := Lib.hid (show w5.heap.size < w6.heap.size from hs6)
        generalize w5.heap.size = V at *
        clear hz6 hs6 hk6 HK5 HX5 HPC5 HPL5 HS5
        by_cases hfit : 48 < (p : Int) + (m : Int)
        · rw [if_pos hfit] at HRES
          go_wp2
          go_ret2
          exact ⟨_, by rw [← HRES.out]; rfl, by rw [← HRES.out]; exact SL.nil _, by rw [← HRES.out]; exact (fun s h => by cases h), (fun g hg => by simp [Value.ownBlock] at hg), HK6.out⟩
        · rw [if_neg hfit] at HRES
          go_wp2_with (refine stop_at (o := ⟨some 49, _, _, _, _, _⟩) ?_)
          refine Stop.mk ?_
          refine wpList_load_agg rfl _ rfl ty_sec Y 0 rfl (u8s s) (by simpa using Cells.of_block HS6.out) (by rw [u8s_length, HFS.out.1]) ?_
          refine wpList_one_sec rfl _ rfl s HFS.out.1 rfl ?_
          intro w7 hz7 hs7 hk7
          have HG6 := Lib.hid (Nat.le_refl w6.heap.size)
          have HSL7 : Hid (SL w7 (.slice (some ⟨w6.heap.size, 0, none⟩) 1 1) [s] ∧ (∀ x ∈ [s], SecB x) ∧ ∀ g, (Value.slice (some ⟨w6.heap.size, 0, none⟩) 1 1).ownBlock = some g → w6.heap.size ≤ g) := Lib.hid ⟨SL.one HFS.out.1 hz7.out, (fun x hx => by rw [List.mem_singleton.1 hx]; exact HFS.out), fun g hg => by simp only [Value.ownBlock, Option.some.injEq] at hg; omega⟩
          have HK7 := Lib.hid hk7
          have HM1 : Hid (((m : Int) - 1).toNat = m - 1) := Lib.hid (by omega)
          rw [HM1.out] at HRES
          have hm1 : 1 ≤ m := by omega
          have hm40 : m ≤ 40 := by omega
          have HXX := Lib.hid (show X < w6.heap.size from (Array.getElem?_eq_some_iff.1 HX6.out).1)
          generalize hG : w6.heap.size = G at *
          have HGE := Lib.hid hG
          have HV3 := Lib.hid v3
          clear hz7 hs7 hk7 hG v3 hp1 hp40 HG6
          go_wp2
          go_loopw [14] (fun v wr => ∃ (k : Nat) (l : List (List Int)), 1 ≤ l.length ∧ l.length + k = m ∧ Hid (moreL T.read L gen (p : Int) num (m : Int) k l = res) ∧ Hid (SL wr v l ∧ (∀ x ∈ l, SecB x) ∧ ∀ g, v.ownBlock = some g → w6.heap.size ≤ g) ∧ Hid (Kept w6 wr)) (fun v _ => m - lenOf v)
          case atStart => exact ⟨m - 1, [s], Nat.le_refl _, by show 1 + (m - 1) = m; omega, HRES, Lib.hid ⟨HSL7.out.1, HSL7.out.2.1, by rw [HGE.out]; exact HSL7.out.2.2⟩, HK7⟩
          case round =>
            obtain ⟨k, l, hl1, hlk, HRES, HS, HK⟩ := hrel
            obtain ⟨wo, hwo⟩ : ∃ wo, wo = wr := ⟨_, rfl⟩
            subst hwo
            clear HSL7
            obtain ⟨ao, cap, hv⟩ : ∃ ao cap, u14 = Value.slice ao l.length cap := by
              obtain ⟨ao, cap, e, _⟩ := HS.out.1.form
              exact ⟨ao, cap, e⟩
            subst hv
            have v3 := HK.out.cell' HV3.out
            have x2 : wo.cell? ⟨X, 2, none⟩ = some (.int .i64 gen) := cell_of_row _ _ 2 _ _ _ (HK.out.block HX6.out)
            have p0 := HK.out.cell' HPC6.out
            by_cases hlt : l.length < m
            · obtain ⟨k', rfl⟩ : ∃ k', k = k' + 1 := ⟨k - 1, by omega⟩
              unfold moreL at HRES
              go_wp2_with (refine stop_at (o := ⟨some 15, _, _, _, _, _⟩) ?_)
              refine Stop.mk ?_
              refine wpList_new_row rfl rfl _ _ rfl rfl ty_tag tag0.vals zero_tag rfl (Tag.vals ⟨gen, num, (l.length : Int), (m : Int), 0⟩) rfl rfl (tag_one _) rfl ?_
              intro w8 hz8 hs8 hk8
              have HK8 := Lib.hid (HK.out.trans hk8)
              have HKW := Lib.hid (HK6.out.trans HK.out)
              have HBK := Lib.hid ((HB.out.kept HKW.out).1.more hk8 wo.heap.size (Nat.le_refl _) hs8)
              have HP8 := hz8
              have HS8 := Lib.hid (And.intro (HS.out.1.kept hk8) HS.out.2)
              have HX8 := Lib.hid (HK8.out.block HX6.out)
              have HLV8 := Lib.hid (HLV.out.kept (HKW.out.trans hk8))
              have HGE8 := Lib.hid (show w6.heap.size ≤ wo.heap.size ∧ w0.heap.size ≤ wo.heap.size ∧ B ≠ wo.heap.size by have := HK.out.size; have := HKW.out.size; have := HBW.out; have := HW0.out; omega)
              generalize wo.heap.size = P2 at *
              clear hz8 hs8 hk8 HK HS v3 x2 p0
              go_wp2_with (refine stop_at (o := ⟨some 65, _, _, _, _, _⟩) ?_)
              refine Stop.mk ?_
              refine wpList_load_agg rfl _ rfl ty_scan X 0 rfl _ (by simpa using Cells.of_block HX8.out) rfl ?_
              go_wp2_with fail
              refine Calls.mono (find_next HBK.out HU.out P2 (.inr rfl) HGE8.out.2.1 B c L HLV8.out HGE8.out.2.2 hL gen ((p : Int) + (l.length : Int)) (by omega) (soNext gen num (l.length : Int) (m : Int)) (fun w => ∃ x, w.heap[P2]? = some (.cells (Tag.vals ⟨gen, num, (l.length : Int), (m : Int), x⟩).toArray 74 (0, 0))) ⟨0, HP8.out⟩ (fun w w' ⟨x, hi⟩ hk => ⟨x, hk.block hi⟩) (fun w w' g cs t ⟨x, hi⟩ hw hg => ⟨x, (hw.oth P2 (Ne.symm hg)).trans hi⟩) (fun t w ⟨x, hi⟩ => (so_next gen num (l.length : Int) (m : Int) x t P2 w hi).mono fun e w' ⟨he, hi', hb⟩ => ⟨he, ⟨_, hi'⟩, hb⟩)) ?_
              rintro e w9 ⟨rfl, ⟨x9, hi9⟩, hb9⟩
              have HK9 := Lib.hid (but_kept hb9 HK8.out HGE8.out.1)
              have HS9 := Lib.hid (And.intro (HS8.out.1.but hb9 HP8.out (by decide)) HS8.out.2)
              have HF2 := Lib.hid (findL_sec HU.out.inv ((p : Int) + (l.length : Int)) gen (soNext gen num (l.length : Int) (m : Int)) L 0)
              generalize findL T.read ((p : Int) + (l.length : Int)) gen (soNext gen num (l.length : Int) (m : Int)) L 0 = r at *
              obtain ⟨s2, n2, ok2, e2⟩ := r
              simp only [] at HRES HF2 ⊢
              clear hi9 hb9 HBK HP8 HS8 HX8 HLV8 HK8
              go_wp2_with (refine stop_at (o := ⟨some 16, _, _, _, _, _⟩) ?_)
              refine Stop.mk ?_
              refine wpList_new_row rfl rfl _ _ rfl rfl ty_sec (u8s zeroB) zero_sec (by rw [u8s_length, zeroB_length]) (u8s s2) rfl (by rw [u8s_length, HF2.out.1]) (u8s_one _) rfl ?_
              intro w10 hz10 hs10 hk10
              have HK10 := Lib.hid (HK9.out.trans hk10)
              have HS10 := Lib.hid (And.intro (HS9.out.1.kept hk10) HS9.out.2)
              have HY10 := hz10
              generalize w9.heap.size = Y2 at *
              clear hz10 hs10 hk10 HK9 HS9
              by_cases he : e2 = 0
              · subst he
                cases ok2 with
                | false =>
                  rw [if_pos (.inr rfl)] at HRES
                  go_wp2
                  go_ret2
                  exact ⟨_, by rw [← HRES.out]; rfl, by rw [← HRES.out]; exact SL.nil _, by rw [← HRES.out]; exact (fun s h => by cases h), (fun g hg => by simp [Value.ownBlock] at hg), HK6.out.trans HK10.out⟩
                | true =>
                  rw [if_neg (by simp)] at HRES
                  go_wp2_with (refine stop_at (o := ⟨some 84, _, _, _, _, _⟩) ?_)
                  refine Stop.mk ?_
                  refine wpList_load_agg rfl _ rfl ty_sec Y2 0 rfl (u8s s2) (by simpa using Cells.of_block HY10.out) (by rw [u8s_length, HF2.out.1]) ?_
                  refine wpList_one_sec rfl _ rfl s2 HF2.out.1 rfl ?_
                  intro w11 hz11 hs11 hk11
                  have HK11 := Lib.hid (HK10.out.trans hk11)
                  refine wpList_append_sec (v := .slice ao l.length cap) rfl _ _ rfl l rfl (HS10.out.1.kept hk11) (by omega) w10.heap.size rfl s2 HF2.out.1 hz11.out ?_
                  intro v' w12 hsl hgr
                  obtain ⟨hk12, hf12⟩ := SL.grew HK11.out HS10.out.2.2 hgr
                  have HK12 := Lib.hid hk12
                  have HS12 : Hid (SL w12 v' (l ++ [s2]) ∧ (∀ x ∈ l ++ [s2], SecB x) ∧ ∀ g, v'.ownBlock = some g → w6.heap.size ≤ g) := Lib.hid ⟨hsl, fun x hx => by
                    rcases List.mem_append.1 hx with hx | hx
                    · exact HS10.out.2.1 x hx
                    · rw [List.mem_singleton.1 hx]; exact HF2.out, hf12⟩
                  have hll : (l ++ [s2]).length = l.length + 1 := by rw [List.length_append]; rfl
                  obtain ⟨ao2, cap2, hv2⟩ : ∃ ao2 cap2, v' = Value.slice ao2 (l.length + 1) cap2 := by
                    obtain ⟨ao2, cap2, e, _⟩ := hsl.form
                    rw [hll] at e
                    exact ⟨ao2, cap2, e⟩
                  subst hv2
                  have HLL := Lib.hid hll
                  clear hsl hgr hk12 hf12 hz11 hs11 hk11 hll HK11 HK10 HS10 HY10
                  go_wp2
                  go_roundw
                  case rel => exact ⟨k', l ++ [s2], by rw [HLL.out]; omega, by rw [HLL.out]; omega, HRES, HS12, HK12⟩
                  case measure => simp [lenOf]; omega
              · have heb2 : (e2 == 0) = false := by simpa using he
                rw [if_pos (.inl he)] at HRES
                have hnb2 : (e2 != 0) = true := by simpa using he
                clear he
                cases ok2
                all_goals
                  go_wp2
                  go_ret2
                  exact ⟨_, by rw [← HRES.out]; rfl, by rw [← HRES.out]; exact SL.nil _, by rw [← HRES.out]; exact (fun s h => by cases h), (fun g hg => by simp [Value.ownBlock] at hg), HK6.out.trans HK10.out⟩
            · obtain rfl : k = 0 := by omega
              have HRR : Hid (res = (l, 0)) := Lib.hid (by have := HRES.out; unfold moreL at this; exact this.symm)
              clear HRES
              go_wp2
              go_ret2
              exact ⟨_, by rw [HRR.out]; rfl, by rw [HRR.out]; exact HS.out.1, by rw [HRR.out]; exact HS.out.2.1, (fun g hg => Nat.le_trans HK6.out.size (HS.out.2.2 g hg)), HK6.out.trans HK.out⟩
  · have heb : (e == 0) = false := by simpa using he
    rw [if_pos he] at HRES
    clear he
    go_wp2
    go_ret2
    exact ⟨_, by rw [← HRES.out]; rfl, by rw [← HRES.out]; exact SL.nil _, by rw [← HRES.out]; exact (fun s h => by cases h), (fun g hg => by simp [Value.ownBlock] at hg), HK4.out⟩
end
end Go.Proofs.YtpeclkhppgabfaaDoor
/- metalog.Scan walked. -/
namespace Go.Proofs.YtpeclkhppgabfaaDoor
open Go.RowKit
set_option linter.unusedVariables false
set_option linter.unusedSimpArgs false

theorem bytes_info : (Tryd.prog.info? 25).map (fun i => (i.zero, i.size, i.bytes)) = some (some (.slice none 0 0), 1, 24) := by kernel_rfl
theorem ty_rows : ElemT Tryd.prog 41 25 1 24 := by
  refine ⟨Tryd.underlying41, ?_, by decide⟩
  have h1 := bytes_info
  cases hi : Tryd.prog.info? 25 with
  | none => simp [hi] at h1
  | some i =>
    simp only [hi, Option.map_some, Option.some.injEq, Prod.mk.injEq] at h1
    exact ⟨i, _, rfl, h1.1, h1.2.1, h1.2.2, rfl⟩
/-- the slice v, in a block of its own made since W0, reads the rows of bytes R, each in a block of its own -/
structure RIn (W0 W : World) (v : Value) (R : List (List Int)) : Prop where
  vs : ∃ vs : List Value, vs.length = R.length ∧ W.ownsRow 0 25 1 v R.length vs ∧ ∀ i, i < R.length → W.ownsRow W0.heap.size 5 1 (vs.getD i undef) (R.getD i []).length (u8s (R.getD i []))
  fresh : ∀ g, v.ownBlock = some g → W0.heap.size ≤ g
theorem RIn.nil (W0 W : World) : RIn W0 W (.slice none 0 0) [] := ⟨⟨[], rfl, World.ownsRow_nil W _ _ _, fun i h => absurd h (Nat.not_lt_zero _)⟩, fun g h => by simp [Value.ownBlock] at h⟩
theorem RIn.kept {W0 W W' : World} {v : Value} {R : List (List Int)} (h : RIn W0 W v R) (hk : Kept W W') : RIn W0 W' v R := by
  obtain ⟨vs, h1, h2, h3⟩ := h.vs
  exact ⟨⟨vs, h1, ownsRow_kept h2 hk, fun i hi => ownsRow_kept (h3 i hi) hk⟩, h.fresh⟩
theorem RIn.slice {W0 W : World} {v : Value} {R : List (List Int)} (h : RIn W0 W v R) : ∃ ao cap, v = .slice ao R.length cap := by
  obtain ⟨vs, h1, h2, h3⟩ := h.vs
  rcases owns_form h2 with ⟨rfl, h0, _⟩ | ⟨g, cap, rfl, _⟩
  · exact ⟨none, 0, by rw [h0]⟩
  · exact ⟨_, cap, rfl⟩
theorem fill_cell (cells : Array Value) (v : Value) (hc : cells.size = 1) (hv : v.cells = #[v]) : Instr.fill (fun i => some (i * 1, 1)) cells [(0, v)] = some [v].toArray := by
  obtain ⟨c1, e1, s1, k1⟩ := fill_one (place := fun i => some (i * 1, 1)) (cells := cells) (i := 0) (off := 0) (n := 1) (v := v) (rest := []) rfl (by rw [hv]; rfl) (by omega)
  rw [e1]
  show some c1 = _
  congr 1
  refine Array.ext_getElem? fun k => ?_
  rw [k1 k, hv]
  by_cases a : k < 1
  · rw [if_pos ⟨by omega, by omega⟩]; rfl
  · rw [if_neg (by omega), Array.getElem?_eq_none (by omega), Array.getElem?_eq_none (by simp; omega)]
theorem wpList_one_bytes {ops : Array Oper} {rest : List Oper} {o : Oper} {a : Act} {w : World} {Q : Exit → Act → World → Prop} (hg : o.guard = none) (x : Operand) (ho : o.op = .buildSlice 41 1 #[(0, x)])
    (v : Value) (hv : v.cells = #[v]) (hx : a.eval x = v)
    (h : ∀ w1, Hid (w1.heap[w.heap.size]? = some (.cells [v].toArray 25 (0, 0))) → w.heap.size < w1.heap.size → Kept w w1 → wpList Tryd.prog ops Q rest (a.put o.dst (.slice (some ⟨w.heap.size, 0, none⟩) 1 1)) w1) : wpList Tryd.prog ops Q (o :: rest) a w := by
  have h1 := bytes_info
  cases hi : Tryd.prog.info? 25 with
  | none => simp [hi] at h1
  | some i =>
    simp only [hi, Option.map_some, Option.some.injEq, Prod.mk.injEq] at h1
    refine wpList_buildSlice hg _ 25 1 _ ho [v].toArray i _ Tryd.underlying41 hi h1.1 (by rw [h1.2.1]; decide) (by rw [h1.2.1]; decide) ?_ (h _ (Lib.hid (heap_alloc_new w _)) (by simp) ((Kept.refl _).alloc _))
    have he : (#[(0, x)].map fun (i, x) => ((i, a.eval x) : Nat × Value)).toList = [(0, v)] := by simp [hx]
    rw [he, h1.2.1]
    exact fill_cell _ v (by simp) hv
theorem wpList_append_bytes {ops : Array Oper} {rest : List Oper} {o : Oper} {a : Act} {W0 W : World} {v : Value} {Q : Exit → Act → World → Prop} (hgd : o.guard = none) (s x : Operand) (ho : o.op = .call { callee := .builtin .append, args := #[s, x], argTypes := #[41, 41] })
    (R : List (List Int)) (hs : a.eval s = v) (hv : RIn W0 W v R) (hl : R.length < 20000) (b : Nat) (hx : a.eval x = .slice (some ⟨b, 0, none⟩) 1 1) (sv : Value) (z : List Int) (hz : W.ownsRow W0.heap.size 5 1 sv z.length (u8s z)) (hK : Kept W0 W) (hb : W.heap[b]? = some (.cells [sv].toArray 25 (0, 0)))
    (h : ∀ v' W', RIn W0 W' v' (R ++ [z]) → Kept W0 W' → wpList Tryd.prog ops Q rest (a.put o.dst v') W') : wpList Tryd.prog ops Q (o :: rest) a W := by
  refine wpList_plain hgd fun K hK' => ?_
  obtain ⟨vs, h1, h2, h3⟩ := hv.vs
  obtain ⟨v', W', hr, h4, h5⟩ := own_append ty_rows (b := b) h2 hl (by decide) [sv] rfl (fun j u hu => by
    have := cell_of_row W b j _ _ _ hb
    rw [this]; simpa using hu) (fun u hu => by rw [List.mem_singleton.1 hu]; exact (own_slice hz).2) o.type
  have key : ∀ (x : Value) (y : List Int), W.ownsRow W0.heap.size 5 1 x y.length (u8s y) → W'.ownsRow W0.heap.size 5 1 x y.length (u8s y) := fun x y hxy => own_same hxy fun g hg => h5.blk (own_lt hxy hg) (fun e => by
    rcases h2.2 with ⟨rfl, _⟩ | ⟨g', cap, cur, rfl, _, hg', _⟩
    · simp [Value.ownBlock] at e
    · simp only [Value.ownBlock, Option.some.injEq] at e
      subst e
      exact own_ne hxy hg' (by decide) _ hg rfl)
  unfold Oper.wp execOp
  simp only [ho, resolve, invoke, builtin, Sem.run_bind, Sem.run_pure, Result.andThen_ok, List.map_toArray, List.map_cons, List.map_nil, hs, hx, hr]
  refine hK' _ _ (h v' W' ⟨⟨vs ++ [sv], by rw [List.length_append, List.length_append, h1]; rfl, by rw [List.length_append]; exact h4, fun i hi => ?_⟩, fun g hg' => ?_⟩ ?_)
  · by_cases e : i < R.length
    · have e1 : (vs ++ [sv]).getD i undef = vs.getD i undef := by rw [List.getD_eq_getElem?_getD, List.getElem?_append_left (by omega), ← List.getD_eq_getElem?_getD]
      have e2 : (R ++ [z]).getD i [] = R.getD i [] := by rw [List.getD_eq_getElem?_getD, List.getElem?_append_left e, ← List.getD_eq_getElem?_getD]
      rw [e1, e2]
      exact key _ _ (h3 i e)
    · have ei : i = R.length := by rw [List.length_append, List.length_singleton] at hi; omega
      have e1 : (vs ++ [sv]).getD i undef = sv := by rw [List.getD_eq_getElem?_getD, List.getElem?_append_right (by omega), ei, h1]; simp
      have e2 : (R ++ [z]).getD i [] = z := by rw [List.getD_eq_getElem?_getD, List.getElem?_append_right (by omega), ei]; simp
      rw [e1, e2]
      exact key _ _ hz
  · rcases h5 with ⟨e, _⟩ | ⟨g', e, h6, _, _⟩
    · exact hv.fresh g (e ▸ hg')
    · rw [e] at hg'; injection hg' with hg'
      have := hK.size; omega
  · rcases h5 with ⟨_, hb⟩ | ⟨_, _, _, _, hk⟩
    · exact But.to_kept hK hb (fun k hk => hv.fresh k hk)
    · exact hK.trans hk
theorem moreL_len {rd : Rd} {live : List Int} {gen p num parts : Int} : ∀ (k : Nat) (l : List (List Int)), (moreL rd live gen p num parts k l).1.length ≤ l.length + k
  | 0, l => by unfold moreL; simp
  | k + 1, l => by
    unfold moreL
    split
    · simp
    · have := moreL_len (rd := rd) (live := live) (gen := gen) (p := p) (num := num) (parts := parts) k (l ++ [(findL rd (p + l.length) gen (soNext gen num l.length parts) live 0).s])
      rw [List.length_append, List.length_singleton] at this
      omega
theorem recL_len {rd : Rd} {live : List Int} {gen num : Int} {p : Nat} (hp : p ≤ 48) : p + (recL rd live gen p num).1.length ≤ 48 := by
  unfold recL
  split
  · simpa using hp
  · split
    · simpa using hp
    · split
      · simpa using hp
      · rename_i h1 h2 h3
        split
        · simpa using hp
        · rename_i h4
          have hok : (findL rd p gen (soFirst num) live 0).ok = true := by simpa using h3
          have hp1 := isTag_parts (findL_ok p gen (soFirst num) live 0 hok).1
          have := moreL_len (rd := rd) (live := live) (gen := gen) (p := p) (num := num) (parts := (tagRaw (findL rd p gen (soFirst num) live 0).s).parts) ((tagRaw (findL rd p gen (soFirst num) live 0).s).parts - 1).toNat [(findL rd p gen (soFirst num) live 0).s]
          rw [List.length_singleton] at this
          omega
section
variable {w0 W : World} {R : Nat → Prop} {q : Nat} {T : BankT}
set_option maxHeartbeats 4000000
set_option maxRecDepth 100000
theorem meta_Scan (h : BK w0 R W q T) (u : T.Use) (B c : Nat) (L : List Int) (hlv : Cells W B 0 (ints L)) (hBW : B < W.heap.size) (hL : L.length ≤ 100) (gen : Int) :
    Calls Tryd.prog 30 #[.pointer (some ⟨q, 0, none⟩), .slice (some ⟨B, 0, none⟩) L.length c, .int .i64 gen] W fun e w' => ∃ v, e = .returned (.tuple #[v, .int .i64 ((scanL T.read L gen 48 0 []).2.1 : Int), .int .i64 (scanL T.read L gen 48 0 []).2.2]) ∧ RIn W w' v (scanL T.read L gen 48 0 []).1 ∧ Kept W w' := by
  obtain ⟨res, hres⟩ : ∃ res, scanL T.read L gen 48 0 [] = res := ⟨_, rfl⟩
  rw [hres]
  have HRES := Lib.hid hres
  have HB := Lib.hid h; have HU := Lib.hid u; have HLV := Lib.hid hlv; have HBW := Lib.hid hBW
  clear h u hlv hBW hres
  go_enter Tryd.func30, Tryd.ntmps30
  go_wp2_with (refine stop_at (o := ⟨some 9, _, _, _, _, _⟩) ?_)
  refine Stop.mk ?_
  refine wpList_new_row rfl rfl _ _ rfl rfl ty_scan [.pointer none, .slice none 0 0, .int .i64 0] (fun w => by kernel_rfl) rfl [.pointer (some ⟨q, 0, none⟩), .slice (some ⟨B, 0, none⟩) L.length c, .int .i64 gen] rfl rfl (by intro u hu; simp at hu; rcases hu with rfl | rfl | rfl <;> rfl) rfl ?_
  intro w1 hz1 hs1 hk1
  have HX1 := hz1
  have HK1 := Lib.hid hk1
  have HXW := Lib.hid (Nat.le_refl W.heap.size)
  generalize hX : W.heap.size = X at hz1 HX1 HXW ⊢
  have HXE := Lib.hid hX
  clear hz1 hs1 hk1 hX
  go_wp2
  go_loopw [10, 11] (fun v i wr => ∃ (p f : Nat) (out : List (List Int)), p ≤ 48 ∧ 48 ≤ p + f ∧ out.length ≤ p ∧ i = .int .i64 p ∧ Hid (scanL T.read L gen f p out = res) ∧ Hid (RIn w1 wr v out) ∧ Hid (Kept w1 wr)) (fun _ i _ => 48 - (intOf i).toNat)
  case atStart => exact ⟨0, 48, [], by decide, by decide, by decide, rfl, HRES, Lib.hid (RIn.nil _ _), Lib.hid (Kept.refl _)⟩
  case round =>
    obtain ⟨p, f, out, hp, hpf, hop, rfl, HRES, HR, HK⟩ := hrel
    obtain ⟨wo, hwo⟩ : ∃ wo, wo = wr := ⟨_, rfl⟩
    subst hwo
    obtain ⟨ao, cap, hv⟩ : ∃ ao cap, u10 = Value.slice ao out.length cap := HR.out.slice
    subst hv
    by_cases hlt : p < 48
    · obtain ⟨f', rfl⟩ : ∃ f', f = f' + 1 := ⟨f - 1, by omega⟩
      have HKW := Lib.hid (HK1.out.trans HK.out)
      have HX := Lib.hid (HK.out.block HX1.out)
      have HRL := Lib.hid (recL_len (rd := T.read) (live := L) (gen := gen) (num := (out.length : Int)) hp)
      have HREC := Lib.hid (meta_record (HB.out.kept HKW.out).1 HU.out B c L (HLV.out.kept HKW.out) (Nat.lt_of_lt_of_le HBW.out HKW.out.size) hL gen (out.length : Int) p hp)
      unfold scanL at HRES
      rw [if_neg (by omega)] at HRES
      generalize recL T.read L gen (p : Int) (out.length : Int) = r at *
      obtain ⟨l, e⟩ := r
      simp only [] at HRES HRL HREC
      go_wp2_with (refine stop_at (o := ⟨some 23, _, _, _, _, _⟩) ?_)
      refine Stop.mk ?_
      refine wpList_load_agg rfl _ rfl ty_scan X 0 rfl _ (by simpa using Cells.of_block HX.out) rfl ?_
      go_wp2_with fail
      refine Calls.mono HREC.out ?_
      rintro e' w2 ⟨v, rfl, hsl, hsec, hfr, hk2⟩
      have HK2 := Lib.hid (HK.out.trans hk2)
      have HR2 := Lib.hid (HR.out.kept hk2)
      have HS2 := Lib.hid (And.intro hsl hsec)
      obtain ⟨ao2, cap2, hv2⟩ : ∃ ao2 cap2, v = Value.slice ao2 l.length cap2 := by
        obtain ⟨ao2, cap2, e, _⟩ := hsl.form
        exact ⟨ao2, cap2, e⟩
      subst hv2
      have hl48 : l.length ≤ 48 := by have := HRL.out; omega
      clear hsl hsec hfr hk2 HREC HX HK HR HKW
      by_cases he : e = 0
      · subst he
        rw [if_neg (by decide)] at HRES
        by_cases hl : l = []
        · rw [if_pos hl] at HRES
          have hl0 : l.length = 0 := by rw [hl]; rfl
          have HL0 := Lib.hid hl0
          clear hl hl0
          rw [HL0.out]
          go_wp2
          go_ret3
          exact ⟨_, by rw [← HRES.out]; rfl, by rw [← HRES.out]; exact ⟨HR2.out.vs.elim fun vs h => ⟨vs, h.1, h.2.1, fun i hi => ownsRow_base (h.2.2 i hi) HK1.out.size⟩, fun g hg => Nat.le_trans HK1.out.size (HR2.out.fresh g hg)⟩, HK1.out.trans HK2.out⟩
        · rw [if_neg hl] at HRES
          have hlp : 0 < l.length := List.length_pos_iff.2 hl
          have hlb : ((l.length : Int) == 0) = false := by simp; omega
          have HSS := Lib.hid (HS2.out.1.secSl HS2.out.2)
          clear hl
          go_wp2_with fail
          refine Calls.mono (record_Join gen (out.length : Int) _ l _ HSS.out (by omega)) ?_
          rintro e' w3 ⟨sv, rfl, hown, hk3⟩
          have HK3 := Lib.hid (HK2.out.trans hk3)
          have HR3 := Lib.hid (HR2.out.kept hk3)
          have HO3 := Lib.hid (ownsRow_base hown HK2.out.size)
          have HSV := Lib.hid (own_slice hown)
          generalize (joinB gen (out.length : Int) l).getD [] = z at *
          generalize (joinB gen (out.length : Int) l).isSome = zb at *
          clear hown hk3 HK2 HR2 HSS HS2
          go_wp2_with (refine stop_at (o := ⟨some 46, _, _, _, _, _⟩) ?_)
          refine Stop.mk ?_
          refine wpList_one_bytes rfl _ rfl sv HSV.out.1 rfl ?_
          intro w4 hz4 hs4 hk4
          have HK4 := Lib.hid (HK3.out.trans hk4)
          refine wpList_append_bytes rfl _ _ rfl out rfl (HR3.out.kept hk4) (by omega) w3.heap.size rfl sv z (ownsRow_kept HO3.out hk4) HK4.out hz4.out ?_
          intro v' w5 hr5 hk5
          have HR5 := Lib.hid hr5
          have HK5 := Lib.hid hk5
          have hrl := HRL.out
          clear hr5 hk5 hz4 hs4 hk4 HK4 HK3 HR3 HO3
          go_wp2
          go_roundw
          case rel => exact ⟨p + l.length, f', out ++ [z], hrl, by omega, by rw [List.length_append, List.length_singleton]; omega, by go_num, HRES, HR5, HK5⟩
          case measure => simp [intOf]; omega
      · have heb : (e == 0) = false := by simpa using he
        rw [if_pos he] at HRES
        clear he
        go_wp2
        go_ret3
        exact ⟨_, by rw [← HRES.out]; rfl, by rw [← HRES.out]; exact RIn.nil _ _, HK1.out.trans HK2.out⟩
    · have hge : 48 ≤ p := by omega
      have HRR : Hid (res = (out, p, 0)) := Lib.hid (by
        have := HRES.out
        cases f with
        | zero => unfold scanL at this; exact this.symm
        | succ f => unfold scanL at this; rw [if_pos hge] at this; exact this.symm)
      clear HRES
      go_wp2
      go_ret3
      exact ⟨_, by rw [HRR.out]; rfl, by rw [HRR.out]; exact ⟨HR.out.vs.elim fun vs h => ⟨vs, h.1, h.2.1, fun i hi => ownsRow_base (h.2.2 i hi) HK1.out.size⟩, fun g hg => Nat.le_trans HK1.out.size (HR.out.fresh g hg)⟩, HK1.out.trans HK.out⟩
end
end Go.Proofs.YtpeclkhppgabfaaDoor
/- metalog.New, Room, Next, fails, member walked. -/
namespace Go.Proofs.YtpeclkhppgabfaaDoor
open Go.RowKit
set_option linter.unusedVariables false
set_option linter.unusedSimpArgs false

structure LogT where
  gen : Int
  num : Nat
  pos : Nat
  dead : Bool
def logVals (q lg n c : Nat) (t : LogT) : List Value := [.pointer (some ⟨q, 0, none⟩), .slice (some ⟨lg, 0, none⟩) n c, .int .i64 t.gen, .int .i64 (t.num : Int), .int .i64 (t.pos : Int), .bool t.dead]
/-- a log in block p over the bank in block q -/
structure LogD (W : World) (p q lg c : Nat) (L : List Int) (t : LogT) : Prop where
  blk : W.heap[p]? = some (.cells (logVals q lg L.length c t).toArray 101 (0, 0))
  live : Cells W lg 0 (ints L)
section
variable {W W' : World} {p q lg c : Nat} {L : List Int} {t : LogT} {R : Nat → Prop}
theorem LogD.kept (h : LogD W p q lg c L t) (hk : Kept W W') : LogD W' p q lg c L t := ⟨hk.block h.blk, h.live.kept hk⟩
theorem LogD.same (h : LogD W p q lg c L t) (hs : SameR R W W') (hp : R p) (hl : R lg) : LogD W' p q lg c L t := ⟨(hs p hp).trans h.blk, hs.cells hl h.live⟩
theorem LogD.c0 (h : LogD W p q lg c L t) : W.cell? ⟨p, 0, none⟩ = some (.pointer (some ⟨q, 0, none⟩)) := cell_of_row _ _ 0 _ _ _ h.blk
theorem LogD.c1 (h : LogD W p q lg c L t) : W.cell? ⟨p, 1, none⟩ = some (.slice (some ⟨lg, 0, none⟩) L.length c) := cell_of_row _ _ 1 _ _ _ h.blk
theorem LogD.c2 (h : LogD W p q lg c L t) : W.cell? ⟨p, 2, none⟩ = some (.int .i64 t.gen) := cell_of_row _ _ 2 _ _ _ h.blk
theorem LogD.c3 (h : LogD W p q lg c L t) : W.cell? ⟨p, 3, none⟩ = some (.int .i64 (t.num : Int)) := cell_of_row _ _ 3 _ _ _ h.blk
theorem LogD.c4 (h : LogD W p q lg c L t) : W.cell? ⟨p, 4, none⟩ = some (.int .i64 (t.pos : Int)) := cell_of_row _ _ 4 _ _ _ h.blk
theorem LogD.c5 (h : LogD W p q lg c L t) : W.cell? ⟨p, 5, none⟩ = some (.bool t.dead) := cell_of_row _ _ 5 _ _ _ h.blk
end
theorem eq_nilR (w : World) (a : Option Addr) (n c : Nat) : (binOp .eql 28 (.slice a n c) (.slice none 0 0)).run Tryd.prog w = .ok (.bool a.isNone) w := by
  simp only [binOp]
  simp [Op.equal, Op.maxDepth, Lib.run_equalIn_slice_nil w 9999 28 3 a n c 0 0 Tryd.underlying28]
theorem ty_intsR : ElemT Tryd.prog 28 3 1 8 := by
  obtain ⟨i, h1, h2, h3, h4⟩ := info_parts (P := Tryd.prog) (e := 3) (z := .int .i64 0) (size := 1) (bytes := 8) (by kernel_rfl)
  exact ⟨by kernel_rfl, ⟨i, _, h1, h2, h3, h4, by rfl⟩, by decide⟩
theorem ints_oneR (l : List Int) : ∀ u ∈ ints l, u.oneCell' = true := by
  intro u hu
  simp only [ints, List.mem_map] at hu
  obtain ⟨n, _, rfl⟩ := hu
  rfl
set_option maxHeartbeats 2000000 in
set_option maxRecDepth 100000 in
theorem ints_CloneR (l : List Int) (b c : Nat) (w : World) (h0 : 0 < l.length) (hl : l.length ≤ 4096) (hc : l.length ≤ c) (hr : Cells w b 0 (ints l)) :
    Calls Tryd.prog 50 #[.slice (some ⟨b, 0, none⟩) l.length c] w fun e w' => ∃ g cap, e = .returned (.slice (some ⟨g, 0, none⟩) l.length cap) ∧ Cells w' g 0 (ints l) ∧ w.heap.size ≤ g ∧ g < w'.heap.size ∧ Kept w w' := by
  have HR := Lib.hid hr; clear hr
  have e1 := eq_nilR
  have ka : ∀ o, Kept w (w.alloc o) := fun o => (Kept.refl _).alloc o
  go_enter Tryd.func50, Tryd.ntmps50
  go_wp2_with (at_builtin; refine stop_at ?_)
  refine Stop.mk ?_
  refine wpList_append_app _ rfl _ _ rfl ty_intsR w.heap.size (.slice (some ⟨w.heap.size, 0, none⟩) 0 0) 0 [] rfl (.inr ⟨rfl, _, rfl, by simp, by simp⟩) _ l.length (ints l) rfl (Src.of_cells (Cells.kept HR.out (ka _)) (by rw [ints_length, Nat.mul_one]) hc) (ints_oneR l) (by simp only [maxLen]; omega) (by omega) (by simp) ?_
  intro v' w' _ _ hb hown
  have ho := hown (.inl h0)
  rw [Nat.zero_add, List.nil_append] at ho
  clear hown
  have HK := Lib.hid (show Kept w w' from (ka _).below (Nat.le_refl _) hb)
  rcases owns_form ho with ⟨_, h, _⟩ | ⟨g, cap, rfl, hg, hlt, hn, hcl⟩
  · omega
  have HG := Lib.hid (And.intro hcl (And.intro hg hlt))
  clear ho hb hcl hg hlt hn
  go_wp2
  go_ret
  exact ⟨g, cap, rfl, HG.out.1, HG.out.2.1, HG.out.2.2, HK.out⟩
set_option maxHeartbeats 2000000 in
set_option maxRecDepth 100000 in
theorem meta_New (q B c : Nat) (L : List Int) (gen : Int) (w : World) (h0 : 0 < L.length) (hl : L.length ≤ 4096) (hc : L.length ≤ c) (hr : Cells w B 0 (ints L)) :
    Calls Tryd.prog 25 #[.pointer (some ⟨q, 0, none⟩), .slice (some ⟨B, 0, none⟩) L.length c, .int .i64 gen] w fun e w' => ∃ p lg cap, e = .returned (.pointer (some ⟨p, 0, none⟩)) ∧ LogD w' p q lg cap L ⟨gen, 0, 0, false⟩ ∧ w.heap.size ≤ lg ∧ lg < p ∧ p < w'.heap.size ∧ Kept w w' := by
  have HR := Lib.hid hr; clear hr
  go_enter Tryd.func25, Tryd.ntmps25
  go_wp2_with fail
  refine Calls.mono (ints_CloneR L B c _ h0 hl hc HR.out) ?_
  rintro e w1 ⟨lg, cap, rfl, hlg, hge, hlt, hk1⟩
  have HL := Lib.hid hlg
  have HE := Lib.hid (And.intro hge hlt)
  have HK := Lib.hid hk1
  clear hlg hge hlt hk1
  go_wp2_with (refine stop_at (o := ⟨some 12, _, _, _, _, _⟩) ?_)
  refine Stop.mk ?_
  refine wpList_box_row rfl _ _ rfl (logVals q lg L.length cap ⟨gen, 0, 0, false⟩) rfl ?_
  intro w2 hz2 hs2 hk2
  have HZ := hz2
  have HK2 := Lib.hid (HK.out.trans hk2)
  have HL2 := Lib.hid (HL.out.kept hk2)
  have HS := Lib.hid (And.intro HE.out.2 hs2)
  generalize w1.heap.size = p at *
  clear hz2 hs2 hk2
  go_wp2
  go_ret
  exact ⟨p, lg, cap, rfl, ⟨HZ.out, HL2.out⟩, HE.out.1, HS.out.1, HS.out.2, HK2.out⟩
section
variable {w0 W : World} {R : Nat → Prop} {p q lg c : Nat} {T : BankT} {L : List Int} {t : LogT}
set_option maxHeartbeats 2000000
set_option maxRecDepth 100000
theorem meta_Room (h : LogD W p q lg c L t) (hp : t.pos ≤ 48) : Calls Tryd.prog 28 #[.pointer (some ⟨p, 0, none⟩)] W fun e w' => e = .returned (.int .i64 (48 - (t.pos : Int))) ∧ W = w' := by
  have c4 := h.c4
  clear h
  go_enter Tryd.func28, Tryd.ntmps28
  go_wp2
  go_ret
  exact ⟨rfl, rfl⟩
theorem meta_Next (h : LogD W p q lg c L t) : Calls Tryd.prog 29 #[.pointer (some ⟨p, 0, none⟩)] W fun e w' => e = .returned (.int .i64 (t.num : Int)) ∧ W = w' := by
  have c3 := h.c3
  clear h
  go_enter Tryd.func29, Tryd.ntmps29
  go_wp2
  go_ret
  exact ⟨rfl, rfl⟩
theorem meta_fails (h : LogD W p q lg c L t) (x : Int) : Calls Tryd.prog 53 #[.pointer (some ⟨p, 0, none⟩), .int .i64 x] W fun e w' => e = .returned (.int .i64 x) ∧ Wrote W w' p (logVals q lg L.length c { t with dead := true }) 101 := by
  have HB := Lib.hid h.blk
  clear h
  go_enter Tryd.func53, Tryd.ntmps53
  go_wp2_with (refine stop_at (o := ⟨none, .store _ _ _, _, _, _, _⟩) ?_)
  refine Stop.mk ?_
  refine wpList_set_cell rfl _ _ rfl size_bool p 5 rfl (.bool true) rfl rfl rfl _ _ HB.out (show 5 < 6 by decide) ?_
  intro w1 hw1
  have HW : Hid (Wrote W w1 p (logVals q lg L.length c { t with dead := true }) 101) := Lib.hid hw1
  clear hw1
  go_wp2
  go_ret
  exact ⟨rfl, HW.out⟩
theorem meta_member (h : BK w0 R W q T) (hl : LogD W p q lg c L t) (hp : R p) (hlg : R lg) (P : List (List Int)) (hP : ∀ s ∈ P, SecB s) (hPl : P.length ≤ 4000) (u : T.UseN P.length) (d : Int) (hpos : t.pos ≤ 48) (X : Nat) (hX : R X) (hXs : W.heap[X]? = some (.cells (secs P).toArray 39 (0, 0))) :
    Calls Tryd.prog 51 #[.pointer (some ⟨p, 0, none⟩), .int .i64 d, .slice (some ⟨X, 0, none⟩) P.length P.length] W fun e w' => e = .returned (.int .i64 (BankT.layL d (2 + (t.pos : Int)) P T).2) ∧ BK w0 R w' q (BankT.layL d (2 + (t.pos : Int)) P T).1 ∧ SameR R W w' := by
  obtain ⟨Tr, cr, hres⟩ : ∃ Tr cr, BankT.layL d (2 + (t.pos : Int)) P T = (Tr, cr) := ⟨_, _, rfl⟩
  rw [hres]
  have HRES := Lib.hid (show BankT.layL d (2 + (t.pos : Int) + ((0 : Nat) : Int)) (P.drop 0) T = (Tr, cr) by rw [show 2 + (t.pos : Int) + ((0 : Nat) : Int) = 2 + (t.pos : Int) by omega]; exact hres)
  have HB0 := Lib.hid h
  have HU0 := Lib.hid (show T.UseN (P.length - 0) from u)
  have HX0 := Lib.hid hXs
  have HP := Lib.hid hP
  have HR := Lib.hid (And.intro hX (And.intro hp hlg))
  have HL0 := Lib.hid hl
  obtain ⟨gen, num, pos, dead⟩ := t
  simp only [] at hpos HRES HL0
  clear h hP u hX hp hlg hXs hres hl
  go_enter Tryd.func51, Tryd.ntmps51
  go_wp2
  go_loopw [12] (fun i wr => ∃ (k : Nat) (T : BankT), k ≤ P.length ∧ i = .int .i64 k ∧ Hid (BankT.layL d (2 + (pos : Int) + (k : Int)) (P.drop k) T = (Tr, cr)) ∧ Hid (T.UseN (P.length - k)) ∧ Hid (BK w0 R wr q T) ∧ Hid (SameR R W wr)) (fun i _ => P.length - (intOf i).toNat)
  case atStart => exact ⟨0, T, Nat.zero_le _, rfl, HRES, HU0, HB0, Lib.hid (SameR.refl _ _)⟩
  case round =>
    clear HRES HU0 HB0
    obtain ⟨k, T, hk, rfl, HRES, HU, HB, HS⟩ := hrel
    have HL := Lib.hid (HL0.out.same HS.out HR.out.2.1 HR.out.2.2)
    by_cases hlt : k < P.length
    · have HX := Lib.hid (SecsIn.cells ((HS.out X HR.out.1).trans HX0.out) HP.out hlt)
      have HSB := Lib.hid (getD_sec HP.out hlt)
      replace HRES : Hid (BankT.layL d (2 + (pos : Int) + (k : Int)) (P.getD k [] :: P.drop (k + 1)) T = (Tr, cr)) := Lib.hid (by rw [← drop_at hlt]; exact HRES.out)
      obtain ⟨s, hse⟩ : ∃ s, P.getD k [] = s := ⟨_, rfl⟩
      rw [hse] at HX HSB HRES
      clear hse
      obtain ⟨T1, c1, hw⟩ : ∃ T1 c1, T.write d (2 + (pos : Int) + (k : Int)) s = (T1, c1) := ⟨_, _, rfl⟩
      have hu : T.UseN (P.length - (k + 1) + 1) := by rw [show P.length - (k + 1) + 1 = P.length - k by omega]; exact HU.out
      have hu1 := hu.write d (2 + (pos : Int) + (k : Int)) HSB.out
      rw [hw] at hu1
      have HU1 := Lib.hid hu1
      have HUS := Lib.hid HU.out.use
      have HW := Lib.hid hw
      unfold BankT.layL at HRES
      rw [hw] at HRES
      simp only [] at HRES hu1 HU1
      clear hu hu1 hw HU
      go_wp2_with (refine stop_at (o := ⟨some 16, _, _, _, _, _⟩) ?_)
      refine Stop.mk ?_
      refine wpList_load_agg rfl _ rfl ty_sec X (k * 64) rfl (u8s s) HX.out (by rw [u8s_length, HSB.out.1]) ?_
      go_wp2_with (refine stop_at (o := ⟨some 8, _, _, _, _, _⟩) ?_)
      refine Stop.mk ?_
      refine wpList_alloc_abs rfl 39 rfl (u8s zeroB) zero_sec ?_
      intro w1 hz1 hs1 hn1 hk1
      have HYN := Lib.hid (show ∀ k', R k' → k' ≠ wr.heap.size from fun k' hk' e => by have := (by obtain ⟨_, _, hh⟩ := HB.out; exact (hh.off k' hk').1 : k' < wr.heap.size); omega)
      have hY : wr.heap.size ≤ wr.heap.size := Nat.le_refl _
      have HBY := Lib.hid (HB.out.more hk1 wr.heap.size (Nat.le_refl _) hs1)
      have HW0 := Lib.hid HB.out.keeps.size
      have HS1 := Lib.hid (HS.out.trans (HB.out.kept hk1).2)
      generalize wr.heap.size = Y at *
      clear hs1 hn1 hY
      go_wp2_with (refine stop_at (o := ⟨none, .store _ _ _, _, _, _, _⟩) ?_)
      refine Stop.mk ?_
      refine wpList_store_agg rfl _ _ rfl ty_sec Y 0 rfl (u8s s) rfl (by rw [u8s_length, HSB.out.1]) (u8s_one _) (u8s zeroB) _ hz1.out (by simp [u8s_length, zeroB_length]) ?_
      intro w2 hw2
      replace hw2 := hw2.all (by rw [u8s_length, u8s_length, zeroB_length, HSB.out.1])
      have HY2 := Lib.hid hw2.blk
      have HB2 := Lib.hid (HBY.out.wrote hw2 (.inr rfl) HW0.out)
      have HS2 := Lib.hid (HS1.out.trans (BK.wrote_same (R := R) hw2 HYN.out))
      have HL2 := Lib.hid (HL0.out.same HS2.out HR.out.2.1 HR.out.2.2)
      clear hw2 hk1 hz1 HB HS HX HL HBY HS1
      go_upto_region 4 with fail
      have HBd := Lib.hid (HB2.out.kept (Kept.refl w2).drew).1
      have HSd := Lib.hid (HS2.out.trans fun k' hk' => (HB2.out.kept (Kept.refl w2).drew).2 k' (.inl hk'))
      have hS : w2.drew.heap[p]? = some (.cells (logVals q lg L.length c ⟨gen, num, pos, dead⟩).toArray 101 (0, 0)) ∧ w2.drew.heap[Y]? = some (.cells (u8s s).toArray 39 (0, 0)) := ⟨HL2.out.blk, HY2.out⟩
      refine wp_region_calm ?_
      refine wp_region_E (fun W => W.heap[p]? = some (.cells (logVals q lg L.length c ⟨gen, num, pos, dead⟩).toArray 101 (0, 0)) ∧ W.heap[Y]? = some (.cells (u8s s).toArray 39 (0, 0))) 100 (by kernel_rfl) ?_
      refine wpAnyE_take (i := 0) (v := ?_) (listed' := #[true, false, false, false, false, false, false, false, false, false, false, false, false, false, false, false]) (by rfl) (by kernel_rfl) (by kernel_rfl) calm_put hS (by rfl) ?_ ?_
      rotate_left
      · intro W hW; clear hW; go_simp; try (with_reducible rfl)
      simp only [Act.put, List.getElem_toArray, List.getElem_cons_succ, List.getElem_cons_zero, List.setIfInBounds_toArray, List.set_cons_zero, List.set_cons_succ]
      refine wpAnyE_take (i := 1) (v := ?_) (listed' := #[true, true, false, false, false, false, false, false, false, false, false, false, false, false, false, false]) (by rfl) (by kernel_rfl) (by kernel_rfl) calm_put hS (by rfl) ?_ ?_
      rotate_left
      · intro W hW; clear hW; go_simp; try (with_reducible rfl)
      simp only [Act.put, List.getElem_toArray, List.getElem_cons_succ, List.getElem_cons_zero, List.setIfInBounds_toArray, List.set_cons_zero, List.set_cons_succ]
      refine wpAnyE_take (i := 2) (v := ?_) (listed' := #[true, true, true, false, false, false, false, false, false, false, false, false, false, false, false, false]) (by rfl) (by kernel_rfl) (by kernel_rfl) calm_put hS (by rfl) ?_ ?_
      rotate_left
      · intro W hW; clear hW; go_simp; try (with_reducible rfl)
      simp only [Act.put, List.getElem_toArray, List.getElem_cons_succ, List.getElem_cons_zero, List.setIfInBounds_toArray, List.set_cons_zero, List.set_cons_succ]
      refine wpAnyE_take (i := 3) (v := .pointer (some ⟨q, 0, none⟩)) (listed' := #[true, true, true, true, false, false, false, false, false, false, false, false, false, false, false, false]) (by rfl) (by kernel_rfl) (by kernel_rfl) calm_put hS (by rfl) ?_ ?_
      · intro W hW; skip; have hc0 : W.cell? ⟨p, 0, none⟩ = some (.pointer (some ⟨q, 0, none⟩)) := cell_of_row _ _ 0 _ _ _ hW.1; clear hW; go_simp; try (with_reducible rfl)
      simp only [Act.put, List.getElem_toArray, List.getElem_cons_succ, List.getElem_cons_zero, List.setIfInBounds_toArray, List.set_cons_zero, List.set_cons_succ]
      refine wpAnyE_take (i := 4) (v := ?_) (listed' := #[true, true, true, true, true, false, false, false, false, false, false, false, false, false, false, false]) (by rfl) (by kernel_rfl) (by kernel_rfl) calm_put hS (by rfl) ?_ ?_
      rotate_left
      · intro W hW; clear hW; go_simp; try (with_reducible rfl)
      simp only [Act.put, List.getElem_toArray, List.getElem_cons_succ, List.getElem_cons_zero, List.setIfInBounds_toArray, List.set_cons_zero, List.set_cons_succ]
      refine wpAnyE_take (i := 5) (v := ?_) (listed' := #[true, true, true, true, true, true, false, false, false, false, false, false, false, false, false, false]) (by rfl) (by kernel_rfl) (by kernel_rfl) calm_put hS (by rfl) ?_ ?_
      rotate_left
      · intro W hW; clear hW; go_simp; try (with_reducible rfl)
      simp only [Act.put, List.getElem_toArray, List.getElem_cons_succ, List.getElem_cons_zero, List.setIfInBounds_toArray, List.set_cons_zero, List.set_cons_succ]
      refine wpAnyE_take (i := 6) (v := ?_) (listed' := #[true, true, true, true, true, true, true, false, false, false, false, false, false, false, false, false]) (by rfl) (by kernel_rfl) (by kernel_rfl) calm_put hS (by rfl) ?_ ?_
      rotate_left
      · intro W hW; clear hW; go_simp; try (with_reducible rfl)
      simp only [Act.put, List.getElem_toArray, List.getElem_cons_succ, List.getElem_cons_zero, List.setIfInBounds_toArray, List.set_cons_zero, List.set_cons_succ]
      refine wpAnyE_take (i := 7) (v := ?_) (listed' := #[true, true, true, true, true, true, true, true, false, false, false, false, false, false, false, false]) (by rfl) (by kernel_rfl) (by kernel_rfl) calm_put hS (by rfl) ?_ ?_
      rotate_left
      · intro W hW; clear hW; go_simp; try (with_reducible rfl)
      simp only [Act.put, List.getElem_toArray, List.getElem_cons_succ, List.getElem_cons_zero, List.setIfInBounds_toArray, List.set_cons_zero, List.set_cons_succ]
      refine wpAnyE_take (i := 8) (v := .int .i64 (pos : Int)) (listed' := #[true, true, true, true, true, true, true, true, true, false, false, false, false, false, false, false]) (by rfl) (by kernel_rfl) (by kernel_rfl) calm_put hS (by rfl) ?_ ?_
      · intro W hW; skip; have hc4 : W.cell? ⟨p, 4, none⟩ = some (.int .i64 (pos : Int)) := cell_of_row _ _ 4 _ _ _ hW.1; clear hW; go_simp; try (with_reducible rfl)
      simp only [Act.put, List.getElem_toArray, List.getElem_cons_succ, List.getElem_cons_zero, List.setIfInBounds_toArray, List.set_cons_zero, List.set_cons_succ]
      refine wpAnyE_take (i := 9) (v := ?_) (listed' := #[true, true, true, true, true, true, true, true, true, true, false, false, false, false, false, false]) (by rfl) (by kernel_rfl) (by kernel_rfl) calm_put hS (by rfl) ?_ ?_
      rotate_left
      · intro W hW; clear hW; go_simp; try (with_reducible rfl)
      simp only [Act.put, List.getElem_toArray, List.getElem_cons_succ, List.getElem_cons_zero, List.setIfInBounds_toArray, List.set_cons_zero, List.set_cons_succ]
      refine wpAnyE_take (i := 10) (v := ?_) (listed' := #[true, true, true, true, true, true, true, true, true, true, true, false, false, false, false, false]) (by rfl) (by kernel_rfl) (by kernel_rfl) calm_put hS (by rfl) ?_ ?_
      rotate_left
      · intro W hW; clear hW; go_simp; try (with_reducible rfl)
      simp only [Act.put, List.getElem_toArray, List.getElem_cons_succ, List.getElem_cons_zero, List.setIfInBounds_toArray, List.set_cons_zero, List.set_cons_succ]
      refine wpAnyE_take (i := 11) (v := ?_) (listed' := #[true, true, true, true, true, true, true, true, true, true, true, true, false, false, false, false]) (by rfl) (by kernel_rfl) (by kernel_rfl) calm_put hS (by rfl) ?_ ?_
      rotate_left
      · intro W hW; clear hW; go_simp; try (with_reducible rfl)
      simp only [Act.put, List.getElem_toArray, List.getElem_cons_succ, List.getElem_cons_zero, List.setIfInBounds_toArray, List.set_cons_zero, List.set_cons_succ]
      refine wpAnyE_take (i := 12) (v := ?_) (listed' := #[true, true, true, true, true, true, true, true, true, true, true, true, true, false, false, false]) (by rfl) (by kernel_rfl) (by kernel_rfl) calm_put hS (by rfl) ?_ ?_
      rotate_left
      · intro W hW; clear hW; go_simp; try (with_reducible rfl)
      simp only [Act.put, List.getElem_toArray, List.getElem_cons_succ, List.getElem_cons_zero, List.setIfInBounds_toArray, List.set_cons_zero, List.set_cons_succ]
      refine wpAnyE_take (i := 13) (v := .agg (u8s s).toArray) (listed' := #[true, true, true, true, true, true, true, true, true, true, true, true, true, true, false, false]) (by rfl) (by kernel_rfl) (by kernel_rfl) calm_put hS (by rfl) ?_ ?_
      · intro W hW; skip; exact exec_load_sec _ rfl Y rfl s HSB.out.1 (by simpa using Cells.of_block hW.2)
      simp only [Act.put, List.getElem_toArray, List.getElem_cons_succ, List.getElem_cons_zero, List.setIfInBounds_toArray, List.set_cons_zero, List.set_cons_succ]
      refine wpAnyE_one (i := 14) (listed' := #[true, true, true, true, true, true, true, true, true, true, true, true, true, true, true, false]) (by rfl) (by kernel_rfl) (by kernel_rfl) (by rfl) (fun K hK => ?_)
      simp only [Act.put, List.getElem_toArray, List.getElem_cons_succ, List.getElem_cons_zero, List.setIfInBounds_toArray, List.set_cons_zero, List.set_cons_succ]
      go_wp2_with fail
      refine Calls.mono (st_writeE HBd.out HUS.out d (2 + (pos : Int) + (k : Int)) HSB.out.1 HW.out) ?_
      rintro e w3 ⟨rfl, hb3, hs3⟩
      have HB3 := Lib.hid (hb3.less (R' := R) fun k hk => .inl hk)
      have HS3 := Lib.hid (HSd.out.trans fun k hk => hs3 k (.inl hk))
      have hS := (⟨(hs3 p (.inl HR.out.2.1)).trans hS.1, (hs3 Y (.inr rfl)).trans hS.2⟩ : _ ∧ _)
      clear hb3 hs3 HB2 HS2 HBd HSd HW
      refine hK _ _ (fun _ => hS) ?_; clear hK K
      refine wpAnyE_one (i := 15) (listed' := #[true, true, true, true, true, true, true, true, true, true, true, true, true, true, true, true]) (by rfl) (by kernel_rfl) (by kernel_rfl) (by rfl) (fun K hK => ?_)
      simp only [Act.put, List.getElem_toArray, List.getElem_cons_succ, List.getElem_cons_zero, List.setIfInBounds_toArray, List.set_cons_zero, List.set_cons_succ]
      go_wp2
      refine hK _ _ (fun _ => hS) ?_; clear hK K
      refine wpAnyE_done (by kernel_rfl) ?_ _
      refine calm_normal ?_
      by_cases hc : c1 = 0
      · subst hc
        replace HRES : Hid (BankT.layL d (2 + (pos : Int) + ((k + 1 : Nat) : Int)) (P.drop (k + 1)) T1 = (Tr, cr)) := Lib.hid (by have := HRES.out; rw [if_pos rfl] at this; rw [show 2 + (pos : Int) + ((k + 1 : Nat) : Int) = 2 + (pos : Int) + (k : Int) + 1 by omega]; exact this)
        go_wp2
        go_roundw
        case rel => exact ⟨k + 1, T1, hlt, by go_num, HRES, HU1, HB3, HS3⟩
        case measure => simp [intOf]; omega
      · have hcb : (c1 == 0) = false := by simpa using hc
        have hr := HRES.out
        rw [if_neg hc] at hr
        obtain ⟨rfl, rfl⟩ : T1 = Tr ∧ c1 = cr := by cases hr; exact ⟨rfl, rfl⟩
        clear hr HRES
        go_wp2
        go_ret
        exact ⟨rfl, HB3.out, HS3.out⟩
    · have hkn : k = P.length := by omega
      have hr := HRES.out
      rw [hkn, List.drop_length] at hr
      unfold BankT.layL at hr
      have HF := Lib.hid hr
      have hge : P.length ≤ k := by omega
      have c0 := HL.out.c0
      clear hr hkn HRES
      go_wp2_with fail
      refine Calls.mono (st_flush HB.out HU.out.use d (c := cr) (T' := Tr) (by rw [HF.out]) (by rw [HF.out])) ?_
      rintro e w6 ⟨rfl, hb6, hs6⟩
      go_wp2
      go_ret
      exact ⟨rfl, hb6, HS.out.trans hs6⟩
end
end Go.Proofs.YtpeclkhppgabfaaDoor
