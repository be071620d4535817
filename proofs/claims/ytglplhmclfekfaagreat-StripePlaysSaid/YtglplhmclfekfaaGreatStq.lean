/- stripe.Plug. -/
import Derived.Test.YtglplhmclfekfaaGreatSto
namespace Go.Proofs.YtglplhmclfekfaaGreat
open Go.RowKit Go.Shelf
set_option linter.unusedVariables false
set_option linter.unusedSimpArgs false
attribute [local go_sem] Oper.semAt_some

/-- the parity, if another sector stands in a slot -/
def BankT.plugL (T : BankT) (L : List (Int × Int)) (t k : Nat) (s : List Int) : List Int × Int :=
  if (T.read (plcAt L t k).1 (plcAt L t k).2).2 ≠ 0 ∧ lostB (T.read (plcAt L t k).1 (plcAt L t k).2).2 = false then (zeroB, (T.read (plcAt L t k).1 (plcAt L t k).2).2)
  else if (T.read (plcAt L t (holdN L.length t)).1 (plcAt L t (holdN L.length t)).2).2 ≠ 0 ∧ lostB (T.read (plcAt L t (holdN L.length t)).1 (plcAt L t (holdN L.length t)).2).2 = false then (zeroB, (T.read (plcAt L t (holdN L.length t)).1 (plcAt L t (holdN L.length t)).2).2)
  else if (T.read (plcAt L t k).1 (plcAt L t k).2).2 = 0 ∧ (T.read (plcAt L t (holdN L.length t)).1 (plcAt L t (holdN L.length t)).2).2 = 0 then (xorS (xorS (T.read (plcAt L t k).1 (plcAt L t k).2).1 (T.read (plcAt L t (holdN L.length t)).1 (plcAt L t (holdN L.length t)).2).1) s, 0)
  else T.joinL (dataS L t (k : Int)) s false
section
variable {w0 W : World} {R : Nat → Prop} {q : Nat} {T : BankT}
set_option maxHeartbeats 2000000
set_option maxRecDepth 100000
theorem st_Plug (h : BK w0 R W q T) (u : T.Use) {v : Value} {L : List (Int × Int)} (hv : ESl W v L) (hN : Near L) (hl9 : L.length ≤ 900) (slot : Int) (t k : Nat) (h2 : 2 ≤ L.length) (ht : t < 8) (hk : k < L.length) (hs : splitX L.length slot = ((t : Int), (k : Int), 0)) {s : List Int} (hsec : IsSec s) :
    Calls Tryz.prog 30 #[.pointer (some ⟨q, 0, none⟩), v, .int .i64 slot, .agg (u8s s).toArray] W fun e w' => e = .returned (.tuple #[secV (T.plugL L t k s).1, .int .i64 (T.plugL L t k s).2]) ∧ Kept W w' := by
  have HB0 := Lib.hid h; have HU := Lib.hid u; have HV0 := Lib.hid hv; have HN := Lib.hid hN; have HSC := Lib.hid hsec
  have hlen := hN.1
  obtain ⟨oa, cap, hvv⟩ : ∃ oa cap, v = .slice oa L.length cap := by obtain ⟨oa, cap, e, _⟩ := hv; exact ⟨oa, cap, e⟩
  subst hvv
  have hsp := fun W => st_split oa L.length cap hlen slot W
  rw [hs] at hsp
  have HSP := Lib.hid hsp
  have HPL := Lib.hid fun (W : World) (he : ESl W (.slice oa L.length cap) L) (j : Nat) (hj : j < L.length) => st_place he hN hj t (by omega)
  have HHO := Lib.hid fun W => st_holder L.length t (by omega) hlen (by omega) W
  have hhd := holdN_lt (w := L.length) (by omega) t
  obtain ⟨res, rc, hres⟩ : ∃ res rc, T.plugL L t k s = (res, rc) := ⟨_, _, rfl⟩
  rw [hres]
  obtain ⟨⟨x, y⟩, hxy⟩ : ∃ p, plcAt L t k = p := ⟨_, rfl⟩
  obtain ⟨⟨px, py⟩, hpq⟩ : ∃ p, plcAt L t (holdN L.length t) = p := ⟨_, rfl⟩
  obtain ⟨sx, c, hr⟩ : ∃ sx c, T.read x y = (sx, c) := ⟨_, _, rfl⟩
  obtain ⟨sp, cp, hrp⟩ : ∃ sx c, T.read px py = (sx, c) := ⟨_, _, rfl⟩
  have HRES : Hid ((if c ≠ 0 ∧ lostB c = false then (zeroB, c) else if cp ≠ 0 ∧ lostB cp = false then (zeroB, cp) else if c = 0 ∧ cp = 0 then (xorS (xorS sx sp) s, 0) else T.joinL (dataS L t (k : Int)) s false) = (res, rc)) := Lib.hid (by
    have := hres
    unfold BankT.plugL at this
    simp only [hxy, hpq, hr, hrp] at this
    exact this)
  have HPK : Hid (∀ W : World, ESl W (.slice oa L.length cap) L → Calls Tryz.prog 53 #[.slice oa L.length cap, .int .i64 (k : Int), .int .i64 (t : Int)] W fun e w' => e = .returned (.agg #[.int .i64 x, .int .i64 y]) ∧ Kept W w') := Lib.hid fun W he => by
    have := HPL.out W he k hk
    rw [hxy] at this; exact this
  have HPP : Hid (∀ W : World, ESl W (.slice oa L.length cap) L → Calls Tryz.prog 53 #[.slice oa L.length cap, .int .i64 (holdN L.length t : Int), .int .i64 (t : Int)] W fun e w' => e = .returned (.agg #[.int .i64 px, .int .i64 py]) ∧ Kept W w') := Lib.hid fun W he => by
    have := HPL.out W he _ hhd
    rw [hpq] at this; exact this
  have HRD := Lib.hid hr; have HRP := Lib.hid hrp
  have HSX : Hid (IsSec sx) := Lib.hid (by have := BankT.read_sec u.inv x y; rw [hr] at this; exact this)
  have HSP2 : Hid (IsSec sp) := Lib.hid (by have := BankT.read_sec u.inv px py; rw [hrp] at this; exact this)
  clear h u hv hN hsp hres hxy hpq hr hrp hsec HPL
  generalize holdN L.length t = hd at *
  refine (callsIn_wide (n := 12)).1 ?_
  refine callsIn_of_wp_marks Tryz.func30 rfl trivial ?_ rfl
  simp only [Tryz.ntmps30, List.size_toArray, List.length_cons, List.length_nil, Nat.reduceAdd, Nat.reduceSub, Array.replicate_succ, Array.replicate_zero, List.push_toArray, List.append_toArray, List.nil_append, List.cons_append]
  refine wpIn_wide.2 ?_
  go_wp2_with (refine stop_at (o := ⟨some 7, _, _, _, _, _⟩) ?_)
  refine Stop.mk ?_
  refine wpList_box_row rfl _ _ rfl (u8s s) rfl ?_
  intro w1 hz hs hk
  have HS1 := hz
  have HB1 := Lib.hid ((HB0.out.kept hk).1)
  have HV1 := Lib.hid (HV0.out.kept hk)
  have GE_Ob := Lib.hid (Nat.le_refl W.heap.size)
  have HK1 := Lib.hid hk
  generalize W.heap.size = Ob at *
  clear HB0 HV0 hz hs hk
  go_wp2_with (refine stop_at (o := ⟨some 8, _, _, _, _, _⟩) ?_)
  refine Stop.mk ?_
  refine wpList_alloc_abs rfl 43 rfl (u8s zeroB) zero_sec ?_
  intro w2 hz hs hn hk
  have HR2 := hz
  have HB2 := Lib.hid ((HB1.out.kept hk).1)
  have HV2 := Lib.hid (HV1.out.kept hk)
  have HK2 := Lib.hid (HK1.out.trans hk)
  have HS2 := Lib.hid (hk.block HS1.out)
  have GE_Rb := Lib.hid (HK1.out.size)
  generalize w1.heap.size = Rb at *
  clear HB1 HV1 HK1 HS1 hz hs hk hn
  go_wp2_with fail
  refine Calls.mono (HSP.out _) ?_
  rintro e w3 ⟨rfl, hk⟩
  have HB3 := Lib.hid ((HB2.out.kept hk).1)
  have HV3 := Lib.hid (HV2.out.kept hk)
  have HK3 := Lib.hid (HK2.out.trans hk)
  have HS3 := Lib.hid (hk.block HS2.out)
  have HR3 := Lib.hid (hk.block HR2.out)
  clear HB2 HV2 HK2 HS2 HR2 hk HSP
  go_wp2_with fail
  refine Calls.mono (HPK.out _ HV3.out) ?_
  rintro e w4 ⟨rfl, hk⟩
  have HB4 := Lib.hid ((HB3.out.kept hk).1)
  have HV4 := Lib.hid (HV3.out.kept hk)
  have HK4 := Lib.hid (HK3.out.trans hk)
  have HS4 := Lib.hid (hk.block HS3.out)
  have HR4 := Lib.hid (hk.block HR3.out)
  clear HB3 HV3 HK3 HS3 HR3 hk HPK
  go_wp2_with fail
  refine Calls.mono (st_read HB4.out HU.out x y HRD.out) ?_
  rintro e w5 ⟨rfl, _, hk⟩
  have HB5 := Lib.hid ((HB4.out.kept hk).1)
  have HV5 := Lib.hid (HV4.out.kept hk)
  have HK5 := Lib.hid (HK4.out.trans hk)
  have HS5 := Lib.hid (hk.block HS4.out)
  have HR5 := Lib.hid (hk.block HR4.out)
  clear HB4 HV4 HK4 HS4 HR4 hk 
  go_wp2_with (refine stop_at (o := ⟨some 13, _, _, _, _, _⟩) ?_)
  refine Stop.mk ?_
  refine wpList_new_row rfl rfl _ _ rfl rfl ty_sec (u8s zeroB) zero_sec (by rw [u8s_length, zeroB_length]) (u8s sx) rfl (by rw [u8s_length, HSX.out.1]) (u8s_one _) rfl ?_
  intro w6 hz hs hk
  have HX6 := hz
  have HB6 := Lib.hid ((HB5.out.kept hk).1)
  have HV6 := Lib.hid (HV5.out.kept hk)
  have HK6 := Lib.hid (HK5.out.trans hk)
  have HS6 := Lib.hid (hk.block HS5.out)
  have HR6 := Lib.hid (hk.block HR5.out)
  have GE_Xb := Lib.hid (HK5.out.size)
  generalize w5.heap.size = Xb at *
  clear HB5 HV5 HK5 HS5 HR5 hz hs hk
  by_cases hc0 : c = 0
  · subst hc0
    go_wp2_with fail
    refine Calls.mono (HHO.out _) ?_
    rintro e w' ⟨rfl, rfl⟩
    clear HHO
    go_wp2_with fail
    refine Calls.mono (HPP.out _ HV6.out) ?_
    rintro e w7 ⟨rfl, hk⟩
    have HB7 := Lib.hid ((HB6.out.kept hk).1)
    have HV7 := Lib.hid (HV6.out.kept hk)
    have HK7 := Lib.hid (HK6.out.trans hk)
    have HS7 := Lib.hid (hk.block HS6.out)
    have HR7 := Lib.hid (hk.block HR6.out)
    have HX7 := Lib.hid (hk.block HX6.out)
    clear HB6 HV6 HK6 HS6 HR6 HX6 hk HPP
    go_wp2_with fail
    refine Calls.mono (st_read HB7.out HU.out px py HRP.out) ?_
    rintro e w8 ⟨rfl, _, hk⟩
    have HB8 := Lib.hid ((HB7.out.kept hk).1)
    have HV8 := Lib.hid (HV7.out.kept hk)
    have HK8 := Lib.hid (HK7.out.trans hk)
    have HS8 := Lib.hid (hk.block HS7.out)
    have HR8 := Lib.hid (hk.block HR7.out)
    have HX8 := Lib.hid (hk.block HX7.out)
    clear HB7 HV7 HK7 HS7 HR7 HX7 hk 
    go_wp2_with (refine stop_at (o := ⟨some 14, _, _, _, _, _⟩) ?_)
    refine Stop.mk ?_
    refine wpList_new_row rfl rfl _ _ rfl rfl ty_sec (u8s zeroB) zero_sec (by rw [u8s_length, zeroB_length]) (u8s sp) rfl (by rw [u8s_length, HSP2.out.1]) (u8s_one _) rfl ?_
    intro w9 hz hs hk
    have HY9 := hz
    have HB9 := Lib.hid ((HB8.out.kept hk).1)
    have HV9 := Lib.hid (HV8.out.kept hk)
    have HK9 := Lib.hid (HK8.out.trans hk)
    have HS9 := Lib.hid (hk.block HS8.out)
    have HR9 := Lib.hid (hk.block HR8.out)
    have HX9 := Lib.hid (hk.block HX8.out)
    have GE_Yb := Lib.hid (HK8.out.size)
    generalize w8.heap.size = Yb at *
    clear HB8 HV8 HK8 HS8 HR8 HX8 hz hs hk
    by_cases hp0 : cp = 0
    · subst hp0
      have hj : (xorS (xorS sx sp) s, (0 : Int)) = (res, rc) := by rw [← HRES.out]; simp
      injection hj with hj1 hj2
      subst hj1
      subst hj2
      have HL := Lib.hid (xorS_sec (xorS_sec HSX.out HSP2.out) HSC.out).1
      clear HRES
      go_wp2_with (refine stop_at (o := ⟨some 76, _, _, _, _, _⟩) ?_)
      refine Stop.mk ?_
      refine wpList_load_agg rfl _ rfl ty_sec Xb 0 rfl (u8s sx) (by simpa using Cells.of_block HX9.out) (by rw [u8s_length, HSX.out.1]) ?_
      go_wp2_with (refine stop_at (o := ⟨some 77, _, _, _, _, _⟩) ?_)
      refine Stop.mk ?_
      refine wpList_load_agg rfl _ rfl ty_sec Yb 0 rfl (u8s sp) (by simpa using Cells.of_block HY9.out) (by rw [u8s_length, HSP2.out.1]) ?_
      go_wp2_with (refine stop_at (o := ⟨some 78, _, _, _, _, _⟩) ?_)
      refine Stop.mk ?_
      refine wpList_load_agg rfl _ rfl ty_sec Ob 0 rfl (u8s s) (by simpa using Cells.of_block HS9.out) (by rw [u8s_length, HSC.out.1]) ?_
      go_wp2_with fail
      refine Calls.mono (parity_Plug HSX.out HSP2.out HSC.out _) ?_
      rintro e w10 ⟨rfl, hk⟩
      have HB10 := Lib.hid ((HB9.out.kept hk).1)
      have HV10 := Lib.hid (HV9.out.kept hk)
      have HK10 := Lib.hid (HK9.out.trans hk)
      have HS10 := Lib.hid (hk.block HS9.out)
      have HR10 := Lib.hid (hk.block HR9.out)
      have HX10 := Lib.hid (hk.block HX9.out)
      have HY10 := Lib.hid (hk.block HY9.out)
      clear HB9 HV9 HK9 HS9 HR9 HX9 HY9 hk 
      go_wp2_with (refine stop_at (o := ⟨none, .store _ _ _, _, _, _, _⟩) ?_)
      refine Stop.mk ?_
      refine wpList_store_agg rfl _ _ rfl ty_sec Rb 0 rfl (u8s (xorS (xorS sx sp) s)) rfl (by rw [u8s_length, HL.out]) (u8s_one _) _ _ HR10.out (by rw [u8s_length, zeroB_length]; decide) ?_
      intro wz hw
      replace hw := hw.all (by simp [u8s_length, zeroB_length, HL.out])
      have HW := Lib.hid hw
      have HKZ : Hid (Kept W wz) := Lib.hid (hw.kept HK10.out (by have := GE_Rb.out; have := GE_Ob.out; omega))
      clear hw
      go_wp2
      refine ⟨_, results_sec rfl _ _ Rb (xorS (xorS sx sp) s) rfl HW.out.cells (HL.out), ?_⟩
      exact ⟨rfl, HKZ.out⟩
    · skip
      have t1 : (cp != 0) = true := by simpa using hp0
      have t2 : (cp == 0) = false := by simpa using hp0
      go_wp2_with fail
      refine Calls.mono (st_lost cp _) ?_
      rintro e w' ⟨rfl, rfl⟩
      by_cases hlost : lostB cp = true
      · rw [hlost]
        have hj : T.joinL (dataS L t (k : Int)) s false = (res, rc) := by rw [← HRES.out]; simp [hp0, hlost]
        have HJ := Lib.hid hj
        clear hj HRES
        go_wp2_with fail
        refine Calls.mono ((callsIn_wide (n := 12)).1 (data_in 12 _ _ _ _ _ _)) ?_
        rintro e w' ⟨rfl, rfl⟩
        go_wp2
        refine (wpIn_wide (n := 12)).1 ?_
        generalize w9 = w at *
        obtain ⟨S, hS⟩ : ∃ S, w.heap.size = S := ⟨_, rfl⟩
        have bO := Boxed.new w 39 (.slice none 0 0)
        have b1 := Boxed.new (w.alloc (.cells #[.slice none 0 0] 39)) 22 (.slice oa L.length cap)
        have b2 := Boxed.new ((w.alloc (.cells #[.slice none 0 0] 39)).alloc (.cells #[.slice oa L.length cap] 22)) 3 (.int .i64 (t : Int))
        have b3 := Boxed.new (((w.alloc (.cells #[.slice none 0 0] 39)).alloc (.cells #[.slice oa L.length cap] 22)).alloc (.cells #[.int .i64 (t : Int)] 3)) 3 (.int .i64 (k : Int))
        simp only [World.size_alloc] at b1 b2 b3
        have hB0 : Kept w ((((w.alloc (.cells #[.slice none 0 0] 39)).alloc (.cells #[.slice oa L.length cap] 22)).alloc (.cells #[.int .i64 (t : Int)] 3)).alloc (.cells #[.int .i64 (k : Int)] 3)) := ((((Kept.refl w).alloc _).alloc _).alloc _).alloc _
        have hsz : ((((w.alloc (.cells #[.slice none 0 0] 39)).alloc (.cells #[.slice oa L.length cap] 22)).alloc (.cells #[.int .i64 (t : Int)] 3)).alloc (.cells #[.int .i64 (k : Int)] 3)).heap.size = w.heap.size + 4 := by simp
        have bO' := ((bO.alloc (.cells #[.slice oa L.length cap] 22)).alloc (.cells #[.int .i64 (t : Int)] 3)).alloc (.cells #[.int .i64 (k : Int)] 3)
        have b1' := (b1.alloc (.cells #[.int .i64 (t : Int)] 3)).alloc (.cells #[.int .i64 (k : Int)] 3)
        have b2' := b2.alloc (.cells #[.int .i64 (k : Int)] 3)
        obtain ⟨W0, hW0⟩ : ∃ W0, ((((w.alloc (.cells #[.slice none 0 0] 39)).alloc (.cells #[.slice oa L.length cap] 22)).alloc (.cells #[.int .i64 (t : Int)] 3)).alloc (.cells #[.int .i64 (k : Int)] 3)) = W0 := ⟨_, rfl⟩
        rw [hW0] at bO' b1' b2' b3 hB0 hsz ⊢
        clear hW0 bO b1 b2
        have hES := HV9.out.sb.below hB0
        have HK0 := Lib.hid hB0
        clear hB0
        rw [hS] at bO' b1' b2' b3 hsz hES ⊢
        refine wpIn_rangeFunc_ownH (F := Fence.wide) rfl (by decide) (gf := 84) (lb := #[.pointer (some ⟨S + 1, 0, none⟩), .pointer (some ⟨S + 1 + 1, 0, none⟩), .pointer (some ⟨S + 1 + 2, 0, none⟩)]) rfl trivial (enters_of Tryz.func84 (by kernel_rfl) rfl)
          (data_stops 11 (by decide) (S + 1) S HN.out (by omega) t (by omega) (k : Int) W0 (by omega) (by omega) b1'.cell b2'.cell b3.cell hES) (fun h k => h.trans k) (kd_b (by omega) (by omega)) (Below.refl _ _) (fun _ => rfl)
          (fun pre W => (∃ v, Boxed W S 39 v ∧ W.ownsRow (S + 4) 47 2 v pre.length (evals pre) ∧ True) ∧ Below S W0 W)
          (fun _ _ _ => False)
          (OwnFrom.and (Own.from (holdsRow_own (S + 4) S 39 47 2 (fun pre => pre.length) (fun pre => evals pre) (fun _ _ => True)) _) (ownFrom_below (by omega) (by omega)))
          (fun _ _ _ _ _ hs _ _ => hs)
          ⟨⟨_, bO', World.ownsRow_nil _ _ _ _, trivial⟩, Below.refl _ _⟩
          (fun zz a' W => ∃ Bx, S + 4 ≤ Bx ∧ W.heap[Bx]? = some (.cells #[.int .i64 zz.1, .int .i64 zz.2] 47 (0, 0)) ∧ a' = { tmps := #[.pointer (some ⟨q, 0, none⟩), .slice oa L.length cap, .int .i64 slot, .agg (u8s s).toArray, undef, undef, undef, .pointer (some ⟨Ob, 0, none⟩), .pointer (some ⟨Rb, 0, none⟩), .int .i64 0, .int .i64 (t : Int), .int .i64 (k : Int), .int .i64 0, .pointer (some ⟨Xb, 0, none⟩), .pointer (some ⟨Yb, 0, none⟩), .int .i64 cp, .pointer (some ⟨S, 0, none⟩), .pointer (some ⟨Bx, 0, none⟩), .tuple #[.int .i64 (t : Int), .int .i64 (k : Int), .int .i64 0], .slice oa L.length cap, .int .i64 slot, .tuple #[.int .i64 (t : Int), .int .i64 (k : Int), .int .i64 0], .int .i64 (t : Int), .int .i64 (k : Int), .int .i64 0, .int .i64 0, .bool false, undef, undef, .tuple #[.agg (u8s sx).toArray, .int .i64 0], .pointer (some ⟨q, 0, none⟩), .slice oa L.length cap, .int .i64 (k : Int), .int .i64 (t : Int), .agg #[.int .i64 x, .int .i64 y], .tuple #[.agg (u8s sx).toArray, .int .i64 0], .agg (u8s sx).toArray, .int .i64 0, .int .i64 0, .bool false, .bool false, undef, undef, undef, .bool false, undef, undef, .tuple #[.agg (u8s sp).toArray, .int .i64 cp], .pointer (some ⟨q, 0, none⟩), .slice oa L.length cap, .slice oa L.length cap, .int .i64 (L.length : Int), .int .i64 (t : Int), .int .i64 (hd : Int), .int .i64 (t : Int), .agg #[.int .i64 px, .int .i64 py], .tuple #[.agg (u8s sp).toArray, .int .i64 cp], .agg (u8s sp).toArray, .int .i64 cp, .bool false, .int .i64 cp, .bool true, .bool true, .int .i64 cp, .bool true, .bool false, .bool false, undef, undef, .bool false, .int .i64 0, .bool true, .bool true, .int .i64 cp, .bool false, .bool false, undef, undef, undef, undef, .slice oa L.length cap, .int .i64 (t : Int), .int .i64 (k : Int), .func (.func 84) #[] #[.pointer (some ⟨S + 1, 0, none⟩), .pointer (some ⟨S + 1 + 1, 0, none⟩), .pointer (some ⟨S + 1 + 2, 0, none⟩)], .agg #[.int .i64 zz.1, .int .i64 zz.2], undef, undef, undef, undef, undef, undef, undef, undef, undef, undef], defers := [] })
          (fun x a' _ X Y row hs hg hr => by
            obtain ⟨Bx, h1, h2, h3⟩ := hs
            refine ⟨Bx, h1, (hg.block Bx (Array.getElem?_eq_some_iff.1 h2).1 (fun e => ?_)).trans h2, h3⟩
            obtain ⟨_, o, ho, hc⟩ := hr Bx e.symm
            rw [h2] at ho; cases ho; cases hc)
          ?assign ?body ?done ?stop
        case assign =>
          rintro l pre x V K ⟨⟨v, bV, hrow, _⟩, hB⟩ hK
          gi_wp2
          have h4 : S + 4 ≤ V.heap.size := hsz ▸ hB.size
          exact hK _ _ ((KeepsOthers.alloc _ _).from _) (Kd.kept ((Kept.refl V).alloc _) (by omega)) ⟨⟨v, bV.alloc _, hrow.alloc _, trivial⟩, hB.alloc (by omega) _⟩ ⟨V.heap.size, h4, World.alloc_heap_new V _, rfl⟩
        case body =>
          rintro l pre zz a' V hl ⟨r, hr⟩ ⟨⟨v, bV, hrow, _⟩, hB⟩ ⟨Bx, hBx, bX, rfl⟩ hlt
          have hc := bV.cell
          have h4 : S + 4 ≤ V.heap.size := hsz ▸ hB.size
          have p0 : V.cell? ⟨Bx, 0, none⟩ = some (.int .i64 zz.1) := cell_of_row _ _ 0 _ _ _ bX
          have p1 : V.cell? ⟨Bx, 1, none⟩ = some (.int .i64 zz.2) := cell_of_row _ _ 1 _ _ _ bX
          obtain ⟨ht, ⟨i0, z0, hi, hz, hsz', hby, hzs⟩, hpos⟩ := ty_places2
          have HT := Lib.hid ht; have HI := Lib.hid hi; have HZ := Lib.hid hz; have HSZ := Lib.hid hsz'; have HBY := Lib.hid hby; have HZS := Lib.hid hzs
          clear ht hi hz hsz' hby hzs hpos
          gi_wp2_with (refine stop_atIn (o := ⟨some 88, _, _, _, _, _⟩) ?_)
          refine Stop.mk ?_
          refine wpListIn_append_own _ rfl _ _ 39 rfl (S + 4) 47 i0 z0 2 16 HT.out HI.out HZ.out HSZ.out HBY.out HZS.out (by decide) _ _ _ rfl (hrow.alloc _) ⟨V.heap.size, 0, none⟩ 1 1 [.int .i64 zz.1, .int .i64 zz.2] rfl rfl (two_new _ _ _ _) (evals_one [zz]) (by have : maxLen = 9223372036854775807 := rfl; omega) (by omega) (by simp; omega) ?_
          intro v' w1 hown' hgrow _
          obtain ⟨g', cap', rfl⟩ := ownsRow_succ hown'
          obtain ⟨hv1, hv2, _, hk2, hb2⟩ := bV.appended (by decide) (ownsRow_base hrow (show S ≤ S + 4 by omega)) (by omega) (Nat.le_refl _) (ownsRow_base hown' (show S ≤ S + 4 by omega)) hgrow
          have hr3 := hown'.kept (grownBy_setCell' w1 S (.slice (some ⟨g', 0, none⟩) (pre.length + 1) cap')) (.inr (hv1.not_row (by decide) hown').symm)
          have hc1 := hv1.cell
          have hf1 := hv1.frozen
          have hkd : Kd S (S + 1) V (w1.setCell ⟨S, 0, none⟩ (.slice (some ⟨g', 0, none⟩) (pre.length + 1) cap')) := by
            refine ⟨hb2, fun k k1 k2 k3 => ?_⟩
            have hkw : k < w1.heap.size := Nat.lt_of_lt_of_le (by rw [World.size_alloc]; omega) hgrow.size
            rw [(grownBy_setCell' w1 S (.slice (some ⟨g', 0, none⟩) (pre.length + 1) cap')).block k hkw (fun e => by injection e with e; omega), hgrow.block k (by rw [World.size_alloc]; omega) (fun e => by have := row_ge hrow e.symm; omega)]
            exact Below.heap_alloc V _ k k3
          have HKF := Lib.hid hk2; have HKD := Lib.hid hkd; have HBB := Lib.hid hb2; have HR3 := Lib.hid hr3; have HV2 := Lib.hid hv2
          clear hk2 hkd hb2 hr3 hv2 hown' hgrow hrow
          gi_wp2
          exact ⟨HKF.out.from _, HKD.out, ⟨⟨_, HV2.out, by rw [List.length_append, evals_append]; exact HR3.out, trivial⟩, hB.trans HBB.out⟩⟩
        case done =>
          rintro D ys V hD rfl ⟨⟨v, bV, hrow, _⟩, hB⟩ hK
          have hc := bV.cell
          have hk : Kept w V := Below.trans (show Below w.heap.size w W0 from HK0.out) (by rw [hS]; exact hB)
          have HBn := Lib.hid (HB9.out.kept hk).1; have HSn := Lib.hid (hk.block HS9.out); have HRn := Lib.hid (hk.block HR9.out); have HKn := Lib.hid (HK9.out.trans hk)
          have HM := Lib.hid (ESl.of_owns rfl hrow)
          obtain ⟨oa', cap', rfl⟩ := ownsRow_form1 hrow
          have HDn := Lib.hid hK
          have HDS : Hid (W.heap.size ≤ D) := Lib.hid (by have := HK9.out.size; omega)
          have HDL : Hid ((dataS L t (k : Int)).length ≤ 1000) := Lib.hid (Nat.le_trans (dataTo_le L t (k : Int) L.length) hlen)
          have HSEC : Hid (res.length = 64) := Lib.hid (by
            have := joinL_sec HU.out.inv (dataS L t (k : Int)) s false HSC.out
            rw [HJ.out] at this
            exact this.1)
          clear hrow hB hk hK
          go_wp2_with (refine stop_at (o := ⟨some 91, _, _, _, _, _⟩) ?_)
          refine Stop.mk ?_
          refine wpList_load_agg rfl _ rfl ty_sec Ob 0 rfl (u8s s) (by simpa using Cells.of_block HSn.out) (by rw [u8s_length, HSC.out.1]) ?_
          go_wp2_with fail
          have hjn := st_joined HBn.out HU.out HM.out HDL.out HSC.out
          rw [HJ.out] at hjn
          refine Calls.mono hjn ?_
          rintro e w8 ⟨rfl, hk8⟩
          have HR8 := Lib.hid (hk8.block HRn.out); have HK8 := Lib.hid (HKn.out.trans hk8); have HD8 := Lib.hid (hk8.block HDn.out)
          clear hk8 HRn HSn HKn HM hjn HDn HBn
          have HNE : Hid (D ≠ Rb) := Lib.hid (fun e => by have h1 := HD8.out; rw [e, HR8.out] at h1; cases h1)
          go_wp2_with (refine stop_at (o := ⟨none, .store _ _ _, _, _, _, _⟩) ?_)
          refine Stop.mk ?_
          refine wpList_store_agg rfl _ _ rfl ty_sec Rb 0 rfl (u8s res) rfl (by rw [u8s_length, HSEC.out]) (u8s_one _) _ _ HR8.out (by rw [u8s_length, zeroB_length]; decide) ?_
          intro wz hw
          replace hw := hw.all (by simp [u8s_length, zeroB_length, HSEC.out])
          have HW := Lib.hid hw
          have HKZ : Hid (Kept W wz) := Lib.hid (hw.kept HK8.out (by have := GE_Rb.out; have := GE_Ob.out; omega))
          have HDZ := Lib.hid ((hw.oth D HNE.out).trans HD8.out)
          clear hw
          go_wp2
          refine ⟨by simp, .inl ⟨_, _, rfl, run_takeDeferred HDZ.out, ?_⟩⟩
          refine ⟨_, results_sec rfl _ _ Rb res rfl (fun j hj => (World.cell?_of_block (World.putObj_heap_other (Ne.symm HNE.out))).trans (HW.out.cells j hj)) HSEC.out, rfl, ?_⟩
          exact Below.trans HKZ.out (belowK_b (n₀ := W.heap.size) (w := W) (Nat.le_refl _) wz D _ _ HDS.out HDZ.out rfl rfl)
        case stop =>
          rintro D c pre V _ _ h _
          exact h.elim
      · have hlf : lostB cp = false := by simpa using hlost
        rw [hlf]
        have hj : (zeroB, cp) = (res, rc) := by rw [← HRES.out]; simp [hp0, hlf]
        injection hj with hj1 hj2
        subst hj1
        subst hj2
        clear HRES
        go_wp2_with (refine stop_at (o := ⟨some 67, _, _, _, _, _⟩) ?_)
        refine Stop.mk ?_
        refine wpList_zero_sec rfl rfl ?_
        go_wp2_with (refine stop_at (o := ⟨none, .store _ _ _, _, _, _, _⟩) ?_)
        refine Stop.mk ?_
        refine wpList_store_agg rfl _ _ rfl ty_sec Rb 0 rfl (u8s zeroB) rfl (by rw [u8s_length, zeroB_length]) (u8s_one _) _ _ HR9.out (by rw [u8s_length, zeroB_length]; decide) ?_
        intro wz hw
        replace hw := hw.all (by simp [u8s_length, zeroB_length, zeroB_length])
        have HW := Lib.hid hw
        have HKZ : Hid (Kept W wz) := Lib.hid (hw.kept HK9.out (by have := GE_Rb.out; have := GE_Ob.out; omega))
        clear hw
        go_wp2
        refine ⟨_, results_sec rfl _ _ Rb zeroB rfl HW.out.cells (zeroB_length), ?_⟩
        exact ⟨rfl, HKZ.out⟩
  · skip
    have t1 : (c != 0) = true := by simpa using hc0
    have t2 : (c == 0) = false := by simpa using hc0
    go_wp2_with fail
    refine Calls.mono (st_lost c _) ?_
    rintro e w' ⟨rfl, rfl⟩
    by_cases hlost : lostB c = true
    · rw [hlost]
      have hlost1 := hlost
      clear hlost
      go_wp2_with fail
      refine Calls.mono (HHO.out _) ?_
      rintro e w' ⟨rfl, rfl⟩
      clear HHO
      go_wp2_with fail
      refine Calls.mono (HPP.out _ HV6.out) ?_
      rintro e w7 ⟨rfl, hk⟩
      have HB7 := Lib.hid ((HB6.out.kept hk).1)
      have HV7 := Lib.hid (HV6.out.kept hk)
      have HK7 := Lib.hid (HK6.out.trans hk)
      have HS7 := Lib.hid (hk.block HS6.out)
      have HR7 := Lib.hid (hk.block HR6.out)
      have HX7 := Lib.hid (hk.block HX6.out)
      clear HB6 HV6 HK6 HS6 HR6 HX6 hk HPP
      go_wp2_with fail
      refine Calls.mono (st_read HB7.out HU.out px py HRP.out) ?_
      rintro e w8 ⟨rfl, _, hk⟩
      have HB8 := Lib.hid ((HB7.out.kept hk).1)
      have HV8 := Lib.hid (HV7.out.kept hk)
      have HK8 := Lib.hid (HK7.out.trans hk)
      have HS8 := Lib.hid (hk.block HS7.out)
      have HR8 := Lib.hid (hk.block HR7.out)
      have HX8 := Lib.hid (hk.block HX7.out)
      clear HB7 HV7 HK7 HS7 HR7 HX7 hk 
      go_wp2_with (refine stop_at (o := ⟨some 14, _, _, _, _, _⟩) ?_)
      refine Stop.mk ?_
      refine wpList_new_row rfl rfl _ _ rfl rfl ty_sec (u8s zeroB) zero_sec (by rw [u8s_length, zeroB_length]) (u8s sp) rfl (by rw [u8s_length, HSP2.out.1]) (u8s_one _) rfl ?_
      intro w9 hz hs hk
      have HY9 := hz
      have HB9 := Lib.hid ((HB8.out.kept hk).1)
      have HV9 := Lib.hid (HV8.out.kept hk)
      have HK9 := Lib.hid (HK8.out.trans hk)
      have HS9 := Lib.hid (hk.block HS8.out)
      have HR9 := Lib.hid (hk.block HR8.out)
      have HX9 := Lib.hid (hk.block HX8.out)
      have GE_Yb := Lib.hid (HK8.out.size)
      generalize w8.heap.size = Yb at *
      clear HB8 HV8 HK8 HS8 HR8 HX8 hz hs hk
      by_cases hp0 : cp = 0
      · subst hp0
        have hj : T.joinL (dataS L t (k : Int)) s false = (res, rc) := by rw [← HRES.out]; simp [hc0, hlost1]
        have HJ := Lib.hid hj
        clear hj HRES
        go_wp2_with fail
        refine Calls.mono ((callsIn_wide (n := 12)).1 (data_in 12 _ _ _ _ _ _)) ?_
        rintro e w' ⟨rfl, rfl⟩
        go_wp2
        refine (wpIn_wide (n := 12)).1 ?_
        generalize w9 = w at *
        obtain ⟨S, hS⟩ : ∃ S, w.heap.size = S := ⟨_, rfl⟩
        have bO := Boxed.new w 39 (.slice none 0 0)
        have b1 := Boxed.new (w.alloc (.cells #[.slice none 0 0] 39)) 22 (.slice oa L.length cap)
        have b2 := Boxed.new ((w.alloc (.cells #[.slice none 0 0] 39)).alloc (.cells #[.slice oa L.length cap] 22)) 3 (.int .i64 (t : Int))
        have b3 := Boxed.new (((w.alloc (.cells #[.slice none 0 0] 39)).alloc (.cells #[.slice oa L.length cap] 22)).alloc (.cells #[.int .i64 (t : Int)] 3)) 3 (.int .i64 (k : Int))
        simp only [World.size_alloc] at b1 b2 b3
        have hB0 : Kept w ((((w.alloc (.cells #[.slice none 0 0] 39)).alloc (.cells #[.slice oa L.length cap] 22)).alloc (.cells #[.int .i64 (t : Int)] 3)).alloc (.cells #[.int .i64 (k : Int)] 3)) := ((((Kept.refl w).alloc _).alloc _).alloc _).alloc _
        have hsz : ((((w.alloc (.cells #[.slice none 0 0] 39)).alloc (.cells #[.slice oa L.length cap] 22)).alloc (.cells #[.int .i64 (t : Int)] 3)).alloc (.cells #[.int .i64 (k : Int)] 3)).heap.size = w.heap.size + 4 := by simp
        have bO' := ((bO.alloc (.cells #[.slice oa L.length cap] 22)).alloc (.cells #[.int .i64 (t : Int)] 3)).alloc (.cells #[.int .i64 (k : Int)] 3)
        have b1' := (b1.alloc (.cells #[.int .i64 (t : Int)] 3)).alloc (.cells #[.int .i64 (k : Int)] 3)
        have b2' := b2.alloc (.cells #[.int .i64 (k : Int)] 3)
        obtain ⟨W0, hW0⟩ : ∃ W0, ((((w.alloc (.cells #[.slice none 0 0] 39)).alloc (.cells #[.slice oa L.length cap] 22)).alloc (.cells #[.int .i64 (t : Int)] 3)).alloc (.cells #[.int .i64 (k : Int)] 3)) = W0 := ⟨_, rfl⟩
        rw [hW0] at bO' b1' b2' b3 hB0 hsz ⊢
        clear hW0 bO b1 b2
        have hES := HV9.out.sb.below hB0
        have HK0 := Lib.hid hB0
        clear hB0
        rw [hS] at bO' b1' b2' b3 hsz hES ⊢
        refine wpIn_rangeFunc_ownH (F := Fence.wide) rfl (by decide) (gf := 84) (lb := #[.pointer (some ⟨S + 1, 0, none⟩), .pointer (some ⟨S + 1 + 1, 0, none⟩), .pointer (some ⟨S + 1 + 2, 0, none⟩)]) rfl trivial (enters_of Tryz.func84 (by kernel_rfl) rfl)
          (data_stops 11 (by decide) (S + 1) S HN.out (by omega) t (by omega) (k : Int) W0 (by omega) (by omega) b1'.cell b2'.cell b3.cell hES) (fun h k => h.trans k) (kd_b (by omega) (by omega)) (Below.refl _ _) (fun _ => rfl)
          (fun pre W => (∃ v, Boxed W S 39 v ∧ W.ownsRow (S + 4) 47 2 v pre.length (evals pre) ∧ True) ∧ Below S W0 W)
          (fun _ _ _ => False)
          (OwnFrom.and (Own.from (holdsRow_own (S + 4) S 39 47 2 (fun pre => pre.length) (fun pre => evals pre) (fun _ _ => True)) _) (ownFrom_below (by omega) (by omega)))
          (fun _ _ _ _ _ hs _ _ => hs)
          ⟨⟨_, bO', World.ownsRow_nil _ _ _ _, trivial⟩, Below.refl _ _⟩
          (fun zz a' W => ∃ Bx, S + 4 ≤ Bx ∧ W.heap[Bx]? = some (.cells #[.int .i64 zz.1, .int .i64 zz.2] 47 (0, 0)) ∧ a' = { tmps := #[.pointer (some ⟨q, 0, none⟩), .slice oa L.length cap, .int .i64 slot, .agg (u8s s).toArray, undef, undef, undef, .pointer (some ⟨Ob, 0, none⟩), .pointer (some ⟨Rb, 0, none⟩), .int .i64 0, .int .i64 (t : Int), .int .i64 (k : Int), .int .i64 c, .pointer (some ⟨Xb, 0, none⟩), .pointer (some ⟨Yb, 0, none⟩), .int .i64 0, .pointer (some ⟨S, 0, none⟩), .pointer (some ⟨Bx, 0, none⟩), .tuple #[.int .i64 (t : Int), .int .i64 (k : Int), .int .i64 0], .slice oa L.length cap, .int .i64 slot, .tuple #[.int .i64 (t : Int), .int .i64 (k : Int), .int .i64 0], .int .i64 (t : Int), .int .i64 (k : Int), .int .i64 0, .int .i64 0, .bool false, undef, undef, .tuple #[.agg (u8s sx).toArray, .int .i64 c], .pointer (some ⟨q, 0, none⟩), .slice oa L.length cap, .int .i64 (k : Int), .int .i64 (t : Int), .agg #[.int .i64 x, .int .i64 y], .tuple #[.agg (u8s sx).toArray, .int .i64 c], .agg (u8s sx).toArray, .int .i64 c, .int .i64 c, .bool true, .bool true, .int .i64 c, .bool true, .bool false, .bool false, undef, undef, .tuple #[.agg (u8s sp).toArray, .int .i64 0], .pointer (some ⟨q, 0, none⟩), .slice oa L.length cap, .slice oa L.length cap, .int .i64 (L.length : Int), .int .i64 (t : Int), .int .i64 (hd : Int), .int .i64 (t : Int), .agg #[.int .i64 px, .int .i64 py], .tuple #[.agg (u8s sp).toArray, .int .i64 0], .agg (u8s sp).toArray, .int .i64 0, .bool false, .int .i64 0, .bool false, .bool false, undef, undef, undef, .bool false, undef, undef, .bool false, .int .i64 c, .bool false, .bool false, undef, undef, .bool false, undef, undef, undef, undef, .slice oa L.length cap, .int .i64 (t : Int), .int .i64 (k : Int), .func (.func 84) #[] #[.pointer (some ⟨S + 1, 0, none⟩), .pointer (some ⟨S + 1 + 1, 0, none⟩), .pointer (some ⟨S + 1 + 2, 0, none⟩)], .agg #[.int .i64 zz.1, .int .i64 zz.2], undef, undef, undef, undef, undef, undef, undef, undef, undef, undef], defers := [] })
          (fun x a' _ X Y row hs hg hr => by
            obtain ⟨Bx, h1, h2, h3⟩ := hs
            refine ⟨Bx, h1, (hg.block Bx (Array.getElem?_eq_some_iff.1 h2).1 (fun e => ?_)).trans h2, h3⟩
            obtain ⟨_, o, ho, hc⟩ := hr Bx e.symm
            rw [h2] at ho; cases ho; cases hc)
          ?assign ?body ?done ?stop
        case assign =>
          rintro l pre x V K ⟨⟨v, bV, hrow, _⟩, hB⟩ hK
          gi_wp2
          have h4 : S + 4 ≤ V.heap.size := hsz ▸ hB.size
          exact hK _ _ ((KeepsOthers.alloc _ _).from _) (Kd.kept ((Kept.refl V).alloc _) (by omega)) ⟨⟨v, bV.alloc _, hrow.alloc _, trivial⟩, hB.alloc (by omega) _⟩ ⟨V.heap.size, h4, World.alloc_heap_new V _, rfl⟩
        case body =>
          rintro l pre zz a' V hl ⟨r, hr⟩ ⟨⟨v, bV, hrow, _⟩, hB⟩ ⟨Bx, hBx, bX, rfl⟩ hlt
          have hc := bV.cell
          have h4 : S + 4 ≤ V.heap.size := hsz ▸ hB.size
          have p0 : V.cell? ⟨Bx, 0, none⟩ = some (.int .i64 zz.1) := cell_of_row _ _ 0 _ _ _ bX
          have p1 : V.cell? ⟨Bx, 1, none⟩ = some (.int .i64 zz.2) := cell_of_row _ _ 1 _ _ _ bX
          obtain ⟨ht, ⟨i0, z0, hi, hz, hsz', hby, hzs⟩, hpos⟩ := ty_places2
          have HT := Lib.hid ht; have HI := Lib.hid hi; have HZ := Lib.hid hz; have HSZ := Lib.hid hsz'; have HBY := Lib.hid hby; have HZS := Lib.hid hzs
          clear ht hi hz hsz' hby hzs hpos
          gi_wp2_with (refine stop_atIn (o := ⟨some 88, _, _, _, _, _⟩) ?_)
          refine Stop.mk ?_
          refine wpListIn_append_own _ rfl _ _ 39 rfl (S + 4) 47 i0 z0 2 16 HT.out HI.out HZ.out HSZ.out HBY.out HZS.out (by decide) _ _ _ rfl (hrow.alloc _) ⟨V.heap.size, 0, none⟩ 1 1 [.int .i64 zz.1, .int .i64 zz.2] rfl rfl (two_new _ _ _ _) (evals_one [zz]) (by have : maxLen = 9223372036854775807 := rfl; omega) (by omega) (by simp; omega) ?_
          intro v' w1 hown' hgrow _
          obtain ⟨g', cap', rfl⟩ := ownsRow_succ hown'
          obtain ⟨hv1, hv2, _, hk2, hb2⟩ := bV.appended (by decide) (ownsRow_base hrow (show S ≤ S + 4 by omega)) (by omega) (Nat.le_refl _) (ownsRow_base hown' (show S ≤ S + 4 by omega)) hgrow
          have hr3 := hown'.kept (grownBy_setCell' w1 S (.slice (some ⟨g', 0, none⟩) (pre.length + 1) cap')) (.inr (hv1.not_row (by decide) hown').symm)
          have hc1 := hv1.cell
          have hf1 := hv1.frozen
          have hkd : Kd S (S + 1) V (w1.setCell ⟨S, 0, none⟩ (.slice (some ⟨g', 0, none⟩) (pre.length + 1) cap')) := by
            refine ⟨hb2, fun k k1 k2 k3 => ?_⟩
            have hkw : k < w1.heap.size := Nat.lt_of_lt_of_le (by rw [World.size_alloc]; omega) hgrow.size
            rw [(grownBy_setCell' w1 S (.slice (some ⟨g', 0, none⟩) (pre.length + 1) cap')).block k hkw (fun e => by injection e with e; omega), hgrow.block k (by rw [World.size_alloc]; omega) (fun e => by have := row_ge hrow e.symm; omega)]
            exact Below.heap_alloc V _ k k3
          have HKF := Lib.hid hk2; have HKD := Lib.hid hkd; have HBB := Lib.hid hb2; have HR3 := Lib.hid hr3; have HV2 := Lib.hid hv2
          clear hk2 hkd hb2 hr3 hv2 hown' hgrow hrow
          gi_wp2
          exact ⟨HKF.out.from _, HKD.out, ⟨⟨_, HV2.out, by rw [List.length_append, evals_append]; exact HR3.out, trivial⟩, hB.trans HBB.out⟩⟩
        case done =>
          rintro D ys V hD rfl ⟨⟨v, bV, hrow, _⟩, hB⟩ hK
          have hc := bV.cell
          have hk : Kept w V := Below.trans (show Below w.heap.size w W0 from HK0.out) (by rw [hS]; exact hB)
          have HBn := Lib.hid (HB9.out.kept hk).1; have HSn := Lib.hid (hk.block HS9.out); have HRn := Lib.hid (hk.block HR9.out); have HKn := Lib.hid (HK9.out.trans hk)
          have HM := Lib.hid (ESl.of_owns rfl hrow)
          obtain ⟨oa', cap', rfl⟩ := ownsRow_form1 hrow
          have HDn := Lib.hid hK
          have HDS : Hid (W.heap.size ≤ D) := Lib.hid (by have := HK9.out.size; omega)
          have HDL : Hid ((dataS L t (k : Int)).length ≤ 1000) := Lib.hid (Nat.le_trans (dataTo_le L t (k : Int) L.length) hlen)
          have HSEC : Hid (res.length = 64) := Lib.hid (by
            have := joinL_sec HU.out.inv (dataS L t (k : Int)) s false HSC.out
            rw [HJ.out] at this
            exact this.1)
          clear hrow hB hk hK
          go_wp2_with (refine stop_at (o := ⟨some 91, _, _, _, _, _⟩) ?_)
          refine Stop.mk ?_
          refine wpList_load_agg rfl _ rfl ty_sec Ob 0 rfl (u8s s) (by simpa using Cells.of_block HSn.out) (by rw [u8s_length, HSC.out.1]) ?_
          go_wp2_with fail
          have hjn := st_joined HBn.out HU.out HM.out HDL.out HSC.out
          rw [HJ.out] at hjn
          refine Calls.mono hjn ?_
          rintro e w8 ⟨rfl, hk8⟩
          have HR8 := Lib.hid (hk8.block HRn.out); have HK8 := Lib.hid (HKn.out.trans hk8); have HD8 := Lib.hid (hk8.block HDn.out)
          clear hk8 HRn HSn HKn HM hjn HDn HBn
          have HNE : Hid (D ≠ Rb) := Lib.hid (fun e => by have h1 := HD8.out; rw [e, HR8.out] at h1; cases h1)
          go_wp2_with (refine stop_at (o := ⟨none, .store _ _ _, _, _, _, _⟩) ?_)
          refine Stop.mk ?_
          refine wpList_store_agg rfl _ _ rfl ty_sec Rb 0 rfl (u8s res) rfl (by rw [u8s_length, HSEC.out]) (u8s_one _) _ _ HR8.out (by rw [u8s_length, zeroB_length]; decide) ?_
          intro wz hw
          replace hw := hw.all (by simp [u8s_length, zeroB_length, HSEC.out])
          have HW := Lib.hid hw
          have HKZ : Hid (Kept W wz) := Lib.hid (hw.kept HK8.out (by have := GE_Rb.out; have := GE_Ob.out; omega))
          have HDZ := Lib.hid ((hw.oth D HNE.out).trans HD8.out)
          clear hw
          go_wp2
          refine ⟨by simp, .inl ⟨_, _, rfl, run_takeDeferred HDZ.out, ?_⟩⟩
          refine ⟨_, results_sec rfl _ _ Rb res rfl (fun j hj => (World.cell?_of_block (World.putObj_heap_other (Ne.symm HNE.out))).trans (HW.out.cells j hj)) HSEC.out, rfl, ?_⟩
          exact Below.trans HKZ.out (belowK_b (n₀ := W.heap.size) (w := W) (Nat.le_refl _) wz D _ _ HDS.out HDZ.out rfl rfl)
        case stop =>
          rintro D c pre V _ _ h _
          exact h.elim
      · skip
        have t1 : (cp != 0) = true := by simpa using hp0
        have t2 : (cp == 0) = false := by simpa using hp0
        go_wp2_with fail
        refine Calls.mono (st_lost cp _) ?_
        rintro e w' ⟨rfl, rfl⟩
        by_cases hlost : lostB cp = true
        · rw [hlost]
          have hj : T.joinL (dataS L t (k : Int)) s false = (res, rc) := by rw [← HRES.out]; simp [hc0, hlost1, hp0, hlost]
          have HJ := Lib.hid hj
          clear hj HRES
          go_wp2_with fail
          refine Calls.mono ((callsIn_wide (n := 12)).1 (data_in 12 _ _ _ _ _ _)) ?_
          rintro e w' ⟨rfl, rfl⟩
          go_wp2
          refine (wpIn_wide (n := 12)).1 ?_
          generalize w9 = w at *
          obtain ⟨S, hS⟩ : ∃ S, w.heap.size = S := ⟨_, rfl⟩
          have bO := Boxed.new w 39 (.slice none 0 0)
          have b1 := Boxed.new (w.alloc (.cells #[.slice none 0 0] 39)) 22 (.slice oa L.length cap)
          have b2 := Boxed.new ((w.alloc (.cells #[.slice none 0 0] 39)).alloc (.cells #[.slice oa L.length cap] 22)) 3 (.int .i64 (t : Int))
          have b3 := Boxed.new (((w.alloc (.cells #[.slice none 0 0] 39)).alloc (.cells #[.slice oa L.length cap] 22)).alloc (.cells #[.int .i64 (t : Int)] 3)) 3 (.int .i64 (k : Int))
          simp only [World.size_alloc] at b1 b2 b3
          have hB0 : Kept w ((((w.alloc (.cells #[.slice none 0 0] 39)).alloc (.cells #[.slice oa L.length cap] 22)).alloc (.cells #[.int .i64 (t : Int)] 3)).alloc (.cells #[.int .i64 (k : Int)] 3)) := ((((Kept.refl w).alloc _).alloc _).alloc _).alloc _
          have hsz : ((((w.alloc (.cells #[.slice none 0 0] 39)).alloc (.cells #[.slice oa L.length cap] 22)).alloc (.cells #[.int .i64 (t : Int)] 3)).alloc (.cells #[.int .i64 (k : Int)] 3)).heap.size = w.heap.size + 4 := by simp
          have bO' := ((bO.alloc (.cells #[.slice oa L.length cap] 22)).alloc (.cells #[.int .i64 (t : Int)] 3)).alloc (.cells #[.int .i64 (k : Int)] 3)
          have b1' := (b1.alloc (.cells #[.int .i64 (t : Int)] 3)).alloc (.cells #[.int .i64 (k : Int)] 3)
          have b2' := b2.alloc (.cells #[.int .i64 (k : Int)] 3)
          obtain ⟨W0, hW0⟩ : ∃ W0, ((((w.alloc (.cells #[.slice none 0 0] 39)).alloc (.cells #[.slice oa L.length cap] 22)).alloc (.cells #[.int .i64 (t : Int)] 3)).alloc (.cells #[.int .i64 (k : Int)] 3)) = W0 := ⟨_, rfl⟩
          rw [hW0] at bO' b1' b2' b3 hB0 hsz ⊢
          clear hW0 bO b1 b2
          have hES := HV9.out.sb.below hB0
          have HK0 := Lib.hid hB0
          clear hB0
          rw [hS] at bO' b1' b2' b3 hsz hES ⊢
          refine wpIn_rangeFunc_ownH (F := Fence.wide) rfl (by decide) (gf := 84) (lb := #[.pointer (some ⟨S + 1, 0, none⟩), .pointer (some ⟨S + 1 + 1, 0, none⟩), .pointer (some ⟨S + 1 + 2, 0, none⟩)]) rfl trivial (enters_of Tryz.func84 (by kernel_rfl) rfl)
            (data_stops 11 (by decide) (S + 1) S HN.out (by omega) t (by omega) (k : Int) W0 (by omega) (by omega) b1'.cell b2'.cell b3.cell hES) (fun h k => h.trans k) (kd_b (by omega) (by omega)) (Below.refl _ _) (fun _ => rfl)
            (fun pre W => (∃ v, Boxed W S 39 v ∧ W.ownsRow (S + 4) 47 2 v pre.length (evals pre) ∧ True) ∧ Below S W0 W)
            (fun _ _ _ => False)
            (OwnFrom.and (Own.from (holdsRow_own (S + 4) S 39 47 2 (fun pre => pre.length) (fun pre => evals pre) (fun _ _ => True)) _) (ownFrom_below (by omega) (by omega)))
            (fun _ _ _ _ _ hs _ _ => hs)
            ⟨⟨_, bO', World.ownsRow_nil _ _ _ _, trivial⟩, Below.refl _ _⟩
            (fun zz a' W => ∃ Bx, S + 4 ≤ Bx ∧ W.heap[Bx]? = some (.cells #[.int .i64 zz.1, .int .i64 zz.2] 47 (0, 0)) ∧ a' = { tmps := #[.pointer (some ⟨q, 0, none⟩), .slice oa L.length cap, .int .i64 slot, .agg (u8s s).toArray, undef, undef, undef, .pointer (some ⟨Ob, 0, none⟩), .pointer (some ⟨Rb, 0, none⟩), .int .i64 0, .int .i64 (t : Int), .int .i64 (k : Int), .int .i64 c, .pointer (some ⟨Xb, 0, none⟩), .pointer (some ⟨Yb, 0, none⟩), .int .i64 cp, .pointer (some ⟨S, 0, none⟩), .pointer (some ⟨Bx, 0, none⟩), .tuple #[.int .i64 (t : Int), .int .i64 (k : Int), .int .i64 0], .slice oa L.length cap, .int .i64 slot, .tuple #[.int .i64 (t : Int), .int .i64 (k : Int), .int .i64 0], .int .i64 (t : Int), .int .i64 (k : Int), .int .i64 0, .int .i64 0, .bool false, undef, undef, .tuple #[.agg (u8s sx).toArray, .int .i64 c], .pointer (some ⟨q, 0, none⟩), .slice oa L.length cap, .int .i64 (k : Int), .int .i64 (t : Int), .agg #[.int .i64 x, .int .i64 y], .tuple #[.agg (u8s sx).toArray, .int .i64 c], .agg (u8s sx).toArray, .int .i64 c, .int .i64 c, .bool true, .bool true, .int .i64 c, .bool true, .bool false, .bool false, undef, undef, .tuple #[.agg (u8s sp).toArray, .int .i64 cp], .pointer (some ⟨q, 0, none⟩), .slice oa L.length cap, .slice oa L.length cap, .int .i64 (L.length : Int), .int .i64 (t : Int), .int .i64 (hd : Int), .int .i64 (t : Int), .agg #[.int .i64 px, .int .i64 py], .tuple #[.agg (u8s sp).toArray, .int .i64 cp], .agg (u8s sp).toArray, .int .i64 cp, .bool false, .int .i64 cp, .bool true, .bool true, .int .i64 cp, .bool true, .bool false, .bool false, undef, undef, .bool false, .int .i64 c, .bool false, .bool false, undef, undef, .bool false, undef, undef, undef, undef, .slice oa L.length cap, .int .i64 (t : Int), .int .i64 (k : Int), .func (.func 84) #[] #[.pointer (some ⟨S + 1, 0, none⟩), .pointer (some ⟨S + 1 + 1, 0, none⟩), .pointer (some ⟨S + 1 + 2, 0, none⟩)], .agg #[.int .i64 zz.1, .int .i64 zz.2], undef, undef, undef, undef, undef, undef, undef, undef, undef, undef], defers := [] })
            (fun x a' _ X Y row hs hg hr => by
              obtain ⟨Bx, h1, h2, h3⟩ := hs
              refine ⟨Bx, h1, (hg.block Bx (Array.getElem?_eq_some_iff.1 h2).1 (fun e => ?_)).trans h2, h3⟩
              obtain ⟨_, o, ho, hc⟩ := hr Bx e.symm
              rw [h2] at ho; cases ho; cases hc)
            ?assign ?body ?done ?stop
          case assign =>
            rintro l pre x V K ⟨⟨v, bV, hrow, _⟩, hB⟩ hK
            gi_wp2
            have h4 : S + 4 ≤ V.heap.size := hsz ▸ hB.size
            exact hK _ _ ((KeepsOthers.alloc _ _).from _) (Kd.kept ((Kept.refl V).alloc _) (by omega)) ⟨⟨v, bV.alloc _, hrow.alloc _, trivial⟩, hB.alloc (by omega) _⟩ ⟨V.heap.size, h4, World.alloc_heap_new V _, rfl⟩
          case body =>
            rintro l pre zz a' V hl ⟨r, hr⟩ ⟨⟨v, bV, hrow, _⟩, hB⟩ ⟨Bx, hBx, bX, rfl⟩ hlt
            have hc := bV.cell
            have h4 : S + 4 ≤ V.heap.size := hsz ▸ hB.size
            have p0 : V.cell? ⟨Bx, 0, none⟩ = some (.int .i64 zz.1) := cell_of_row _ _ 0 _ _ _ bX
            have p1 : V.cell? ⟨Bx, 1, none⟩ = some (.int .i64 zz.2) := cell_of_row _ _ 1 _ _ _ bX
            obtain ⟨ht, ⟨i0, z0, hi, hz, hsz', hby, hzs⟩, hpos⟩ := ty_places2
            have HT := Lib.hid ht; have HI := Lib.hid hi; have HZ := Lib.hid hz; have HSZ := Lib.hid hsz'; have HBY := Lib.hid hby; have HZS := Lib.hid hzs
            clear ht hi hz hsz' hby hzs hpos
            gi_wp2_with (refine stop_atIn (o := ⟨some 88, _, _, _, _, _⟩) ?_)
            refine Stop.mk ?_
            refine wpListIn_append_own _ rfl _ _ 39 rfl (S + 4) 47 i0 z0 2 16 HT.out HI.out HZ.out HSZ.out HBY.out HZS.out (by decide) _ _ _ rfl (hrow.alloc _) ⟨V.heap.size, 0, none⟩ 1 1 [.int .i64 zz.1, .int .i64 zz.2] rfl rfl (two_new _ _ _ _) (evals_one [zz]) (by have : maxLen = 9223372036854775807 := rfl; omega) (by omega) (by simp; omega) ?_
            intro v' w1 hown' hgrow _
            obtain ⟨g', cap', rfl⟩ := ownsRow_succ hown'
            obtain ⟨hv1, hv2, _, hk2, hb2⟩ := bV.appended (by decide) (ownsRow_base hrow (show S ≤ S + 4 by omega)) (by omega) (Nat.le_refl _) (ownsRow_base hown' (show S ≤ S + 4 by omega)) hgrow
            have hr3 := hown'.kept (grownBy_setCell' w1 S (.slice (some ⟨g', 0, none⟩) (pre.length + 1) cap')) (.inr (hv1.not_row (by decide) hown').symm)
            have hc1 := hv1.cell
            have hf1 := hv1.frozen
            have hkd : Kd S (S + 1) V (w1.setCell ⟨S, 0, none⟩ (.slice (some ⟨g', 0, none⟩) (pre.length + 1) cap')) := by
              refine ⟨hb2, fun k k1 k2 k3 => ?_⟩
              have hkw : k < w1.heap.size := Nat.lt_of_lt_of_le (by rw [World.size_alloc]; omega) hgrow.size
              rw [(grownBy_setCell' w1 S (.slice (some ⟨g', 0, none⟩) (pre.length + 1) cap')).block k hkw (fun e => by injection e with e; omega), hgrow.block k (by rw [World.size_alloc]; omega) (fun e => by have := row_ge hrow e.symm; omega)]
              exact Below.heap_alloc V _ k k3
            have HKF := Lib.hid hk2; have HKD := Lib.hid hkd; have HBB := Lib.hid hb2; have HR3 := Lib.hid hr3; have HV2 := Lib.hid hv2
            clear hk2 hkd hb2 hr3 hv2 hown' hgrow hrow
            gi_wp2
            exact ⟨HKF.out.from _, HKD.out, ⟨⟨_, HV2.out, by rw [List.length_append, evals_append]; exact HR3.out, trivial⟩, hB.trans HBB.out⟩⟩
          case done =>
            rintro D ys V hD rfl ⟨⟨v, bV, hrow, _⟩, hB⟩ hK
            have hc := bV.cell
            have hk : Kept w V := Below.trans (show Below w.heap.size w W0 from HK0.out) (by rw [hS]; exact hB)
            have HBn := Lib.hid (HB9.out.kept hk).1; have HSn := Lib.hid (hk.block HS9.out); have HRn := Lib.hid (hk.block HR9.out); have HKn := Lib.hid (HK9.out.trans hk)
            have HM := Lib.hid (ESl.of_owns rfl hrow)
            obtain ⟨oa', cap', rfl⟩ := ownsRow_form1 hrow
            have HDn := Lib.hid hK
            have HDS : Hid (W.heap.size ≤ D) := Lib.hid (by have := HK9.out.size; omega)
            have HDL : Hid ((dataS L t (k : Int)).length ≤ 1000) := Lib.hid (Nat.le_trans (dataTo_le L t (k : Int) L.length) hlen)
            have HSEC : Hid (res.length = 64) := Lib.hid (by
              have := joinL_sec HU.out.inv (dataS L t (k : Int)) s false HSC.out
              rw [HJ.out] at this
              exact this.1)
            clear hrow hB hk hK
            go_wp2_with (refine stop_at (o := ⟨some 91, _, _, _, _, _⟩) ?_)
            refine Stop.mk ?_
            refine wpList_load_agg rfl _ rfl ty_sec Ob 0 rfl (u8s s) (by simpa using Cells.of_block HSn.out) (by rw [u8s_length, HSC.out.1]) ?_
            go_wp2_with fail
            have hjn := st_joined HBn.out HU.out HM.out HDL.out HSC.out
            rw [HJ.out] at hjn
            refine Calls.mono hjn ?_
            rintro e w8 ⟨rfl, hk8⟩
            have HR8 := Lib.hid (hk8.block HRn.out); have HK8 := Lib.hid (HKn.out.trans hk8); have HD8 := Lib.hid (hk8.block HDn.out)
            clear hk8 HRn HSn HKn HM hjn HDn HBn
            have HNE : Hid (D ≠ Rb) := Lib.hid (fun e => by have h1 := HD8.out; rw [e, HR8.out] at h1; cases h1)
            go_wp2_with (refine stop_at (o := ⟨none, .store _ _ _, _, _, _, _⟩) ?_)
            refine Stop.mk ?_
            refine wpList_store_agg rfl _ _ rfl ty_sec Rb 0 rfl (u8s res) rfl (by rw [u8s_length, HSEC.out]) (u8s_one _) _ _ HR8.out (by rw [u8s_length, zeroB_length]; decide) ?_
            intro wz hw
            replace hw := hw.all (by simp [u8s_length, zeroB_length, HSEC.out])
            have HW := Lib.hid hw
            have HKZ : Hid (Kept W wz) := Lib.hid (hw.kept HK8.out (by have := GE_Rb.out; have := GE_Ob.out; omega))
            have HDZ := Lib.hid ((hw.oth D HNE.out).trans HD8.out)
            clear hw
            go_wp2
            refine ⟨by simp, .inl ⟨_, _, rfl, run_takeDeferred HDZ.out, ?_⟩⟩
            refine ⟨_, results_sec rfl _ _ Rb res rfl (fun j hj => (World.cell?_of_block (World.putObj_heap_other (Ne.symm HNE.out))).trans (HW.out.cells j hj)) HSEC.out, rfl, ?_⟩
            exact Below.trans HKZ.out (belowK_b (n₀ := W.heap.size) (w := W) (Nat.le_refl _) wz D _ _ HDS.out HDZ.out rfl rfl)
          case stop =>
            rintro D c pre V _ _ h _
            exact h.elim
        · have hlf : lostB cp = false := by simpa using hlost
          rw [hlf]
          have hj : (zeroB, cp) = (res, rc) := by rw [← HRES.out]; simp [hp0, hlf, hc0, hlost1]
          injection hj with hj1 hj2
          subst hj1
          subst hj2
          clear HRES
          go_wp2_with (refine stop_at (o := ⟨some 67, _, _, _, _, _⟩) ?_)
          refine Stop.mk ?_
          refine wpList_zero_sec rfl rfl ?_
          go_wp2_with (refine stop_at (o := ⟨none, .store _ _ _, _, _, _, _⟩) ?_)
          refine Stop.mk ?_
          refine wpList_store_agg rfl _ _ rfl ty_sec Rb 0 rfl (u8s zeroB) rfl (by rw [u8s_length, zeroB_length]) (u8s_one _) _ _ HR9.out (by rw [u8s_length, zeroB_length]; decide) ?_
          intro wz hw
          replace hw := hw.all (by simp [u8s_length, zeroB_length, zeroB_length])
          have HW := Lib.hid hw
          have HKZ : Hid (Kept W wz) := Lib.hid (hw.kept HK9.out (by have := GE_Rb.out; have := GE_Ob.out; omega))
          clear hw
          go_wp2
          refine ⟨_, results_sec rfl _ _ Rb zeroB rfl HW.out.cells (zeroB_length), ?_⟩
          exact ⟨rfl, HKZ.out⟩
    · have hlf : lostB c = false := by simpa using hlost
      rw [hlf]
      have hj : (zeroB, c) = (res, rc) := by rw [← HRES.out]; simp [hc0, hlf]
      injection hj with hj1 hj2
      subst hj1
      subst hj2
      clear HRES
      go_wp2_with (refine stop_at (o := ⟨some 45, _, _, _, _, _⟩) ?_)
      refine Stop.mk ?_
      refine wpList_zero_sec rfl rfl ?_
      go_wp2_with (refine stop_at (o := ⟨none, .store _ _ _, _, _, _, _⟩) ?_)
      refine Stop.mk ?_
      refine wpList_store_agg rfl _ _ rfl ty_sec Rb 0 rfl (u8s zeroB) rfl (by rw [u8s_length, zeroB_length]) (u8s_one _) _ _ HR6.out (by rw [u8s_length, zeroB_length]; decide) ?_
      intro wz hw
      replace hw := hw.all (by simp [u8s_length, zeroB_length, zeroB_length])
      have HW := Lib.hid hw
      have HKZ : Hid (Kept W wz) := Lib.hid (hw.kept HK6.out (by have := GE_Rb.out; have := GE_Ob.out; omega))
      clear hw
      go_wp2
      refine ⟨_, results_sec rfl _ _ Rb zeroB rfl HW.out.cells (zeroB_length), ?_⟩
      exact ⟨rfl, HKZ.out⟩
end
end Go.Proofs.YtglplhmclfekfaaGreat
