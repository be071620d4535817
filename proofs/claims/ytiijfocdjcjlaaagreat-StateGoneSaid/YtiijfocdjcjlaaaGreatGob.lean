/- StateGone: the walk. -/
import Derived.Test.YtiijfocdjcjlaaaGreatGoa
import Derived.Test.YtiijfocdjcjlaaaGreatPsA
import Derived.Deep.QuietTactic
import Derived.BigQuiet
namespace Go.Proofs.YtiijfocdjcjlaaaGreat
open Go.RowKit Go.ChangeMaps Go.MapKept
set_option linter.unusedVariables false
set_option linter.unusedSimpArgs false
set_option maxRecDepth 100000
set_option maxHeartbeats 1000000
theorem flat_set2 : ∀ (l : List Mb) (i : Nat) (hi : i < l.length) (junk : List Value), (l.flatMap trip ++ junk).set (i * 3 + 2) (.int .i64 2) = (goneL l i).flatMap trip ++ junk
  | [], i, hi, junk => by cases hi
  | x :: l, 0, hi, junk => by simp [trip, goneL]
  | x :: l, i + 1, hi, junk => by
    have hi2 : i < l.length := by simpa using hi
    have ih := flat_set2 l i hi2 junk
    rw [gone_at hi2] at ih
    rw [gone_at hi]
    have e : (i + 1) * 3 + 2 = (i * 3 + 2) + 3 := by omega
    rw [e]
    simp only [List.flatMap_cons, trip, List.cons_append, List.nil_append, List.set_cons_succ, List.getElem_cons_succ]
    rw [ih]
theorem needed_succ (gs : List Grp) (d : Int) (k : Nat) (hk : k < gs.length) : neededB (gs.take (k + 1)) d = (neededB (gs.take k) d || gs[k].ext.any (fun x => x.1 == d)) := by
  unfold neededB
  rw [List.take_succ_eq_append_getElem hk, List.any_append]
  simp
theorem any_take_succ {α : Type} (p : α → Bool) (l : List α) (k : Nat) (hk : k < l.length) (b : Bool) : (b || (l.take (k + 1)).any p) = ((b || (l.take k).any p) || p l[k]) := by
  rw [List.take_succ_eq_append_getElem hk, List.any_append, Bool.or_assoc]
  simp
theorem law_gone (s : St) (sm sg sp sd : Value) (raw : List Gw) (x : Int) (w : World) (h : StI w s sm sg sp sd raw) :
    Calls Tryz.prog 7 #[.agg (stC s sm sg sp sd).toArray, .int .i64 x] w fun e w' => e = .returned (.bool true) ∧ Kept w w' := by
  have HH := Lib.hid h
  have HL := Lib.hid (stC_len h.plug sm sg sp sd)
  clear h
  go_enter Tryz.func7, Tryz.ntmps7
  go_wp2_with (refine stop_at (o := ⟨some 2, _, _, _, _, _⟩) ?_)
  refine Stop.mk ?_
  refine wpList_box_rowS rfl _ _ rfl (stC s sm sg sp sd) rfl ?_
  intro w1 hz1 hs1 hk1
  obtain ⟨X, hX⟩ : ∃ X, X = w.heap.size := ⟨_, rfl⟩
  rw [← hX] at hz1 ⊢
  have HX := Lib.hid (show w.heap.size = X from hX.symm)
  have HSH := Lib.hid (law_shown w1)
  have HZ1 := Lib.hid hz1.out
  have HK1 := Lib.hid hk1
  clear hz1 hs1 hk1 hX
  go_wp2_with fail
  refine Calls.mono HSH.out ?_
  rintro e w2 ⟨rfl, hk2⟩
  have HZ2 := Lib.hid (hk2.block HZ1.out)
  have HK2 := Lib.hid (HK1.out.trans hk2)
  clear hk2 HZ1 HK1 HSH
  go_wp2_with (refine stop_at (o := ⟨some 14, _, _, _, _, _⟩) ?_)
  refine Stop.mk ?_
  refine wpList_load_agg rfl _ rfl agT_state X 0 rfl _ (Cells.of_block HZ2.out) HL.out ?_
  have HCU := Lib.hid (law_cut s sm sg sp sd raw w2 (HH.out.kept HK2.out))
  go_wp2_with fail
  refine Calls.mono HCU.out ?_
  rintro e w3 ⟨sm3, sg3, sp3, sd3, raw3, rfl, hst, hk3⟩
  have HSTA := Lib.hid hst
  have HST := Lib.hid (hst w3 (But.refl _ _))
  have HZ3 := Lib.hid (hk3.block HZ2.out)
  have HK3 := Lib.hid (HK2.out.trans hk3)
  have hsz2 := HK2.out.size
  have HX2 := Lib.hid (show X < w2.heap.size from (Array.getElem?_eq_some_iff.1 HZ2.out).1)
  clear hst hk3 HZ2 HK2 HCU hsz2
  obtain ⟨t, ht⟩ : ∃ t, t = cutS s := ⟨_, rfl⟩
  rw [← ht] at HSTA HST ⊢
  clear ht
  have HL3 := Lib.hid (stC_len HST.out.plug sm3 sg3 sp3 sd3)
  have HO3 := Lib.hid (st_one HST.out)
  go_wp2_with (refine stop_at (o := ⟨none, .store _ _ _, _, _, _, _⟩) ?_)
  refine Stop.mk ?_
  refine wpList_store_agg rfl _ _ rfl agT_state X 0 rfl (stC t sm3 sg3 sp3 sd3) rfl HL3.out HO3.out _ _ HZ3.out (by rw [HL.out]; decide) ?_
  intro w4 hw4
  replace hw4 := hw4.all (by rw [HL3.out, HL.out])
  have hb4 : But (fun i => i = X) w3 w4 := But.wrote hw4 rfl
  have HZ4 := Lib.hid hw4.blk
  have HK4 := Lib.hid (But.to_kept HK3.out hb4 (fun i hi => by have := HX.out; omega))
  have HST4 := Lib.hid (HSTA.out w4 (hb4.mono (fun i hi => by have := HX2.out; omega)))
  clear hw4 hb4 HST HSTA HZ3 HK3 HX2
  go_wp2_with (refine stop_at (o := ⟨some 16, _, _, _, _, _⟩) ?_)
  refine Stop.mk ?_
  refine wpList_load_agg rfl _ rfl agT_state X 0 rfl _ (Cells.of_block HZ4.out) HL3.out ?_
  have HRI := Lib.hid (st_Right t sm3 sg3 sp3 sd3 raw3 w4 HST4.out)
  go_wp2_with fail
  refine Calls.mono HRI.out ?_
  rintro e w5 ⟨rfl, hk5⟩
  have HZ5 := Lib.hid (hk5.block HZ4.out)
  have HK5 := Lib.hid (HK4.out.trans hk5)
  have HST5 := Lib.hid (HST4.out.kept hk5)
  clear hk5 HZ4 HK4 HST4 HRI
  cases hri : rightS t with
  | false =>
    go_wp2
    go_ret
    exact ⟨rfl, HK5.out⟩
  | true =>
    have HRT := Lib.hid hri
    clear hri
    have hms3 := ((rightS_iff t).1 HRT.out).mslen
    have hlen3 : 3 ≤ t.ms.length ∧ t.ms.length ≤ 12 := by
      unfold inN at hms3
      simp only [Bool.and_eq_true, decide_eq_true_eq] at hms3
      omega
    clear hms3
    have HLR := Lib.hid HST5.out.rel.len
    have hgl : raw3.length ≤ 4096 := by rw [HLR.out]; exact HST5.out.lgs
    obtain ⟨om, cm, rfl, _⟩ := HST5.out.ms.form
    obtain ⟨og, cg, rfl, _⟩ := HST5.out.gs.form
    obtain ⟨op, cp, rfl, _⟩ := HST5.out.mp.form
    obtain ⟨od, cd, rfl, _⟩ := HST5.out.dirty.form
    obtain ⟨bm, offm, rfl, hbm, _⟩ := HST5.out.ms.at (k := 0) (by omega)
    have x1 : w5.cell? ⟨X, 1, none⟩ = some (.slice (some ⟨bm, offm, none⟩) t.ms.length cm) := (stv_cells (Cells.of_block HZ5.out)).2.1
    have HSRC := Lib.hid (RSl.src trip_len HST5.out.ms)
    have hka : ∀ o, Kept w5 (w5.alloc o) := fun o => (Kept.refl _).alloc o
    have hones : ∀ u ∈ t.ms.flatMap trip, u.oneCell' = true := by
      intro u hu
      simp only [List.mem_flatMap] at hu
      obtain ⟨x, hx, hu⟩ := hu
      simp only [trip, List.mem_cons, List.not_mem_nil, or_false] at hu
      rcases hu with rfl | rfl | rfl <;> rfl
    have HONES := Lib.hid hones
    clear hones
    have hXlt := World.block_lt_of_cell? _ _ x1
    go_wp2_with (at_builtin; refine stop_at ?_)
    refine Stop.mk ?_
    refine wpList_append_app _ rfl _ _ rfl tyE_m w5.heap.size (.slice (some ⟨w5.heap.size, 0, none⟩) 0 0) 0 [] rfl (.inr ⟨rfl, _, rfl, by simp, by simp⟩) _ t.ms.length (t.ms.flatMap trip) rfl (HSRC.out.kept (hka _)) HONES.out (by simp only [maxLen]; omega) (by omega) (by simp) ?_
    intro v' w6 _ _ hb hown
    have hown' := hown (.inl (by omega))
    rw [Nat.zero_add, List.nil_append] at hown'
    have hk6 : Kept w5 w6 := (hka _).below (Nat.le_refl _) hb
    obtain ⟨L, cl, junk, rfl, hL1, hL2, hRB, hj, hc, hmx⟩ := (own_of_row hown' (by omega)).blk (by omega)
    have HRB := Lib.hid hRB
    have HZ6 := Lib.hid (hk6.block HZ5.out)
    have HK6 := Lib.hid (HK5.out.trans hk6)
    have HST6 := Lib.hid (HST5.out.kept hk6)
    have HK56 := Lib.hid hk6
    have HLB := Lib.hid (show w.heap.size ≤ L by have := HK5.out.size; omega)
    have HXL := Lib.hid (show X < L by have := (Array.getElem?_eq_some_iff.1 HZ5.out).1; omega)
    clear hb hown hown' hXlt hk6 hRB hka x1 HZ5 HK5 HSRC HONES
    obtain ⟨y, hy⟩ : ∃ y : Nat, bits BinOp.and IntKind.i64 x 255 = (y : Int) := ⟨(x % 256).toNat, by
      have h1 := i64_and_mask x 8 (by decide)
      have h2 : (2 : Int) ^ 8 - 1 = 255 := by decide
      rw [h2] at h1
      rw [h1]
      have h3 : (2 : Int) ^ 8 = 256 := by decide
      rw [h3]; omega⟩
    obtain ⟨n, hn⟩ : ∃ n, n = t.ms.length := ⟨_, rfl⟩
    rw [← hn] at hlen3 hj hc ⊢
    have HN := Lib.hid hn
    clear hn
    obtain ⟨i, hi⟩ : ∃ i, i = y % n := ⟨_, rfl⟩
    have hil : i < n := by rw [hi]; exact Nat.mod_lt _ (by omega)
    have him : (y : Int).tmod (n : Int) = (i : Int) := by rw [hi]; rfl
    have hn0 : ((n : Int) == 0) = false := by simp; omega
    have hn1 : ((n : Int) == -1) = false := by simp
    clear hi
    have HI := Lib.hid (show i < t.ms.length by rw [← HN.out]; exact hil)
    obtain ⟨d, hd⟩ : ∃ d, d = (t.ms[i]'HI.out).1 := ⟨_, rfl⟩
    have HD := Lib.hid hd
    have ld : w6.cell? ⟨L, i * 3, none⟩ = some (.int .i64 d) := by
      have := (HRB.out.cells trip_len HI.out) 0 (by rw [trip_len]; decide)
      simp only [trip, List.getElem_cons_zero, Nat.add_zero] at this
      rw [hd]; exact this
    clear hd
    have HLD := Lib.hid ld
    clear ld
    go_wp2
    go_loopw [8, 9] (fun nd kv wr => ∃ k : Nat, k ≤ raw3.length ∧ kv = .int .i64 (k : Int) ∧ nd = .bool (neededB (t.gs.take k) d) ∧ Hid (Kept w6 wr)) (fun _ kv _ => raw3.length - (intOf kv).toNat)
    case atStart => exact ⟨0, Nat.zero_le _, rfl, rfl, Lib.hid (Kept.refl _)⟩
    case round =>
      obtain ⟨k, hk, rfl, rfl, HKR⟩ := hrel
      have c2 : wr.cell? ⟨X, 2, none⟩ = some (.slice og raw3.length cg) := HKR.out.cell' (stv_cells (Cells.of_block HZ6.out)).2.2.1
      by_cases hlt : k < raw3.length
      · have hlt2 : k < t.gs.length := by rw [← HLR.out]; exact hlt
        obtain ⟨bg, offg, rfl, hbg, hcg⟩ := HST6.out.gs.at hlt
        have hrl := HST6.out.rel.at_ k hlt hlt2
        obtain ⟨ext, hext⟩ : ∃ ext, ext = (t.gs[k]'hlt2).ext := ⟨_, rfl⟩
        have hrx := hrl.ext
        have hfew := hrl.few
        rw [← hext] at hfew
        rw [← hext] at hrx
        obtain ⟨oe, ce, hve, _⟩ := hrx.form
        rw [hve] at hrx
        have HRX := Lib.hid hrx
        have g2 : w6.cell? ⟨bg, offg + k * 3 + 2, none⟩ = some (.slice oe ext.length ce) := by rw [← hve]; exact hcg 2 (by simp [grw])
        have HG2 := Lib.hid g2
        obtain ⟨nb, hnb⟩ : ∃ nb, nb = neededB (t.gs.take k) d := ⟨_, rfl⟩
        have HNB : Hid (neededB (t.gs.take (k + 1)) d = (nb || ext.any (fun x => x.1 == d))) := Lib.hid (by rw [hnb, hext]; exact needed_succ t.gs d k hlt2)
        rw [← hnb]
        have g2r := HKR.out.cell' g2
        clear hcg hrl hrx hve hnb hext g2 hbg
        go_wp2
        clear g2r c2
        go_loopw [8, 10] (fun nd nv w' => ∃ m : Nat, m ≤ ext.length ∧ nv = .int .i64 (m : Int) ∧ nd = .bool (nb || (ext.take m).any (fun x => x.1 == d)) ∧ Hid (Kept w6 w')) (fun _ nv _ => ext.length - (intOf nv).toNat)
        case atStart => exact ⟨0, Nat.zero_le _, rfl, by simp, HKR⟩
        case round =>
          obtain ⟨m, hm, rfl, rfl, HKM⟩ := hrel
          have c2 := HKM.out.cell' (stv_cells (Cells.of_block HZ6.out)).2.2.1
          have g2 := HKM.out.cell' HG2.out
          by_cases hlm : m < ext.length
          · obtain ⟨be, offe, rfl, hbe, hce⟩ := (HRX.out.kept HKM.out).at hlm
            obtain ⟨xd, hxd⟩ : ∃ xd, xd = (ext[m]'hlm).1 := ⟨_, rfl⟩
            have e0 := hce 0 (by rw [pairV_len]; decide)
            simp only [pairV, List.getElem_cons_zero, Nat.add_zero] at e0
            rw [← hxd] at e0
            have hld := HKM.out.cell' HLD.out
            obtain ⟨b8, hb8⟩ : ∃ b8, b8 = (nb || (ext.take m).any (fun x => x.1 == d)) := ⟨_, rfl⟩
            have HB8 : Hid ((nb || (ext.take (m + 1)).any (fun x => x.1 == d)) = (b8 || (xd == d))) := Lib.hid (by rw [hb8, hxd]; exact any_take_succ (fun x => x.1 == d) ext m hlm nb)
            rw [← hb8]
            clear hce hb8 hxd hbe
            cases b8 with
            | true =>
              go_upto_region 16 with fail
              go_quiet (fail)
              go_wp2
              go_roundw
              case rel => exact ⟨m + 1, by omega, by go_num, by rw [HB8.out]; rfl, Lib.hid (HKM.out.trans ((Kept.refl _).drewN _))⟩
              case measure => simp [intOf]; omega
            | false =>
              go_upto_region 16 with fail
              go_quiet (fail)
              go_wp2
              go_roundw
              case rel => exact ⟨m + 1, by omega, by go_num, by rw [HB8.out]; simp, Lib.hid (HKM.out.trans ((Kept.refl _).drewN _))⟩
              case measure => simp [intOf]; omega
          · have HND : Hid ((nb || (ext.take m).any (fun x => x.1 == d)) = neededB (t.gs.take (k + 1)) d) := Lib.hid (by rw [HNB.out, List.take_of_length_le (by omega)])
            rw [HND.out]
            go_wp2
            go_roundw
            case rel => exact ⟨k + 1, by omega, by go_num, rfl, HKM⟩
            case measure => simp [intOf]; omega
      · have HND : Hid (neededB (t.gs.take k) d = neededB t.gs d) := Lib.hid (by rw [List.take_of_length_le (by rw [← HLR.out]; omega)])
        have hna : neededB t.gs d = neededB t.gs (t.ms[i]'HI.out).1 := by rw [← HD.out]
        obtain ⟨nd, hnd⟩ : ∃ nd, nd = neededB t.gs d := ⟨_, rfl⟩
        have HAP := Lib.hid (show applyE (okMany 12 (goneL t.ms i).length && (goneL t.ms i).all mbW) t 0 (membersS t (goneL t.ms i)) = (if nd then 9 else 0) by rw [gone_apply HRT.out HI.out, ← hna, ← hnd])
        rw [HND.out, ← hnd]
        have HRBr : Hid (wr.heap[L]? = some (.cells (t.ms.flatMap trip ++ junk).toArray 56 (0, 0))) := Lib.hid (HKR.out.block HRB.out)
        have HKr := Lib.hid (HK6.out.trans HKR.out)
        have HK5r := Lib.hid (HK56.out.trans HKR.out)
        have HSTr := Lib.hid (HST6.out.kept HKR.out)
        have HZr := Lib.hid (HKR.out.block HZ6.out)
        have hfl : (t.ms.flatMap trip).length = n * 3 := by rw [flat_len trip_len, HN.out]
        have HFL := Lib.hid hfl
        clear hna hnd HND HKR hfl HLD HD HRB
        go_wp2_with (refine stop_at (o := ⟨none, .store _ _ _, _, _, _, _⟩) ?_)
        refine Stop.mk ?_
        refine wpList_set_cell rfl _ _ rfl size_int L (i * 3 + 2) rfl (.int .i64 2) rfl rfl rfl _ _ HRBr.out (by rw [List.length_append, HFL.out]; omega) ?_
        intro w7 hw7
        rw [flat_set2 t.ms i HI.out junk] at hw7
        have hb7 : But (fun k => k = L) wr w7 := But.wrote hw7 rfl
        have HX7 := Lib.hid (hb7.blk (k := X) (by show ¬ X = L; have := HXL.out; omega) HZr.out)
        have HK7 := Lib.hid (But.to_kept HKr.out hb7 (fun i hi => by have := HLB.out; omega))
        have hrl : RSl trip 3 w7 (.slice (some ⟨L, 0, none⟩) n cl) (goneL t.ms i) := by
          have := RBlk.rsl (cap := cl) trip_len hw7.blk (by rw [gone_len]; rw [← HN.out]; exact hc)
          rw [gone_len, ← HN.out] at this
          exact this
        have HRL := Lib.hid hrl
        clear hrl
        have HST7 := Lib.hid (HST5.out.kept (But.to_kept HK5r.out hb7 (fun i hi => by omega)))
        clear hw7 hb7 HRBr HKr HSTr HZr HK5r
        have HGL := Lib.hid (gone_len t.ms i)
        go_wp2_with (refine stop_at (o := ⟨some 74, _, _, _, _, _⟩) ?_)
        refine Stop.mk ?_
        refine wpList_load_agg rfl _ rfl agT_state X 0 rfl _ (Cells.of_block HX7.out) HL3.out ?_
        go_wp2_with (refine stop_at (o := ⟨some 76, _, _, _, _, _⟩) ?_)
        refine Stop.mk ?_
        refine wpList_rec_members rfl _ _ rfl (some ⟨L, 0, none⟩) n cl rfl rfl ?_
        have hlm : (goneL t.ms i).length ≤ 4096 := by rw [gone_len, ← HN.out]; omega
        have happ := st_Apply (rcMembers (.slice (some ⟨L, 0, none⟩) n cl)) (rcv_len _ _ _ _ _ _ _ _ _ _ _) (okMany 12 (goneL t.ms i).length && (goneL t.ms i).all mbW) 0 t (membersS t (goneL t.ms i)) _ _ _ _ raw3 w7 HST7.out (fun W hk => record_members _ (goneL t.ms i) W (HRL.out.kept hk) hlm) (fun _ _ => step_members w7 t (goneL t.ms i) _ hlm HRL.out)
        rw [HAP.out] at happ
        have HAPP := Lib.hid happ
        clear happ hlm HST7
        go_wp2_with fail
        refine Calls.mono HAPP.out ?_
        rintro e w8 ⟨cells, rfl, hst8, hk8, hl8, ho8⟩
        have HX8 := Lib.hid (hk8.block HX7.out)
        have HK8 := Lib.hid (HK7.out.trans hk8)
        have HL8 := Lib.hid hl8; have HO8 := Lib.hid ho8; have HST8 := Lib.hid hst8
        clear hk8 hl8 ho8 hst8 HAPP HX7 HK7
        cases nd with
        | true =>
          have e9 : (if true = true then (9 : Int) else 0) = 9 := rfl
          rw [e9]
          go_wp2_with (refine stop_at (o := ⟨some 11, .alloc _, _, _, _, _⟩) ?_)
          refine Stop.mk ?_
          refine wpList_new_state rfl rfl _ _ rfl rfl cells rfl HL8.out HO8.out rfl ?_
          intro wB hzB hkB
          have HKB := Lib.hid (HK8.out.trans hkB)
          clear hzB hkB
          go_wp2
          go_ret
          exact ⟨rfl, HKB.out⟩
        | false =>
          have e9 : (if false = true then (9 : Int) else 0) = 0 := rfl
          rw [e9]
          obtain ⟨sm8, sg8, sp8, sd8, raw8, hce8, hst8⟩ := HST8.out rfl
          subst hce8
          have hlr8 := hst8.rel.len
          obtain ⟨om8, cm8, rfl, _⟩ := hst8.ms.form
          obtain ⟨og8, cg8, rfl, _⟩ := hst8.gs.form
          have hil8 : i < (membersS t (goneL t.ms i)).ms.length := by show i < (goneL t.ms i).length; rw [gone_len]; exact HI.out
          obtain ⟨bm8, offm8, rfl, hbm8, hcm8⟩ := hst8.ms.at hil8
          have hm2 := hcm8 2 (by rw [trip_len]; decide)
          have hgi : (membersS t (goneL t.ms i)).ms[i]'hil8 = ((t.ms[i]'HI.out).1, (t.ms[i]'HI.out).2.1, 2) := by
            show (goneL t.ms i)[i]'hil8 = _
            simp only [gone_at HI.out, List.getElem_set_self]
          rw [hgi] at hm2
          simp only [trip, List.getElem_cons_zero, List.getElem_cons_succ] at hm2
          have hl8' : (membersS t (goneL t.ms i)).ms.length = n := by show (goneL t.ms i).length = n; rw [gone_len, HN.out]
          have hg8' : raw8.length = raw3.length := by rw [hlr8, HLR.out]; rfl
          rw [hl8', hg8'] at HL8 HO8 ⊢
          clear hlr8 hgi hcm8 hl8' hg8' hil8
          go_wp2_with (refine stop_at (o := ⟨some 11, .alloc _, _, _, _, _⟩) ?_)
          refine Stop.mk ?_
          refine wpList_new_state rfl rfl _ _ rfl rfl _ rfl HL8.out HO8.out rfl ?_
          intro wB hzB hkB
          obtain ⟨Z, hZ⟩ : ∃ Z, Z = w8.heap.size := ⟨_, rfl⟩
          rw [← hZ] at hzB ⊢
          have cz := stv_cells (Cells.of_block hzB.out)
          have z1 := cz.2.1
          have z2 := cz.2.2.1
          have x2 := (stv_cells (Cells.of_block (hkB.block HX8.out))).2.2.1
          have m2 := hkB.cell' hm2
          have HKB := Lib.hid (HK8.out.trans hkB)
          clear hzB hkB hm2 cz hZ
          go_wp2
          go_ret
          exact ⟨rfl, HKB.out⟩
end Go.Proofs.YtiijfocdjcjlaaaGreat
