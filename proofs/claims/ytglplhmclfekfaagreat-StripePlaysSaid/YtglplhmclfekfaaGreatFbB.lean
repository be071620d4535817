/- FbB: several texts in one: Rlg Rlh Rli Rlj. -/
import Derived.Test.YtglplhmclfekfaaGreatFbA
/- The document's bank: Crash. -/
namespace Go.Proofs.YtglplhmclfekfaaGreat
open Go.RowKit
set_option linter.unusedVariables false
set_option linter.unusedSimpArgs false

theorem RT.setL_snoc (mask : Int) (p : Nat × Nat) : ∀ (L : List (Nat × Nat)) (i : Nat) (U : RT), RT.setL mask (L ++ [p]) i U = (RT.setL mask L i U).settle p (bitOf mask (i + L.length))
  | [], i, U => rfl
  | q :: L, i, U => by
    rw [List.cons_append, RT.setL, RT.setL, RT.setL_snoc mask p L, List.length_cons]
    congr 2; omega
theorem RT.setL_keep (mask : Int) : ∀ (L : List (Nat × Nat)) (i : Nat) (U : RT), U.Ok → (∀ p ∈ L, p.1 < U.l.length ∧ p.2 < (U.d p.1).new.length) → (RT.setL mask L i U).Ok ∧ (RT.setL mask L i U).l.length = U.l.length ∧ (RT.setL mask L i U).loose = U.loose ∧ ∀ j, ((RT.setL mask L i U).d j).new.length = (U.d j).new.length
  | [], i, U, h, _ => ⟨h, rfl, rfl, fun j => rfl⟩
  | p :: L, i, U, h, hp => by
    have h0 := hp p (by simp)
    rw [RT.setL]
    obtain ⟨h1, h2, h3, h4⟩ := RT.setL_keep mask L (i + 1) (U.settle p (bitOf mask i)) (h.settle h0.1 h0.2) (fun q hq => by rw [RT.settle_len, (RT.settle_d h0.1 q.1).1]; exact hp q (by simp [hq]))
    exact ⟨h1, h2.trans (RT.settle_len _ _ _), h3, fun j => (h4 j).trans (RT.settle_d h0.1 j).1⟩
theorem run_shr64u {P : Program} (w : World) (m k : Nat) : (Op.shift .shr .u64 (m : Int) .u64 ((k : Int).tmod 64)).run P w = .ok (.int .u64 ((m / 2 ^ (k % 64) : Nat) : Int)) w := by
  have h1 : (k : Int).tmod 64 = ((k % 64 : Nat) : Int) := by
    rw [Int.tmod_eq_emod_of_nonneg (by omega)]; rfl
  have h2 : ¬ ((k % 64 : Nat) : Int) < 0 := by omega
  have h3 : min (k % 64) IntKind.u64.bits = k % 64 := by
    have : IntKind.u64.bits = 64 := rfl
    omega
  unfold Op.shift
  rw [h1, if_neg h2, Int.toNat_natCast, h3]
  show Sem.run P (pure _) w = _
  rw [Sem.run_pure]
  congr 2
  rw [Int.fdiv_eq_ediv_of_nonneg _ (by exact_mod_cast Nat.zero_le _)]
  simp
theorem bit_doc (m j : Nat) : (((m : Int) / 2 ^ (j % 64)).tmod 2 == 1) = bitOf (m : Int) j := by
  rw [bitOf_eq]
  have h1 : ((m : Int) / 2 ^ (j % 64)) = ((m / 2 ^ (j % 64) : Nat) : Int) := by simp
  rw [h1]
  generalize m / 2 ^ (j % 64) = x
  rw [Int.tmod_eq_emod_of_nonneg (by omega)]
  by_cases h : x % 2 = 1
  · rw [decide_eq_true h]; simp; omega
  · rw [decide_eq_false h]; simp; omega
section
variable {w w1 w2 : World} {Y : RLay} {T U : RT}
set_option maxHeartbeats 2000000
set_option maxRecDepth 100000
theorem rf_Crash (h : RefD w Y T) (ok : T.Ok) (m : Nat) : Calls Tryz.prog 42 #[.pointer (some ⟨Y.q, 0, none⟩), .int .u64 (m : Int)] w fun e w' => e = .returned (.tuple #[]) ∧ RfTo w Y (T.crash (m : Int)) w' := by
  have b2 := h.b2
  cases hd : T.down with
  | true =>
    have HC : Hid (T.crash (m : Int) = T) := Lib.hid (by unfold RT.crash; rw [if_pos hd])
    have HR := Lib.hid (RfTo.of h (But.refl Y.In w))
    rw [hd] at b2
    clear h ok hd
    go_enter Tryz.func42, Tryz.ntmps42
    go_wp2
    refine bodyPost_ret (results_none rfl _ _ _) rfl ?_
    exact ⟨rfl, by rw [HC.out]; exact HR.out⟩
  | false =>
    have HC : Hid (T.crash (m : Int) = { RT.setL (m : Int) T.loose 0 T with loose := [], down := true, armed := 0 }) := Lib.hid (by unfold RT.crash; rw [if_neg (by simp [hd])])
    rw [hd] at b2
    have HOK := Lib.hid ok
    have hmany := ok.many
    obtain ⟨ao, cap, hv, _⟩ := h.pl
    have HV := Lib.hid hv
    have H0 := Lib.hid h
    clear h ok hd hv
    go_enter Tryz.func42, Tryz.ntmps42
    go_wp2
    go_loopw [4] (fun i wr => ∃ j : Nat, j ≤ T.loose.length ∧ i = .int .i64 j ∧ Hid (RefD wr Y (RT.setL (m : Int) (T.loose.take j) 0 T)) ∧ Hid (But Y.In w wr)) (fun i _ => T.loose.length - (intOf i).toNat)
    case atStart => exact ⟨0, Nat.zero_le _, rfl, H0, Lib.hid (But.refl _ _)⟩
    case round =>
      obtain ⟨j, hj, rfl, HD, HB⟩ := hrel
      have hkp := RT.setL_keep (m : Int) (T.loose.take j) 0 T HOK.out (fun p hp => HOK.out.loose p (List.mem_of_mem_take hp))
      have HKP := Lib.hid hkp
      have b1 := HD.out.b1
      rw [HV.out] at b1
      by_cases hlt : j < T.loose.length
      · obtain ⟨ao', cap', hv', hcl⟩ := HD.out.pl
        rw [hkp.2.2.1] at hcl hv'
        obtain ⟨g, rfl, hcs⟩ := hcl j hlt
        have hve := HV.out.symm.trans hv'
        injection hve with ha _ hcap
        subst ha
        have hsn := take_snoc hlt
        have hst := RT.setL_snoc (m : Int) T.loose[j] (T.loose.take j) 0 T
        rw [← hsn, List.length_take, Nat.zero_add, Nat.min_eq_left hj] at hst
        have hlo := HOK.out.loose T.loose[j] (List.getElem_mem hlt)
        have HCS := Lib.hid hcs
        have hsh : ∀ ww, (Op.shift .shr .u64 (m : Int) .u64 ((j : Int).tmod 64)).run Tryz.prog ww = .ok (.int .u64 ((m / 2 ^ (j % 64) : Nat) : Int)) ww := fun ww => run_shr64u ww m j
        clear hkp hcl hcs hsn hcap hv'
        generalize hU1 : RT.setL (m : Int) (T.loose.take (j + 1)) 0 T = U1 at *
        have HU1 := Lib.hid hU1
        have HST := Lib.hid hst
        clear hU1 hst
        generalize RT.setL (m : Int) (T.loose.take j) 0 T = U0 at *
        generalize T.loose[j] = p at *
        obtain ⟨p1, p2⟩ := p
        simp only at HCS HST hlo
        go_wp2_with (refine stop_at (o := ⟨some 25, _, _, _, _, _⟩) ?_)
        refine Stop.mk ?_
        refine wpList_load_agg rfl _ rfl ty_plc g (j * 2) rfl _ HCS.out rfl ?_
        go_wp2_with fail
        rw [bit_doc]
        refine Calls.mono (rf_settle HD.out HKP.out.1 (d := p1) (a := p2) (by rw [HKP.out.2.1]; exact hlo.1) (by rw [HKP.out.2.2.2 p1]; exact hlo.2) (bitOf (m : Int) j)) ?_
        rintro e w3 ⟨rfl, hd3, hb3⟩
        have HD3 : Hid (RefD w3 Y U1) := Lib.hid (by rw [HST.out]; exact hd3)
        have HB3 := Lib.hid (HB.out.trans hb3)
        clear hd3 hb3
        go_wp2
        go_roundw
        case rel => exact ⟨j + 1, hlt, by go_num, by rw [HU1.out]; exact HD3, HB3⟩
        case measure => simp [intOf]; omega
      · have hjj : j = T.loose.length := by omega
        subst hjj
        rw [List.take_length] at HD
        go_wp2_with (refine stop_at (o := ⟨none, .store _ _ _, _, _, _, _⟩) ?_)
        refine Stop.mk ?_
        refine wpList_set_cell rfl _ _ rfl size_places Y.q 1 rfl (.slice none 0 0) rfl rfl rfl _ _ HD.out.bank (by simp [rbank]) ?_
        intro w2 hw2
        have h2 := HD.out.put_bank (lv' := .slice none 0 0) (T' := { RT.setL (m : Int) T.loose 0 T with loose := [] }) rfl hw2 (World.ownsRow_nil _ _ _ _)
        have HD2 := Lib.hid h2
        have HB2 := Lib.hid (HB.out.trans (But.wrote (S := Y.In) hw2 (.inl rfl)))
        clear h2 hw2
        go_wp2_with (refine stop_at (o := ⟨none, .store _ _ _, _, _, _, _⟩) ?_)
        refine Stop.mk ?_
        refine wpList_set_cell rfl _ _ rfl size_boolR Y.q 2 rfl (.bool true) rfl rfl rfl _ _ HD2.out.bank (by simp [rbank]) ?_
        intro w3 hw3
        have h3 := HD2.out.top (T' := { RT.setL (m : Int) T.loose 0 T with loose := [], down := true }) rfl rfl hw3
        have HD3 := Lib.hid h3.1
        have HB3 := Lib.hid (HB2.out.trans (But.wrote (S := Y.In) hw3 (.inl rfl)))
        clear h3 hw3
        go_wp2_with (refine stop_at (o := ⟨none, .store _ _ _, _, _, _, _⟩) ?_)
        refine Stop.mk ?_
        refine wpList_set_cell rfl _ _ rfl size_intR Y.q 4 rfl (.int .i64 0) rfl rfl rfl _ _ HD3.out.bank (by simp [rbank]) ?_
        intro w4 hw4
        have h4 := HD3.out.top (T' := { RT.setL (m : Int) T.loose 0 T with loose := [], down := true, armed := 0 }) rfl rfl hw4
        have HD4 := Lib.hid h4.1
        have HB4 := Lib.hid (HB3.out.trans (But.wrote (S := Y.In) hw4 (.inl rfl)))
        clear h4 hw4
        go_wp2
        go_end0
        refine ⟨rfl, ?_⟩
        rw [HC.out]
        exact ⟨_, HD4.out, rfl, fun b hb => by
          rcases hb with hb | hb | hb | hb
          · exact .inl (.inl hb)
          · exact .inl (.inr (.inl hb))
          · simp [Value.ownBlock] at hb
          · exact .inl (.inr (.inr (.inr hb))), HB4.out⟩
end
end Go.Proofs.YtglplhmclfekfaaGreat
/- The document's bank: Write (gen_rwrite2.py). -/
namespace Go.Proofs.YtglplhmclfekfaaGreat
open Go.RowKit
set_option linter.unusedVariables false
set_option linter.unusedSimpArgs false

theorem RT.placeE_at {U : RT} {d b : Int} (h : U.placeE d b = 0) : ∃ k a : Nat, d = (k : Int) ∧ b = (a : Int) ∧ k < U.l.length ∧ a < (U.d k).new.length := by
  unfold RT.placeE at h
  by_cases h1 : U.mayE d = 0
  · rw [if_neg (by simp [h1])] at h
    unfold RT.mayE at h1
    by_cases h2 : d < 0 ∨ (U.l.length : Int) ≤ d
    · rw [if_pos h2] at h1; omega
    · by_cases h3 : b < 0 ∨ ((U.d d.toNat).new.length : Int) ≤ b
      · rw [if_pos h3] at h; omega
      · exact ⟨d.toNat, b.toNat, by omega, by omega, by omega, by omega⟩
  · rw [if_pos h1] at h; exact absurd h h1
theorem RT.placeE_down {U : RT} (h : U.down = true) (d b : Int) : U.placeE d b ≠ 0 := by
  have hm : U.mayE d ≠ 0 := by
    unfold RT.mayE
    split
    · decide
    · split
      · decide
      · first
        | decide
        | (rw [if_pos h]; decide)
  unfold RT.placeE; rw [if_pos hm]; exact hm
theorem BankT.Calmer.order_le {T T' : BankT} (h : T.Calmer T') : T'.order.length ≤ T.order.length :=
  T'.nodup_order.length_le_of_subset fun p hp => by
    obtain ⟨⟨h1, h2⟩, h3⟩ := (T'.mem_order p).1 hp
    refine (T.mem_order p).2 ⟨⟨by rw [← h.len]; exact h1, by rw [← h.lens]; exact h2⟩, ?_⟩
    rcases h.sin p with e | e
    · rw [← e]; exact h3
    · rw [e] at h3; omega
theorem RT.Ok.arm1 {U : RT} (h : U.Ok) : U.arm1.Ok := ⟨h.len, h.med, h.loose, h.many⟩
section
variable {w w1 w2 : World} {Y : RLay} {B : BankT}
set_option maxHeartbeats 4000000
set_option maxRecDepth 100000
theorem rf_Write (h : RefD w Y B.ref) (hi : B.Inv) (hm : B.order.length < 9000) (hwr : B.writes < 1000000000) (d a : Int) {s : List Int} (hs : s.length = 64 ∧ ∀ x ∈ s, IsByte x) :
    Calls Tryz.prog 35 #[.pointer (some ⟨Y.q, 0, none⟩), .agg #[.int .i64 d, .int .i64 a], .agg (u8s s).toArray] w fun e w' => e = .returned (.int .i64 (B.write d a s).2) ∧ RfTo w Y (B.write d a s).1.ref w' := by
  obtain ⟨rw1, rw2⟩ := ref_write hi d a hs
  rw [rw1, rw2]
  have hwr0 := hi.wr
  have HI := Lib.hid hi
  have HM := Lib.hid hm
  have HOKJ := Lib.hid fun (j : Nat) (hj : j ≤ B.l.length) => (⟨by rw [← ref_tickTo hi hj]; exact (hi.tickTo_ hj).ref (by have := (BankT.tickTo_calmer hi.ok hj).1.order_le; omega), by rw [← ref_tickTo hi hj]; unfold BankT.ref; rw [ref_len, (BankT.tickTo_calmer hi.ok hj).1.len], by rw [← ref_tickTo hi hj]; have := (BankT.tickTo_calmer hi.ok hj).1.order_le; exact Nat.lt_of_le_of_lt this hm, by rw [← ref_tickTo hi hj]; exact (BankT.tickTo_calmer hi.ok hj).2.2.2.2.2, by rw [← ref_tickTo hi hj]; exact (BankT.tickTo_calmer hi.ok hj).2.2.2.1, by rw [← ref_tickTo hi hj]; exact (BankT.tickTo_calmer hi.ok hj).2.2.2.2.1⟩ : (B.ref.tickTo j).Ok ∧ (B.ref.tickTo j).l.length = B.l.length ∧ (B.ref.tickTo j).loose.length < 9000 ∧ (B.ref.tickTo j).down = B.down ∧ (B.ref.tickTo j).armed = B.armed ∧ (B.ref.tickTo j).mask = B.mask)
  have har := hi.ar
  have hmk := hi.msk
  have hbl := hi.ok.1
  have HOK0 : Hid B.ref.Ok := Lib.hid (hi.ref (by omega))
  have hlenB : B.ref.l.length = B.l.length := by unfold BankT.ref; exact ref_len _ _
  have hdn : B.ref.down = B.down := rfl
  have harm : B.ref.armed = B.armed := rfl
  have hn0 : B.ref.n = B.writes := rfl
  have HVM0 : Hid (B.ref.loose.length < 9000) := Lib.hid hm
  have HS := Lib.hid hs.1
  have HIN : Hid (∀ b, Y.In b → b < w.heap.size) := Lib.hid fun b hb => h.lt hb
  generalize B.ref = T at *
  generalize hL : B.l.length = n at *
  have H := Lib.hid h
  have HWRT : Hid (T.write d a s = if T.tick.2 = false then (T.tick.1, 6) else if T.tick.1.placeE d a = 0 then (T.tick.1.putW d.toNat a.toNat s, 0) else (T.tick.1, T.tick.1.placeE d a)) := Lib.hid rfl
  have HTK : Hid (T.tick = if T.down then (T, true) else if 0 < (T.tickTo T.l.length).armed then (if (T.tickTo T.l.length).armed = 1 then ((T.tickTo T.l.length).arm1.crash (T.tickTo T.l.length).mask, false) else ((T.tickTo T.l.length).arm1, true)) else (T.tickTo T.l.length, true)) := Lib.hid rfl
  clear h hs rw1 rw2 hi hm hL
  go_enter Tryz.func35, Tryz.ntmps35
  go_wp2_with (refine stop_at (o := ⟨some 4, _, _, _, _, _⟩) ?_)
  refine Stop.mk ?_
  refine wpList_box_row rfl _ _ rfl [.int .i64 d, .int .i64 a] rfl ?_
  intro w1 hz hs1 hk1
  have HX1 := hz
  have HK1 := Lib.hid hk1
  have HXs : Hid (w.heap.size < w1.heap.size) := Lib.hid hs1
  generalize hXe : w.heap.size = X at HX1 HXs HIN
  have HXe := Lib.hid hXe
  clear hz hs1 hk1 hXe
  go_wp2_with (refine stop_at (o := ⟨some 5, _, _, _, _, _⟩) ?_)
  refine Stop.mk ?_
  refine wpList_box_row rfl _ _ rfl (u8s s) rfl ?_
  intro w2 hz hs2 hk2
  have HX2 := Lib.hid (hk2.block HX1.out)
  have HZ2 := hz
  have HK2 := Lib.hid (HK1.out.trans hk2)
  have HZs : Hid (w1.heap.size < w2.heap.size ∧ X < w1.heap.size) := Lib.hid ⟨hs2, HXs.out⟩
  generalize w1.heap.size = Z at *
  clear hz hs2 hk2 HX1 HK1 HXs
  have H2 := Lib.hid (H.out.kept HK2.out)
  have HBZ : Hid (∀ W (Y' : RLay), (∀ b, Y'.In b → Y.In b ∨ w2.heap.size ≤ b) → But Y.In w2 W → W.heap[X]? = w2.heap[X]? ∧ W.heap[Z]? = w2.heap[Z]? ∧ ∀ b, Y'.In b → b ≠ X) := Lib.hid fun W Y' hin hb => by
    have h1 := HZs.out
    have hx : ¬ Y.In X := fun hi => by have := HIN.out X hi; omega
    have hzz : ¬ Y.In Z := fun hi => by have := HIN.out Z hi; omega
    refine ⟨hb.block X (by omega) hx, hb.block Z (by omega) hzz, fun b hb' e => ?_⟩
    subst e
    rcases hin b hb' with h | h
    · exact hx h
    · omega
  have HRT : Hid (∀ U' w3 Y3 w4, Y3.q = Y.q → (∀ b, Y3.In b → Y.In b ∨ w2.heap.size ≤ b) → But Y.In w2 w3 → RfTo w3 Y3 U' w4 → RfTo w Y U' w4) := Lib.hid fun U' w3 Y3 w4 hq hin hb hr => by
    refine RfTo.trans hq (fun b hb' => ?_) ((But.kept HK2.out).trans hb) hr
    rcases hin b hb' with h | h
    · exact .inl h
    · exact .inr (Nat.le_trans HK2.out.size h)
  have b2 := H2.out.b2
  cases hdown : T.down with
  | true =>
    rw [hdown] at b2
    obtain ⟨V, hV⟩ : ∃ V, V = T := ⟨_, rfl⟩
    obtain ⟨wv, hwv⟩ : ∃ wv, wv = w2 := ⟨_, rfl⟩
    have hpl : V.placeE d a ≠ 0 := by rw [hV]; exact RT.placeE_down hdown d a
    have HWR : Hid (T.write d a s = if V.placeE d a = 0 then (V.putW d.toNat a.toNat s, 0) else (V, V.placeE d a)) := Lib.hid (by
      have : T.tick = (T, true) := by rw [HTK.out, if_pos hdown]
      rw [HWRT.out, this, hV, if_neg (by simp)])
    have HXv := HX2
    rw [← hwv] at HXv
    have HVD : Hid (RefD wv Y V) := Lib.hid (by rw [hwv, hV]; exact H2.out)
    have HVO : Hid V.Ok := Lib.hid (by rw [hV]; exact HOK0.out)
    have HTO : Hid (∀ U' w', RfTo wv Y U' w' → RfTo w Y U' w') := Lib.hid fun U' w' hr => HRT.out U' w2 Y w' rfl (fun b hb => .inl hb) (But.refl _ _) (by rw [← hwv]; exact hr)
    have HP := Lib.hid (ref_place HVD.out HVO.out.len (fun k hk => (HVO.out.d hk).len) d a)
    rw [← hwv]
    rw [← hwv] at b2
    clear hV hwv HX2 HZ2 H2 H HTK HWRT HRT HBZ hdown HOKJ
    have hx : (V.placeE d a == 0) = false := by simpa using hpl
    rw [if_neg hpl] at HWR
    have HWRN := HWR
    obtain ⟨x, hxe⟩ : ∃ x, x = V.placeE d a := ⟨_, rfl⟩
    rw [← hxe] at hx HP HWRN
    obtain ⟨p0, p1⟩ := Pl.of HXv.out
    clear hxe hpl
    go_wp2_with fail
    refine Calls.mono HP.out ?_
    rintro e w4 ⟨rfl, hk4⟩
    have HE4 := Lib.hid (HTO.out _ _ (RfTo.of (HVD.out.kept hk4) (But.kept hk4)))
    clear hk4
    go_wp2
    go_ret
    exact ⟨by rw [HWRN.out]; rfl, by rw [HWRN.out]; exact HE4.out⟩
  | false =>
    rw [hdown] at b2
    have b3 := H2.out.b3
    rw [hn0] at b3
    go_wp2_with (refine stop_at (o := ⟨none, .store _ _ _, _, _, _, _⟩) ?_)
    refine Stop.mk ?_
    refine wpList_set_cell rfl _ _ rfl size_intR Y.q 3 rfl (.int .i64 (B.writes + 1)) rfl rfl rfl _ _ H2.out.bank (by simp [rbank]) ?_
    intro w3 hw3
    have hw3' : Wrote w2 w3 Y.q (rbank Y (T.tickTo 0)) 41 := by
      have : (T.tickTo 0).n = B.writes + 1 := by show T.n + 1 = _; rw [hn0]
      unfold rbank
      rw [this]
      exact hw3
    have h3 := H2.out.top (T' := T.tickTo 0) rfl rfl hw3'
    have HD3 := Lib.hid h3.1
    have HB3 := Lib.hid h3.2
    clear h3 hw3 hw3' b2 b3 H
    obtain ⟨q, hq⟩ : ∃ q, q = Y.q := ⟨_, rfl⟩
    rw [← hq]
    have HQ0 := Lib.hid hq
    clear hq
    go_wp2
    go_loopw [7] (fun i wr => ∃ (j : Nat) (Yj : RLay), j ≤ n ∧ i = .int .i64 j ∧ Yj.q = q ∧ Hid (RefD wr Yj (T.tickTo j)) ∧ Hid (∀ b, Yj.In b → Y.In b ∨ w2.heap.size ≤ b) ∧ Hid (But Y.In w2 wr)) (fun i _ => n - (intOf i).toNat)
    case atStart => exact ⟨0, Y, Nat.zero_le _, rfl, HQ0.out.symm, HD3, Lib.hid (fun b hb => .inl hb), HB3⟩
    case round =>
      clear HD3 HB3
      obtain ⟨j, Yv, hj, rfl, hqv, HVD, HIV, HBV⟩ := hrel
      obtain ⟨o1, o2, o3, o4, o5, o6⟩ := HOKJ.out j hj
      have HVO := Lib.hid o1
      have HVM := Lib.hid o3
      obtain ⟨ao, cap, hL, hrow⟩ := HVD.out.lform
      rw [o2] at hL
      have b0 := HVD.out.b0
      rw [hL, hqv] at b0
      have HROW := Lib.hid hrow
      have HLF := Lib.hid hL
      clear hrow hL
      by_cases hlt : j < n
      · have hjD : j < Yv.D.length := by rw [HVD.out.len, o2]; exact hlt
        have hjV : j < (T.tickTo j).l.length := by rw [o2]; exact hlt
        obtain ⟨g, rfl, cr⟩ := HROW.out j hjD
        have cf := HVD.out.d3 hjD
        have hfb := (HVO.out.d hjV).fail
        have HST : Hid (T.tickTo (j + 1) = (T.tickTo j).tick1 j) := Lib.hid rfl
        have HBD := Lib.hid (HVD.out.dsk j hjD)
        have HPUT := Lib.hid (fun w' hw => HVD.out.put_dsk (w1 := w') hjD (m := { (T.tickTo j).d j with fail := ((T.tickTo j).d j).fail - 1 }) rfl rfl hw)
        have hOKN := (HOKJ.out (j + 1) hlt).1
        obtain ⟨U, hU⟩ : ∃ U, U = T.tickTo j := ⟨_, rfl⟩
        rw [← hU] at HVD HST HBD HPUT cf hfb hjV HVO o2
        obtain ⟨f, hf⟩ : ∃ f, f = (U.d j).fail := ⟨_, rfl⟩
        rw [← hf] at cf hfb
        have HF := Lib.hid hf
        have hlessd : ((U.less j).d j).fail = f - 1 := by unfold RT.less; rw [RT.d_up _ hjV, if_pos rfl, hf]
        have HLOK : Hid (0 < f → (U.less j).Ok ∧ (U.less j).l.length = n) := Lib.hid fun h0 => by
          have okd := HVO.out.d hjV
          refine ⟨⟨by simp [RT.less, RT.up]; exact HVO.out.len, fun m hm => ?_, fun p hp => ?_, HVO.out.many⟩, by simp [RT.less, RT.up]; exact o2⟩
          · rcases List.mem_or_eq_of_mem_set hm with h' | h'
            · exact HVO.out.med m h'
            · rw [h']; exact ⟨okd.flu, okd.new, okd.len, by show 0 ≤ (U.d j).fail - 1 ∧ (U.d j).fail - 1 < _; rw [← hf]; omega⟩
          · have := HVO.out.loose p hp
            refine ⟨by simp [RT.less, RT.up]; exact this.1, ?_⟩
            unfold RT.less; rw [RT.d_up _ hjV]
            split
            · rename_i e; rw [← e]; exact this.2
            · exact this.2
        generalize hbd : Yv.D[j].1 = bd at *
        have HBDE := Lib.hid hbd
        have HJD := Lib.hid hjD
        clear hU hf hbd
        have hcase : f = 0 ∨ f = 1 ∨ 1 < f := by omega
        rcases hcase with hf0 | hf1 | hf2
        · have HT1 : Hid (U.tick1 j = U) := Lib.hid (by unfold RT.tick1; rw [if_neg (by rw [← HF.out]; omega)])
          rw [hf0] at cf
          clear hfb hlessd
          go_wp2
          go_roundw
          case rel => exact ⟨j + 1, Yv, hlt, by go_num, hqv, by rw [HST.out, HT1.out]; exact HVD, HIV, HBV⟩
          case measure => simp [intOf]; omega
        · have HT1 : Hid (U.tick1 j = (U.less j).fell j) := Lib.hid (by unfold RT.tick1; rw [if_pos (by rw [← HF.out]; omega), if_pos (by rw [← HF.out]; exact hf1)])
          have hl1 : ((U.less j).d j).fail = 0 := by rw [hlessd]; omega
          subst hf1
          clear hfb hlessd
          go_wp2_with (refine stop_at (o := ⟨none, .store _ _ _, _, _, _, _⟩) ?_)
          refine Stop.mk ?_
          refine wpList_set_cell rfl _ _ rfl size_intR bd 3 rfl (.int .i64 0) rfl rfl rfl _ _ HBD.out (by simp [rmed]) ?_
          intro w4 hw4
          have hp4 : RefD w4 Yv (U.less j) ∧ But Yv.In wr w4 := HPUT.out w4 (by
            show Wrote wr w4 bd [_, _, _, _] _
            have e : (U.d j).fail - 1 = 0 := by rw [← HF.out]; omega
            simp only [e]
            exact hw4)
          have HP4 := Lib.hid hp4.1
          have HB4 := Lib.hid (HBV.out.trans' hp4.2 HIV.out)
          have cf4 := hp4.1.d3 HJD.out
          rw [hl1, HBDE.out] at cf4
          have b04 : w4.cell? ⟨q, 0, none⟩ = some (.slice (some ⟨g, 0, none⟩) n cap) := by have := hp4.1.b0; rw [HLF.out, hqv] at this; exact this
          have cr4 : w4.cell? ⟨g, j, none⟩ = some (.pointer (some ⟨bd, 0, none⟩)) := by
            obtain ⟨ao2, cap2, hL2, hrow2⟩ := hp4.1.lform
            obtain ⟨g2, e2, cr2⟩ := hrow2 j HJD.out
            have e3 := HLF.out.symm.trans hL2
            injection e3 with e3
            rw [e2] at e3
            injection e3 with e3
            injection e3 with e3
            rw [e3, ← HBDE.out]; exact cr2
          clear hp4 hw4 b0 cr cf
          have HFL := Lib.hid (rf_Fail HP4.out (HLOK.out (by omega)).1 (j : Int))
          rw [hqv, (HLOK.out (by omega)).2, if_neg (by omega), if_neg (by omega), Int.toNat_natCast] at HFL
          go_wp2_with fail
          refine Calls.mono HFL.out ?_
          rintro e w5 ⟨rfl, Y5, h5, hq5, hi5, hb5⟩
          have HD5 : Hid (RefD w5 Y5 (T.tickTo (j + 1))) := Lib.hid (by rw [HST.out, HT1.out]; exact h5)
          have HI5 : Hid (∀ b, Y5.In b → Y.In b ∨ w2.heap.size ≤ b) := Lib.hid fun b hb => by
            rcases hi5 b hb with h | h
            · exact HIV.out b h
            · exact .inr (Nat.le_trans HB4.out.size h)
          have HB5 : Hid (But Y.In w2 w5) := Lib.hid (HB4.out.trans' hb5 HIV.out)
          clear h5 hi5 hb5
          go_wp2
          go_roundw
          case rel => exact ⟨j + 1, Y5, hlt, by go_num, hq5.trans hqv, HD5, HI5, HB5⟩
          case measure => simp [intOf]; omega
        · have HT1 : Hid (U.tick1 j = U.less j) := Lib.hid (by unfold RT.tick1; rw [if_pos (by rw [← HF.out]; omega), if_neg (by rw [← HF.out]; omega)])
          have hne : (f - 1 == 0) = false := by simp; omega
          go_wp2_with (refine stop_at (o := ⟨none, .store _ _ _, _, _, _, _⟩) ?_)
          refine Stop.mk ?_
          refine wpList_set_cell rfl _ _ rfl size_intR bd 3 rfl (.int .i64 (f - 1)) rfl rfl rfl _ _ HBD.out (by simp [rmed]) ?_
          intro w4 hw4
          have hp4 : RefD w4 Yv (U.less j) ∧ But Yv.In wr w4 := HPUT.out w4 (by
            show Wrote wr w4 bd [_, _, _, _] _
            simp only [← HF.out]
            exact hw4)
          have HP4 : Hid (RefD w4 Yv (T.tickTo (j + 1))) := Lib.hid (by rw [HST.out, HT1.out]; exact hp4.1)
          have HB4 := Lib.hid (HBV.out.trans' hp4.2 HIV.out)
          have cf4 := hp4.1.d3 HJD.out
          rw [hlessd, HBDE.out] at cf4
          have b04 : w4.cell? ⟨q, 0, none⟩ = some (.slice (some ⟨g, 0, none⟩) n cap) := by have := hp4.1.b0; rw [HLF.out, hqv] at this; exact this
          have cr4 : w4.cell? ⟨g, j, none⟩ = some (.pointer (some ⟨bd, 0, none⟩)) := by
            obtain ⟨ao2, cap2, hL2, hrow2⟩ := hp4.1.lform
            obtain ⟨g2, e2, cr2⟩ := hrow2 j HJD.out
            have e3 := HLF.out.symm.trans hL2
            injection e3 with e3
            rw [e2] at e3
            injection e3 with e3
            injection e3 with e3
            rw [e3, ← HBDE.out]; exact cr2
          clear hp4 hw4 b0 cr cf hlessd
          go_wp2
          go_roundw
          case rel => exact ⟨j + 1, Yv, hlt, by go_num, hqv, HP4, HIV, HB4⟩
          case measure => simp [intOf]; omega
      · have hjn : j = n := by omega
        rw [hjn] at HVD o1 o2 o5 o6 HVO HVM o4
        have hge : n ≤ j := by omega
        clear hlt HROW HLF
        have b4 := HVD.out.b4
        rw [hqv, o5] at b4
        have b5 : wr.cell? ⟨Yv.q, 5, none⟩ = _ := cell_of_row _ _ 5 _ _ _ HVD.out.bank
        rw [hqv] at b5
        simp only [rbank, o6] at b5
        have HTK2 : Hid (T.tick = if 0 < B.armed then (if B.armed = 1 then ((T.tickTo n).arm1.crash B.mask, false) else ((T.tickTo n).arm1, true)) else (T.tickTo n, true)) := Lib.hid (by rw [HTK.out, if_neg (by simp [hdown]), hlenB, o5, o6])
        obtain ⟨U1, hU1⟩ : ∃ U1, U1 = T.tickTo n := ⟨_, rfl⟩
        rw [← hU1] at HVD HVO HVM HTK2 o1 o2 o5 o6 o4
        obtain ⟨hxx, hzz, hxi⟩ := HBZ.out _ Yv HIV.out HBV.out
        have HXr := Lib.hid (hxx.trans HX2.out)
        have HZr := Lib.hid (hzz.trans HZ2.out)
        have HXI := Lib.hid hxi
        have HO5 := Lib.hid o5
        have HO6 := Lib.hid o6
        clear hxx hzz hxi hU1 HTK HX2 HZ2 H2 HOKJ HOK0 HVM0 hn0 harm hdn o5 o6 o1 o4 hjn
        obtain ⟨m, hm⟩ : ∃ m : Nat, B.mask = (m : Int) := ⟨B.mask.toNat, by omega⟩
        rw [hm] at b5 HTK2 HO6
        clear hm hmk
        generalize B.armed = ar at *
        have hcase : ar = 0 ∨ ar = 1 ∨ 1 < ar := by omega
        rcases hcase with ha0 | ha1 | ha2
        · subst ha0
          obtain ⟨V, hV⟩ : ∃ V, V = U1 := ⟨_, rfl⟩
          obtain ⟨wv, hwv⟩ : ∃ wv, wv = wr := ⟨_, rfl⟩
          have HWR : Hid (T.write d a s = if V.placeE d a = 0 then (V.putW d.toNat a.toNat s, 0) else (V, V.placeE d a)) := Lib.hid (by
            have : T.tick = (U1, true) := by rw [HTK2.out]; simp
            rw [HWRT.out, this, hV, if_neg (by simp)])
          have HTO : Hid (∀ U' w', RfTo wv Yv U' w' → RfTo w Y U' w') := Lib.hid fun U' w' hr => HRT.out U' wr Yv w' (hqv.trans HQ0.out) HIV.out HBV.out (by rw [← hwv]; exact hr)
          have HXv := HXr
          have HZv := HZr
          rw [← hwv] at HXv HZv HVD b4 ⊢
          rw [← hV] at HVD HVO HVM
          have hge2 : V.l.length ≤ j := by rw [hV, o2]; exact hge
          clear hV hwv HTK2 HWRT HRT HBZ b5 HBV HXr HZr HO5 HO6 o2 b0
          subst hqv
          have HP := Lib.hid (ref_place HVD.out HVO.out.len (fun k hk => (HVO.out.d hk).len) d a)
          obtain ⟨ao, cap, hL, hrow⟩ := HVD.out.lform
          have b0 := HVD.out.b0
          rw [hL] at b0
          clear hL
          by_cases hpl : V.placeE d a = 0
          · rw [if_pos hpl] at HWR
            rw [hpl] at HP
            obtain ⟨dn, an, rfl, rfl, hd, ha⟩ := RT.placeE_at hpl
            simp only [Int.toNat_natCast] at HWR
            have hdD : dn < Yv.D.length := by rw [HVD.out.len]; exact hd
            have hal2 : (V.d dn).new.length ≤ 4096 := (HVO.out.d hd).len
            have hl32 : V.l.length ≤ 32 := HVO.out.len
            have HOK := Lib.hid (HVO.out.d hd)
            have HAL := Lib.hid ha
            obtain ⟨g, rfl, cr⟩ := hrow dn hdD
            have cn := HVD.out.d1 hdD
            obtain ⟨p0, p1⟩ := Pl.of HXv.out
            have HDD := Lib.hid hdD
            clear hpl hrow ha
            go_wp2_with fail
            refine Calls.mono HP.out ?_
            rintro e w4 ⟨rfl, hk4⟩
            have H4 := Lib.hid (HVD.out.kept hk4)
            have HX4 := Lib.hid (hk4.block HXv.out)
            have HZ4 := Lib.hid (hk4.block HZv.out)
            have HB4 := Lib.hid (But.kept (S := Yv.In) hk4)
            replace b0 := hk4.cell' b0
            replace cr := hk4.cell' cr
            replace cn := hk4.cell' cn
            clear hk4 p0 p1 HP HXv HZv
            have hal := HAL.out
            have HNB : Hid (w4.heap[Yv.D[dn].2.2]? = some (.cells (secs (V.d dn).new).toArray 43 (0, 0))) := Lib.hid (H4.out.new dn hdD)
            have HJ : Hid (splice (secs (V.d dn).new) (an * 64) (u8s s) = secs ((V.d dn).new.set an s)) := Lib.hid (splice_flat _ (fun x hx => (HOK.out.new.2 x hx).1) an hal s HS.out)
            have HQ : Hid ((secs (V.d dn).new).length = (V.d dn).new.length * 64) := Lib.hid (secs_length _ (fun x hx => (HOK.out.new.2 x hx).1))
            have HPN := Lib.hid fun (w5 : World) (hw : Wrote w4.drew w5 Yv.D[dn].2.2 (secs ((V.d dn).new.set an s)) 43) => (H4.out.kept (Kept.refl w4).drew).put_new hdD (l := (V.d dn).new.set an s) (by rw [List.length_set]) hw
            have HBN := Lib.hid fun (w5 : World) (hw : Wrote w4.drew w5 Yv.D[dn].2.2 (secs ((V.d dn).new.set an s)) 43) => (HB4.out.trans (But.kept (Kept.refl w4).drew)).trans (But.wrote hw (.inr (.inr (.inr ⟨_, List.getElem_mem hdD, .inr (.inr rfl)⟩))))
            have HXn : Hid (X ≠ Yv.D[dn].2.2) := Lib.hid (block_ty HX4.out HNB.out (by decide))
            generalize hbn : Yv.D[dn].2.2 = bn at *
            generalize hbd : Yv.D[dn].1 = bd at *
            generalize hzl : (V.d dn).new.length = zl at *
            clear hbn hbd hzl
            obtain ⟨p0, p1⟩ := Pl.of HX4.out
            go_upto_region 18 with fail
            have hS : Kept w4 w4.drew := (Kept.refl _).drew
            refine wp_region_calm ?_
            refine wp_region_E (fun W => Kept w4 W) 15 (by kernel_rfl) ?_
            refine wpAnyE_take (i := 0) (v := ?_) (listed' := #[true, false, false, false, false, false, false, false, false, false, false, false, false, false, false, false]) (by rfl) (by kernel_rfl) (by kernel_rfl) calm_put hS (by rfl) ?_ ?_
            rotate_left
            · intro W hW; clear hW; go_simp; try (with_reducible rfl)
            simp only [Act.put, List.getElem_toArray, List.getElem_cons_succ, List.getElem_cons_zero, List.setIfInBounds_toArray, List.set_cons_zero, List.set_cons_succ]
            refine wpAnyE_take (i := 1) (v := ?_) (listed' := #[true, true, false, false, false, false, false, false, false, false, false, false, false, false, false, false]) (by rfl) (by kernel_rfl) (by kernel_rfl) calm_put hS (by rfl) ?_ ?_
            rotate_left
            · intro W hW; clear hW; go_simp; try (with_reducible rfl)
            simp only [Act.put, List.getElem_toArray, List.getElem_cons_succ, List.getElem_cons_zero, List.setIfInBounds_toArray, List.set_cons_zero, List.set_cons_succ]
            refine wpAnyE_take (i := 2) (v := ?_) (listed' := #[true, true, true, false, false, false, false, false, false, false, false, false, false, false, false, false]) (by rfl) (by kernel_rfl) (by kernel_rfl) calm_put hS (by rfl) ?_ ?_
            rotate_left
            · intro W hW; clear hW; go_simp; try (with_reducible rfl)
            simp only [Act.put, List.getElem_toArray, List.getElem_cons_succ, List.getElem_cons_zero, List.setIfInBounds_toArray, List.set_cons_zero, List.set_cons_succ]
            refine wpAnyE_take (i := 3) (v := ?_) (listed' := #[true, true, true, true, false, false, false, false, false, false, false, false, false, false, false, false]) (by rfl) (by kernel_rfl) (by kernel_rfl) calm_put hS (by rfl) ?_ ?_
            rotate_left
            · intro W hW; have b0' := hW.cell' b0; have cr' := hW.cell' cr; have cn' := hW.cell' cn; have p0' := hW.cell' p0; have p1' := hW.cell' p1; go_simp; try (with_reducible rfl)
            simp only [Act.put, List.getElem_toArray, List.getElem_cons_succ, List.getElem_cons_zero, List.setIfInBounds_toArray, List.set_cons_zero, List.set_cons_succ]
            refine wpAnyE_take (i := 4) (v := ?_) (listed' := #[true, true, true, true, true, false, false, false, false, false, false, false, false, false, false, false]) (by rfl) (by kernel_rfl) (by kernel_rfl) calm_put hS (by rfl) ?_ ?_
            rotate_left
            · intro W hW; clear hW; go_simp; try (with_reducible rfl)
            simp only [Act.put, List.getElem_toArray, List.getElem_cons_succ, List.getElem_cons_zero, List.setIfInBounds_toArray, List.set_cons_zero, List.set_cons_succ]
            refine wpAnyE_take (i := 5) (v := ?_) (listed' := #[true, true, true, true, true, true, false, false, false, false, false, false, false, false, false, false]) (by rfl) (by kernel_rfl) (by kernel_rfl) calm_put hS (by rfl) ?_ ?_
            rotate_left
            · intro W hW; have b0' := hW.cell' b0; have cr' := hW.cell' cr; have cn' := hW.cell' cn; have p0' := hW.cell' p0; have p1' := hW.cell' p1; go_simp; try (with_reducible rfl)
            simp only [Act.put, List.getElem_toArray, List.getElem_cons_succ, List.getElem_cons_zero, List.setIfInBounds_toArray, List.set_cons_zero, List.set_cons_succ]
            refine wpAnyE_take (i := 6) (v := ?_) (listed' := #[true, true, true, true, true, true, true, false, false, false, false, false, false, false, false, false]) (by rfl) (by kernel_rfl) (by kernel_rfl) calm_put hS (by rfl) ?_ ?_
            rotate_left
            · intro W hW; clear hW; go_simp; try (with_reducible rfl)
            simp only [Act.put, List.getElem_toArray, List.getElem_cons_succ, List.getElem_cons_zero, List.setIfInBounds_toArray, List.set_cons_zero, List.set_cons_succ]
            refine wpAnyE_take (i := 7) (v := ?_) (listed' := #[true, true, true, true, true, true, true, true, false, false, false, false, false, false, false, false]) (by rfl) (by kernel_rfl) (by kernel_rfl) calm_put hS (by rfl) ?_ ?_
            rotate_left
            · intro W hW; have b0' := hW.cell' b0; have cr' := hW.cell' cr; have cn' := hW.cell' cn; have p0' := hW.cell' p0; have p1' := hW.cell' p1; go_simp; try (with_reducible rfl)
            simp only [Act.put, List.getElem_toArray, List.getElem_cons_succ, List.getElem_cons_zero, List.setIfInBounds_toArray, List.set_cons_zero, List.set_cons_succ]
            refine wpAnyE_take (i := 8) (v := ?_) (listed' := #[true, true, true, true, true, true, true, true, true, false, false, false, false, false, false, false]) (by rfl) (by kernel_rfl) (by kernel_rfl) calm_put hS (by rfl) ?_ ?_
            rotate_left
            · intro W hW; clear hW; go_simp; try (with_reducible rfl)
            simp only [Act.put, List.getElem_toArray, List.getElem_cons_succ, List.getElem_cons_zero, List.setIfInBounds_toArray, List.set_cons_zero, List.set_cons_succ]
            refine wpAnyE_take (i := 9) (v := ?_) (listed' := #[true, true, true, true, true, true, true, true, true, true, false, false, false, false, false, false]) (by rfl) (by kernel_rfl) (by kernel_rfl) calm_put hS (by rfl) ?_ ?_
            rotate_left
            · intro W hW; clear hW; go_simp; try (with_reducible rfl)
            simp only [Act.put, List.getElem_toArray, List.getElem_cons_succ, List.getElem_cons_zero, List.setIfInBounds_toArray, List.set_cons_zero, List.set_cons_succ]
            refine wpAnyE_take (i := 10) (v := ?_) (listed' := #[true, true, true, true, true, true, true, true, true, true, true, false, false, false, false, false]) (by rfl) (by kernel_rfl) (by kernel_rfl) calm_put hS (by rfl) ?_ ?_
            rotate_left
            · intro W hW; have b0' := hW.cell' b0; have cr' := hW.cell' cr; have cn' := hW.cell' cn; have p0' := hW.cell' p0; have p1' := hW.cell' p1; go_simp; try (with_reducible rfl)
            simp only [Act.put, List.getElem_toArray, List.getElem_cons_succ, List.getElem_cons_zero, List.setIfInBounds_toArray, List.set_cons_zero, List.set_cons_succ]
            refine wpAnyE_take (i := 11) (v := ?_) (listed' := #[true, true, true, true, true, true, true, true, true, true, true, true, false, false, false, false]) (by rfl) (by kernel_rfl) (by kernel_rfl) calm_put hS (by rfl) ?_ ?_
            rotate_left
            · intro W hW; clear hW; go_simp; try (with_reducible rfl)
            simp only [Act.put, List.getElem_toArray, List.getElem_cons_succ, List.getElem_cons_zero, List.setIfInBounds_toArray, List.set_cons_zero, List.set_cons_succ]
            refine wpAnyE_take (i := 12) (v := ?_) (listed' := #[true, true, true, true, true, true, true, true, true, true, true, true, true, false, false, false]) (by rfl) (by kernel_rfl) (by kernel_rfl) calm_put hS (by rfl) ?_ ?_
            rotate_left
            · intro W hW; have b0' := hW.cell' b0; have cr' := hW.cell' cr; have cn' := hW.cell' cn; have p0' := hW.cell' p0; have p1' := hW.cell' p1; go_simp; try (with_reducible rfl)
            simp only [Act.put, List.getElem_toArray, List.getElem_cons_succ, List.getElem_cons_zero, List.setIfInBounds_toArray, List.set_cons_zero, List.set_cons_succ]
            refine wpAnyE_take (i := 13) (v := .agg (u8s s).toArray) (listed' := #[true, true, true, true, true, true, true, true, true, true, true, true, true, true, false, false]) (by rfl) (by kernel_rfl) (by kernel_rfl) calm_put hS (by rfl) ?_ ?_
            · intro W hW; have b0' := hW.cell' b0; have cr' := hW.cell' cr; have cn' := hW.cell' cn; have p0' := hW.cell' p0; have p1' := hW.cell' p1; exact exec_load_sec _ rfl Z rfl s HS.out (Cells.of_block (hW.block HZ4.out))
            simp only [Act.put, List.getElem_toArray, List.getElem_cons_succ, List.getElem_cons_zero, List.setIfInBounds_toArray, List.set_cons_zero, List.set_cons_succ]
            refine wpAnyE_take (i := 14) (v := ?_) (listed' := #[true, true, true, true, true, true, true, true, true, true, true, true, true, true, true, false]) (by rfl) (by kernel_rfl) (by kernel_rfl) calm_put hS (by rfl) ?_ ?_
            rotate_left
            · intro W hW; clear hW; go_simp; try (with_reducible rfl)
            simp only [Act.put, List.getElem_toArray, List.getElem_cons_succ, List.getElem_cons_zero, List.setIfInBounds_toArray, List.set_cons_zero, List.set_cons_succ]
            refine wpAnyE_one (i := 15) (listed' := #[true, true, true, true, true, true, true, true, true, true, true, true, true, true, true, true]) (by rfl) (by kernel_rfl) (by kernel_rfl) (by rfl) (fun K hK => ?_)
            simp only [Act.put, List.getElem_toArray, List.getElem_cons_succ, List.getElem_cons_zero, List.setIfInBounds_toArray, List.set_cons_zero, List.set_cons_succ]
            refine wp_store_agg _ _ rfl ty_sec bn (an * 64) rfl (u8s s) rfl (by rw [u8s_length, HS.out]) (u8s_one _) _ _ (hS.block HNB.out) (by rw [HQ.out]; omega) ?_
            intro w5 hw5
            rw [HJ.out] at hw5
            refine hK _ _ (fun h => absurd rfl h) ?_; clear hK K
            refine wpAnyE_done (by kernel_rfl) ?_ _
            refine calm_normal ?_
            have H5 := Lib.hid (HPN.out w5 hw5)
            have HB5 := Lib.hid (HBN.out w5 hw5)
            have HX5 := Lib.hid ((hw5.oth X HXn.out).trans ((Kept.refl w4).drew.block HX4.out))
            clear hS p0 p1 cr cn b0 hw5 HPN HBN HXn HNB HJ HQ H4 HX4 HZ4 HB4 hal hal2
            obtain ⟨lo, lc, hlv, hrowl⟩ := H5.out.pl
            have c1 := H5.out.b1
            rw [hlv] at c1
            have HROWL := Lib.hid hrowl
            have HLV := Lib.hid hlv
            clear hrowl hlv
            have HLL : Hid (∀ i (hi : i < V.loose.length), ∃ g, lo = some ⟨g, 0, none⟩ ∧ Cells w5 g (i * 2) [.int .i64 (V.loose[i].1 : Int), .int .i64 (V.loose[i].2 : Int)]) := HROWL
            obtain ⟨ll, hll⟩ : ∃ ll, V.loose.length = ll := ⟨_, rfl⟩
            have HLVF : Hid (Yv.lv = .slice lo ll lc) := Lib.hid (by rw [← hll]; exact HLV.out)
            replace c1 : w5.cell? ⟨Yv.q, 1, none⟩ = some (.slice lo ll lc) := by rw [← hll]; exact c1
            clear HROWL HLV
            have HPUT : Hid (∀ L, (if (dn, an) ∈ V.loose then V.loose else V.loose ++ [(dn, an)]) = L → V.putW dn an s = { (V.up dn { V.d dn with new := (V.d dn).new.set an s }) with loose := L }) := Lib.hid fun L hL => by unfold RT.putW; rw [hL]
            have hmany : ll < 9000 := by rw [← hll]; exact HVM.out
            have HLLN := Lib.hid hll; clear hll
            go_wp2
            go_loopw [9] (fun i wr => ∃ k : Nat, k ≤ ll ∧ i = .int .i64 k ∧ Hid (Kept w5 wr) ∧ Hid (∀ j, j < k → V.loose[j]? ≠ some (dn, an))) (fun i _ => ll - (intOf i).toNat)
            case atStart => exact ⟨0, Nat.zero_le _, rfl, Lib.hid (Kept.refl _), Lib.hid fun j hj => absurd hj (Nat.not_lt_zero _)⟩
            case round =>
              obtain ⟨k, hk, rfl, HKW, HNO⟩ := hrel
              have c1' := HKW.out.cell' c1
              by_cases hlt : k < ll
              · have hkl : k < V.loose.length := by rw [HLLN.out]; exact hlt
                obtain ⟨lg, rfl, hcl⟩ := HLL.out k hkl
                have HCL := Lib.hid (Cells.kept hcl HKW.out)
                have hget : V.loose[k]? = some V.loose[k] := List.getElem?_eq_getElem hkl
                have HGET := Lib.hid hget
                have heq : (((V.loose[k].1 : Int) == (dn : Int)) && ((V.loose[k].2 : Int) == (an : Int))) = true ∨ (((V.loose[k].1 : Int) == (dn : Int)) && ((V.loose[k].2 : Int) == (an : Int))) = false := by cases (((V.loose[k].1 : Int) == (dn : Int)) && ((V.loose[k].2 : Int) == (an : Int))) <;> simp
                have HKEY : Hid ((((V.loose[k].1 : Int) == (dn : Int)) && ((V.loose[k].2 : Int) == (an : Int))) = true ↔ V.loose[k] = (dn, an)) := Lib.hid (by
                  simp only [Bool.and_eq_true, beq_iff_eq]
                  constructor
                  · rintro ⟨e1, e2⟩; exact Prod.ext (by omega) (by omega)
                  · intro e; rw [e]; exact ⟨rfl, rfl⟩)
                clear hcl hget
                generalize V.loose[k] = pk at *
                have HXW := Lib.hid (HKW.out.block HX5.out)
                go_upto_region 22 with fail
                have hS : Kept wr wr.drew := (Kept.refl _).drew
                rcases heq with heq | heq
                · have HEQ := Lib.hid heq
                  refine wp_region_calm ?_
                  refine wp_region_E (fun W => Kept wr W) 100 (by kernel_rfl) ?_
                  refine wpAnyE_take (i := 0) (v := ?_) (listed' := #[true, false, false, false, false, false, false, false, false]) (by rfl) (by kernel_rfl) (by kernel_rfl) calm_put hS (by rfl) ?_ ?_
                  rotate_left
                  · intro W hW; clear hW; go_simp; try (with_reducible rfl)
                  simp only [Act.put, List.getElem_toArray, List.getElem_cons_succ, List.getElem_cons_zero, List.setIfInBounds_toArray, List.set_cons_zero, List.set_cons_succ]
                  refine wpAnyE_take (i := 1) (v := ?_) (listed' := #[true, true, false, false, false, false, false, false, false]) (by rfl) (by kernel_rfl) (by kernel_rfl) calm_put hS (by rfl) ?_ ?_
                  rotate_left
                  · intro W hW; clear hW; go_simp; try (with_reducible rfl)
                  simp only [Act.put, List.getElem_toArray, List.getElem_cons_succ, List.getElem_cons_zero, List.setIfInBounds_toArray, List.set_cons_zero, List.set_cons_succ]
                  refine wpAnyE_take (i := 2) (v := ?_) (listed' := #[true, true, true, false, false, false, false, false, false]) (by rfl) (by kernel_rfl) (by kernel_rfl) calm_put hS (by rfl) ?_ ?_
                  rotate_left
                  · intro W hW; clear hW; go_simp; try (with_reducible rfl)
                  simp only [Act.put, List.getElem_toArray, List.getElem_cons_succ, List.getElem_cons_zero, List.setIfInBounds_toArray, List.set_cons_zero, List.set_cons_succ]
                  refine wpAnyE_take (i := 3) (v := ?_) (listed' := #[true, true, true, true, false, false, false, false, false]) (by rfl) (by kernel_rfl) (by kernel_rfl) calm_put hS (by rfl) ?_ ?_
                  rotate_left
                  · intro W hW; have c1'' := hW.cell' c1'; go_simp; try (with_reducible rfl)
                  simp only [Act.put, List.getElem_toArray, List.getElem_cons_succ, List.getElem_cons_zero, List.setIfInBounds_toArray, List.set_cons_zero, List.set_cons_succ]
                  refine wpAnyE_take (i := 4) (v := ?_) (listed' := #[true, true, true, true, true, false, false, false, false]) (by rfl) (by kernel_rfl) (by kernel_rfl) calm_put hS (by rfl) ?_ ?_
                  rotate_left
                  · intro W hW; clear hW; go_simp; try (with_reducible rfl)
                  simp only [Act.put, List.getElem_toArray, List.getElem_cons_succ, List.getElem_cons_zero, List.setIfInBounds_toArray, List.set_cons_zero, List.set_cons_succ]
                  refine wpAnyE_take (i := 5) (v := ?_) (listed' := #[true, true, true, true, true, true, false, false, false]) (by rfl) (by kernel_rfl) (by kernel_rfl) calm_put hS (by rfl) ?_ ?_
                  rotate_left
                  · intro W hW; clear hW; go_simp; try (with_reducible rfl)
                  simp only [Act.put, List.getElem_toArray, List.getElem_cons_succ, List.getElem_cons_zero, List.setIfInBounds_toArray, List.set_cons_zero, List.set_cons_succ]
                  refine wpAnyE_take (i := 6) (v := .agg #[.int .i64 (pk.1 : Int), .int .i64 (pk.2 : Int)]) (listed' := #[true, true, true, true, true, true, true, false, false]) (by rfl) (by kernel_rfl) (by kernel_rfl) calm_put hS (by rfl) ?_ ?_
                  · intro W hW; have c1'' := hW.cell' c1'; exact exec_load_plcO _ rfl lg (k * 2) rfl [.int .i64 (pk.1 : Int), .int .i64 (pk.2 : Int)] rfl (Cells.kept HCL.out hW)
                  simp only [Act.put, List.getElem_toArray, List.getElem_cons_succ, List.getElem_cons_zero, List.setIfInBounds_toArray, List.set_cons_zero, List.set_cons_succ]
                  refine wpAnyE_take (i := 7) (v := .agg #[.int .i64 (dn : Int), .int .i64 (an : Int)]) (listed' := #[true, true, true, true, true, true, true, true, false]) (by rfl) (by kernel_rfl) (by kernel_rfl) calm_put hS (by rfl) ?_ ?_
                  · intro W hW; have c1'' := hW.cell' c1'; exact exec_load_plc _ rfl X rfl [.int .i64 (dn : Int), .int .i64 (an : Int)] rfl (Cells.of_block (hW.block HXW.out))
                  simp only [Act.put, List.getElem_toArray, List.getElem_cons_succ, List.getElem_cons_zero, List.setIfInBounds_toArray, List.set_cons_zero, List.set_cons_succ]
                  refine wpAnyE_take (i := 8) (v := .bool true) (listed' := #[true, true, true, true, true, true, true, true, true]) (by rfl) (by kernel_rfl) (by kernel_rfl) calm_put hS (by rfl) ?_ ?_
                  · intro W hW; clear hW; exact exec_eq_plcB _ _ rfl _ _ _ _ true HEQ.out rfl rfl
                  simp only [Act.put, List.getElem_toArray, List.getElem_cons_succ, List.getElem_cons_zero, List.setIfInBounds_toArray, List.set_cons_zero, List.set_cons_succ]
                  refine wpAnyE_done (by kernel_rfl) ?_ _
                  refine calm_normal ?_
                  have hmem : (dn, an) ∈ V.loose := by
                    rw [HKEY.out.1 HEQ.out] at HGET
                    exact List.mem_of_getElem? HGET.out
                  have HFIN := Lib.hid (HPUT.out _ (if_pos hmem))
                  have HK2 := Lib.hid (HKW.out.trans hS)
                  have HE := Lib.hid (HTO.out (V.putW dn an s) _ (RfTo.of (by rw [HFIN.out]; exact H5.out.kept HK2.out) (HB5.out.trans (But.kept HK2.out))))
                  clear heq hmem hS
                  go_wp2
                  go_ret
                  exact ⟨by rw [HWR.out]; rfl, by rw [HWR.out]; exact HE.out⟩
                · have HEQ := Lib.hid heq
                  refine wp_region_calm ?_
                  refine wp_region_E (fun W => Kept wr W) 100 (by kernel_rfl) ?_
                  refine wpAnyE_take (i := 0) (v := ?_) (listed' := #[true, false, false, false, false, false, false, false, false]) (by rfl) (by kernel_rfl) (by kernel_rfl) calm_put hS (by rfl) ?_ ?_
                  rotate_left
                  · intro W hW; clear hW; go_simp; try (with_reducible rfl)
                  simp only [Act.put, List.getElem_toArray, List.getElem_cons_succ, List.getElem_cons_zero, List.setIfInBounds_toArray, List.set_cons_zero, List.set_cons_succ]
                  refine wpAnyE_take (i := 1) (v := ?_) (listed' := #[true, true, false, false, false, false, false, false, false]) (by rfl) (by kernel_rfl) (by kernel_rfl) calm_put hS (by rfl) ?_ ?_
                  rotate_left
                  · intro W hW; clear hW; go_simp; try (with_reducible rfl)
                  simp only [Act.put, List.getElem_toArray, List.getElem_cons_succ, List.getElem_cons_zero, List.setIfInBounds_toArray, List.set_cons_zero, List.set_cons_succ]
                  refine wpAnyE_take (i := 2) (v := ?_) (listed' := #[true, true, true, false, false, false, false, false, false]) (by rfl) (by kernel_rfl) (by kernel_rfl) calm_put hS (by rfl) ?_ ?_
                  rotate_left
                  · intro W hW; clear hW; go_simp; try (with_reducible rfl)
                  simp only [Act.put, List.getElem_toArray, List.getElem_cons_succ, List.getElem_cons_zero, List.setIfInBounds_toArray, List.set_cons_zero, List.set_cons_succ]
                  refine wpAnyE_take (i := 3) (v := ?_) (listed' := #[true, true, true, true, false, false, false, false, false]) (by rfl) (by kernel_rfl) (by kernel_rfl) calm_put hS (by rfl) ?_ ?_
                  rotate_left
                  · intro W hW; have c1'' := hW.cell' c1'; go_simp; try (with_reducible rfl)
                  simp only [Act.put, List.getElem_toArray, List.getElem_cons_succ, List.getElem_cons_zero, List.setIfInBounds_toArray, List.set_cons_zero, List.set_cons_succ]
                  refine wpAnyE_take (i := 4) (v := ?_) (listed' := #[true, true, true, true, true, false, false, false, false]) (by rfl) (by kernel_rfl) (by kernel_rfl) calm_put hS (by rfl) ?_ ?_
                  rotate_left
                  · intro W hW; clear hW; go_simp; try (with_reducible rfl)
                  simp only [Act.put, List.getElem_toArray, List.getElem_cons_succ, List.getElem_cons_zero, List.setIfInBounds_toArray, List.set_cons_zero, List.set_cons_succ]
                  refine wpAnyE_take (i := 5) (v := ?_) (listed' := #[true, true, true, true, true, true, false, false, false]) (by rfl) (by kernel_rfl) (by kernel_rfl) calm_put hS (by rfl) ?_ ?_
                  rotate_left
                  · intro W hW; clear hW; go_simp; try (with_reducible rfl)
                  simp only [Act.put, List.getElem_toArray, List.getElem_cons_succ, List.getElem_cons_zero, List.setIfInBounds_toArray, List.set_cons_zero, List.set_cons_succ]
                  refine wpAnyE_take (i := 6) (v := .agg #[.int .i64 (pk.1 : Int), .int .i64 (pk.2 : Int)]) (listed' := #[true, true, true, true, true, true, true, false, false]) (by rfl) (by kernel_rfl) (by kernel_rfl) calm_put hS (by rfl) ?_ ?_
                  · intro W hW; have c1'' := hW.cell' c1'; exact exec_load_plcO _ rfl lg (k * 2) rfl [.int .i64 (pk.1 : Int), .int .i64 (pk.2 : Int)] rfl (Cells.kept HCL.out hW)
                  simp only [Act.put, List.getElem_toArray, List.getElem_cons_succ, List.getElem_cons_zero, List.setIfInBounds_toArray, List.set_cons_zero, List.set_cons_succ]
                  refine wpAnyE_take (i := 7) (v := .agg #[.int .i64 (dn : Int), .int .i64 (an : Int)]) (listed' := #[true, true, true, true, true, true, true, true, false]) (by rfl) (by kernel_rfl) (by kernel_rfl) calm_put hS (by rfl) ?_ ?_
                  · intro W hW; have c1'' := hW.cell' c1'; exact exec_load_plc _ rfl X rfl [.int .i64 (dn : Int), .int .i64 (an : Int)] rfl (Cells.of_block (hW.block HXW.out))
                  simp only [Act.put, List.getElem_toArray, List.getElem_cons_succ, List.getElem_cons_zero, List.setIfInBounds_toArray, List.set_cons_zero, List.set_cons_succ]
                  refine wpAnyE_take (i := 8) (v := .bool false) (listed' := #[true, true, true, true, true, true, true, true, true]) (by rfl) (by kernel_rfl) (by kernel_rfl) calm_put hS (by rfl) ?_ ?_
                  · intro W hW; clear hW; exact exec_eq_plcB _ _ rfl _ _ _ _ false HEQ.out rfl rfl
                  simp only [Act.put, List.getElem_toArray, List.getElem_cons_succ, List.getElem_cons_zero, List.setIfInBounds_toArray, List.set_cons_zero, List.set_cons_succ]
                  refine wpAnyE_done (by kernel_rfl) ?_ _
                  refine calm_normal ?_
                  have HK2 := Lib.hid (HKW.out.trans hS)
                  have HNO2 : Hid (∀ j, j < k + 1 → V.loose[j]? ≠ some (dn, an)) := Lib.hid fun j hj => by
                    by_cases e : j = k
                    · rw [e, HGET.out]
                      intro e2
                      injection e2 with e2
                      have := HKEY.out.2 e2
                      rw [HEQ.out] at this; cases this
                    · exact HNO.out j (by omega)
                  clear heq hS
                  go_wp2
                  go_roundw
                  case rel => exact ⟨k + 1, hlt, by go_num, HK2, HNO2⟩
                  case measure => simp [intOf]; omega
              · have hkl : ll ≤ k := by omega
                have hnm : (dn, an) ∉ V.loose := fun hm => by
                  obtain ⟨j, hj, e⟩ := List.getElem_of_mem hm
                  exact HNO.out j (by rw [HLLN.out] at hj; omega) (by rw [List.getElem?_eq_getElem hj, e])
                have HFIN := Lib.hid (HPUT.out _ (if_neg hnm))
                have H6 := Lib.hid (H5.out.kept (HKW.out.trans (Kept.refl wr).drew))
                have HX6 := Lib.hid (((HKW.out.trans (Kept.refl wr).drew)).block HX5.out)
                have HB6 := Lib.hid (HB5.out.trans (But.kept (HKW.out.trans (Kept.refl wr).drew)))
                clear hnm HNO
                go_upto_region 24 with fail
                have hS : wr.drew.cell? ⟨Yv.q, 1, none⟩ = some (.slice lo ll lc) ∧ Pl wr.drew X (dn : Int) (an : Int) := ⟨(Kept.refl _).drew.cell' c1', Pl.of HX6.out⟩
                obtain ⟨B, hB⟩ : ∃ B, B = Obj.cells #[Value.int .i64 (dn : Int), .int .i64 (an : Int)] 47 := ⟨_, rfl⟩
                obtain ⟨w8, hw8⟩ : ∃ w8, w8 = (wr.alloc B).drew := ⟨_, rfl⟩
                have hk8 : Kept wr.drew w8 := by rw [hw8]; show Kept wr.drew (wr.drew.alloc B); exact (Kept.refl _).alloc _
                have bb : w8.heap[wr.drew.heap.size]? = some B := by rw [hw8]; exact heap_alloc_new wr.drew B
                rw [hB] at bb
                subst hB
                have h8 := H6.out.kept hk8
                obtain ⟨v', w9, hrun, hown, hgrw⟩ := own_append ty_places (b := wr.drew.heap.size) h8.loo (by show V.loose.length < 20000; rw [HLLN.out]; omega) (by decide) [.int .i64 (dn : Int), .int .i64 (an : Int)] rfl (fun j u hu => by
                  match j with
                  | 0 => simp at hu; subst hu; exact cell_of_row _ _ 0 _ _ _ bb
                  | 1 => simp at hu; subst hu; exact cell_of_row _ _ 1 _ _ _ bb
                  | j + 2 => simp at hu) (one_plc _ _) 39
                have hnq : Yv.lv.ownBlock ≠ some Yv.q := own_other h8.loo h8.bank (by decide)
                have hq9 : w9.heap[Yv.q]? = w8.heap[Yv.q]? := hgrw.blk (h8.lt (.inl rfl)) hnq
                have hS8 : w8.cell? ⟨Yv.q, 1, none⟩ = some (.slice lo ll lc) ∧ Pl w8 X (dn : Int) (an : Int) := ⟨hk8.cell' hS.1, hS.2.kept hk8⟩
                have hxn : Yv.lv.ownBlock ≠ some X := fun e => HXI.out X (.inr (.inr (.inl e))) rfl
                have hS9 : w9.cell? ⟨Yv.q, 1, none⟩ = some (.slice lo ll lc) ∧ Pl w9 X (dn : Int) (an : Int) := ⟨(World.cell?_of_block (a := ⟨Yv.q, 1, none⟩) hq9).trans hS8.1, hS8.2.same (hgrw.blk (Array.getElem?_eq_some_iff.1 (hk8.block HX6.out)).1 hxn)⟩
                obtain ⟨bo, cap', hvf⟩ : ∃ bo cap', v' = .slice bo (V.loose.length + 1) cap' := by
                  rcases hown.2 with ⟨_, h0⟩ | ⟨g, c, cur, e, _⟩
                  · cases h0
                  · exact ⟨_, c, e⟩
                have HB9 := Lib.hid (hq9.trans h8.bank)
                have H8 := Lib.hid h8
                have HOWN := Lib.hid hown; have HGRW := Lib.hid hgrw; have HVF := Lib.hid hvf; have HK8 := Lib.hid hk8
                clear bb h8 hnq hq9 hxn hown hgrw hvf hk8
                refine wp_region_calm ?_
                refine wp_region_E (fun W => W.cell? ⟨Yv.q, 1, none⟩ = some (.slice lo ll lc) ∧ Pl W X (dn : Int) (an : Int)) 10 (by kernel_rfl) ?_
                refine wpAnyE_take (i := 0) (v := ?_) (listed' := #[true, false, false, false, false, false, false, false, false, false, false]) (by rfl) (by kernel_rfl) (by kernel_rfl) calm_put hS (by rfl) ?_ ?_
                rotate_left
                · intro W hW; clear hW; go_simp; try (with_reducible rfl)
                simp only [Act.put, List.getElem_toArray, List.getElem_cons_succ, List.getElem_cons_zero, List.setIfInBounds_toArray, List.set_cons_zero, List.set_cons_succ]
                refine wpAnyE_take (i := 1) (v := ?_) (listed' := #[true, true, false, false, false, false, false, false, false, false, false]) (by rfl) (by kernel_rfl) (by kernel_rfl) calm_put hS (by rfl) ?_ ?_
                rotate_left
                · intro W hW; clear hW; go_simp; try (with_reducible rfl)
                simp only [Act.put, List.getElem_toArray, List.getElem_cons_succ, List.getElem_cons_zero, List.setIfInBounds_toArray, List.set_cons_zero, List.set_cons_succ]
                refine wpAnyE_take (i := 2) (v := ?_) (listed' := #[true, true, true, false, false, false, false, false, false, false, false]) (by rfl) (by kernel_rfl) (by kernel_rfl) calm_put hS (by rfl) ?_ ?_
                rotate_left
                · intro W hW; clear hW; go_simp; try (with_reducible rfl)
                simp only [Act.put, List.getElem_toArray, List.getElem_cons_succ, List.getElem_cons_zero, List.setIfInBounds_toArray, List.set_cons_zero, List.set_cons_succ]
                refine wpAnyE_take (i := 3) (v := ?_) (listed' := #[true, true, true, true, false, false, false, false, false, false, false]) (by rfl) (by kernel_rfl) (by kernel_rfl) calm_put hS (by rfl) ?_ ?_
                rotate_left
                · intro W hW; clear hW; go_simp; try (with_reducible rfl)
                simp only [Act.put, List.getElem_toArray, List.getElem_cons_succ, List.getElem_cons_zero, List.setIfInBounds_toArray, List.set_cons_zero, List.set_cons_succ]
                refine wpAnyE_take (i := 4) (v := ?_) (listed' := #[true, true, true, true, true, false, false, false, false, false, false]) (by rfl) (by kernel_rfl) (by kernel_rfl) calm_put hS (by rfl) ?_ ?_
                rotate_left
                · intro W hW; obtain ⟨c1'', p0, p1⟩ := hW; go_simp; try (with_reducible rfl)
                simp only [Act.put, List.getElem_toArray, List.getElem_cons_succ, List.getElem_cons_zero, List.setIfInBounds_toArray, List.set_cons_zero, List.set_cons_succ]
                refine wpAnyE_take (i := 5) (v := ?_) (listed' := #[true, true, true, true, true, true, false, false, false, false, false]) (by rfl) (by kernel_rfl) (by kernel_rfl) calm_put hS (by rfl) ?_ ?_
                rotate_left
                · intro W hW; obtain ⟨c1'', p0, p1⟩ := hW; go_simp; try (with_reducible rfl)
                simp only [Act.put, List.getElem_toArray, List.getElem_cons_succ, List.getElem_cons_zero, List.setIfInBounds_toArray, List.set_cons_zero, List.set_cons_succ]
                refine wpAnyE_one (i := 6) (listed' := #[true, true, true, true, true, true, true, false, false, false, false]) (by rfl) (by kernel_rfl) (by kernel_rfl) (by rfl) (fun K hK => ?_)
                simp only [Act.put, List.getElem_toArray, List.getElem_cons_succ, List.getElem_cons_zero, List.setIfInBounds_toArray, List.set_cons_zero, List.set_cons_succ]
                go_wp2
                rw [← hw8]
                have hS := hS8
                refine hK _ _ (fun _ => hS) ?_; clear hK K
                refine wpAnyE_one (i := 7) (listed' := #[true, true, true, true, true, true, true, true, false, false, false]) (by rfl) (by kernel_rfl) (by kernel_rfl) (by rfl) (fun K hK => ?_)
                simp only [Act.put, List.getElem_toArray, List.getElem_cons_succ, List.getElem_cons_zero, List.setIfInBounds_toArray, List.set_cons_zero, List.set_cons_succ]
                refine wp_append_run rfl rfl rfl (by rw [HLVF.out] at hrun; exact hrun) ?_
                have hS := hS9
                refine hK _ _ (fun _ => hS) ?_; clear hK K
                refine wpAnyE_one (i := 8) (listed' := #[true, true, true, true, true, true, true, true, true, false, false]) (by rfl) (by kernel_rfl) (by kernel_rfl) (by rfl) (fun K hK => ?_)
                simp only [Act.put, List.getElem_toArray, List.getElem_cons_succ, List.getElem_cons_zero, List.setIfInBounds_toArray, List.set_cons_zero, List.set_cons_succ]
                go_wp2
                refine hK _ _ (fun _ => hS9) ?_; clear hK K
                refine wpAnyE_take (i := 9) (v := ?_) (listed' := #[true, true, true, true, true, true, true, true, true, true, false]) (by rfl) (by kernel_rfl) (by kernel_rfl) calm_put hS (by rfl) ?_ ?_
                rotate_left
                · intro W hW; clear hW; go_simp; try (with_reducible rfl)
                simp only [Act.put, List.getElem_toArray, List.getElem_cons_succ, List.getElem_cons_zero, List.setIfInBounds_toArray, List.set_cons_zero, List.set_cons_succ]
                refine wpAnyE_one (i := 10) (listed' := #[true, true, true, true, true, true, true, true, true, true, true]) (by rfl) (by kernel_rfl) (by kernel_rfl) (by rfl) (fun K hK => ?_)
                simp only [Act.put, List.getElem_toArray, List.getElem_cons_succ, List.getElem_cons_zero, List.setIfInBounds_toArray, List.set_cons_zero, List.set_cons_succ]
                refine wp_set_cell _ _ rfl size_places Yv.q 1 rfl v' rfl (by rw [HVF.out]; rfl) (by rw [HVF.out]; rfl) _ _ HB9.out (by simp [rbank]) ?_
                intro w10 hw10
                refine hK _ _ (fun h => absurd rfl h) ?_; clear hK K
                refine wpAnyE_done (by kernel_rfl) ?_ _
                refine calm_normal ?_
                have hsz8 := HK8.out.size
                have hszr := HB6.out.size
                have HFF : Hid (RefD w10 { Yv with lv := v' } (V.putW dn an s)) := Lib.hid (by
                  rw [HFIN.out]
                  exact H8.out.put_loose HGRW.out (by rw [pvals_snoc, List.length_append]; exact HOWN.out) hw10)
                have HIN2 : Hid (∀ b, ({ Yv with lv := v' } : RLay).In b → Yv.In b ∨ wv.heap.size ≤ b) := Lib.hid (by
                  rintro b (hb | hb | hb | hb)
                  · exact .inl (.inl hb)
                  · exact .inl (.inr (.inl hb))
                  · rcases HGRW.out with ⟨e, _⟩ | ⟨g', e, hge, _, _⟩
                    · exact .inl (.inr (.inr (.inl (e ▸ hb))))
                    · rw [e] at hb; injection hb with hb; exact .inr (by omega)
                  · exact .inl (.inr (.inr (.inr hb))))
                have HBF : Hid (But Yv.In wv w10) := Lib.hid (by
                  have hG6 : But Yv.In w8 w9 := by
                    rcases HGRW.out with ⟨_, hb⟩ | ⟨_, _, _, _, hk⟩
                    · exact hb.mono fun i hi => .inr (.inr (.inl hi))
                    · exact But.kept hk
                  exact ((HB6.out.trans (But.kept HK8.out)).trans hG6).trans (But.wrote hw10 (.inl rfl)))
                have HE := Lib.hid (HTO.out (V.putW dn an s) _ ⟨{ Yv with lv := v' }, HFF.out, rfl, HIN2.out, HBF.out⟩)
                clear hw10 hrun hS hS8 hS9
                go_wp2
                go_ret
                exact ⟨by rw [HWR.out]; rfl, by rw [HWR.out]; exact HE.out⟩
          · have hx : (V.placeE d a == 0) = false := by simpa using hpl
            rw [if_neg hpl] at HWR
            have HWRN := HWR
            obtain ⟨x, hxe⟩ : ∃ x, x = V.placeE d a := ⟨_, rfl⟩
            rw [← hxe] at hx HP HWRN
            obtain ⟨p0, p1⟩ := Pl.of HXv.out
            clear hxe hpl
            go_wp2_with fail
            refine Calls.mono HP.out ?_
            rintro e w4 ⟨rfl, hk4⟩
            have HE4 := Lib.hid (HTO.out _ _ (RfTo.of (HVD.out.kept hk4) (But.kept hk4)))
            clear hk4
            go_wp2
            go_ret
            exact ⟨by rw [HWRN.out]; rfl, by rw [HWRN.out]; exact HE4.out⟩
        · subst ha1
          go_wp2_with (refine stop_at (o := ⟨none, .store _ _ _, _, _, _, _⟩) ?_)
          refine Stop.mk ?_
          rw [← hqv]
          refine wpList_set_cell rfl _ _ rfl size_intR Yv.q 4 rfl (.int .i64 0) rfl rfl rfl _ _ HVD.out.bank (by simp [rbank]) ?_
          intro w4 hw4
          have hw4' : Wrote wr w4 Yv.q (rbank Yv U1.arm1) 41 := by
            have e : U1.arm1.armed = 0 := by show U1.armed - 1 = 0; rw [HO5.out]; rfl
            unfold rbank
            rw [e]
            exact hw4
          have h4 := HVD.out.top (T' := U1.arm1) rfl rfl hw4'
          have HD4 := Lib.hid h4.1
          have HB4 := Lib.hid (HBV.out.trans' h4.2 HIV.out)
          have b44 := h4.1.b4
          rw [show U1.arm1.armed = 0 from by show U1.armed - 1 = 0; rw [HO5.out]; rfl] at b44
          have b54 : w4.cell? ⟨Yv.q, 5, none⟩ = some (.int .u64 (m : Int)) := by
            have := cell_of_row _ _ 5 _ _ _ h4.1.bank
            rw [this]
            simp only [rbank]
            show some (Value.int .u64 U1.mask) = _
            rw [HO6.out]
          have HWR : Hid (T.write d a s = (U1.arm1.crash (m : Int), 6)) := Lib.hid (by
            have : T.tick = (U1.arm1.crash (m : Int), false) := by rw [HTK2.out]; simp
            rw [HWRT.out, this, if_pos rfl])
          have HCR := Lib.hid (rf_Crash HD4.out HVO.out.arm1 m)
          rw [hqv] at b44 b54 HCR
          clear h4 hw4 hw4' b4 b5 b0
          go_wp2_with fail
          refine Calls.mono HCR.out ?_
          rintro e w5 ⟨rfl, h5⟩
          have HE := Lib.hid (HRT.out _ w4 Yv w5 (hqv.trans HQ0.out) HIV.out HB4.out h5)
          clear h5
          go_wp2
          go_ret
          exact ⟨by rw [HWR.out]; rfl, by rw [HWR.out]; exact HE.out⟩
        · go_wp2_with (refine stop_at (o := ⟨none, .store _ _ _, _, _, _, _⟩) ?_)
          refine Stop.mk ?_
          rw [← hqv]
          refine wpList_set_cell rfl _ _ rfl size_intR Yv.q 4 rfl (.int .i64 (ar - 1)) rfl rfl rfl _ _ HVD.out.bank (by simp [rbank]) ?_
          intro w4 hw4
          have he4 : U1.arm1.armed = ar - 1 := by show U1.armed - 1 = _; rw [HO5.out]
          have hw4' : Wrote wr w4 Yv.q (rbank Yv U1.arm1) 41 := by
            unfold rbank
            rw [he4]
            exact hw4
          have h4 := HVD.out.top (T' := U1.arm1) rfl rfl hw4'
          have hb4 := HBV.out.trans' h4.2 HIV.out
          have b44 := h4.1.b4
          rw [he4] at b44
          have hne : (ar - 1 == 0) = false := by simp; omega
          obtain ⟨hxx, hzz, _⟩ := HBZ.out _ Yv HIV.out hb4
          obtain ⟨hxx0, hzz0, _⟩ := HBZ.out _ Yv HIV.out HBV.out
          obtain ⟨V, hV⟩ : ∃ V, V = U1.arm1 := ⟨_, rfl⟩
          obtain ⟨wv, hwv⟩ : ∃ wv, wv = w4 := ⟨_, rfl⟩
          have HWR : Hid (T.write d a s = if V.placeE d a = 0 then (V.putW d.toNat a.toNat s, 0) else (V, V.placeE d a)) := Lib.hid (by
            have : T.tick = (U1.arm1, true) := by rw [HTK2.out, if_pos (by omega), if_neg (by omega)]
            rw [HWRT.out, this, hV, if_neg (by simp)])
          have HTO : Hid (∀ U' w', RfTo wv Yv U' w' → RfTo w Y U' w') := Lib.hid fun U' w' hr => HRT.out U' w4 Yv w' (hqv.trans HQ0.out) HIV.out hb4 (by rw [← hwv]; exact hr)
          have HXv := Lib.hid (hxx.trans (hxx0.symm.trans HXr.out))
          have HZv := Lib.hid (hzz.trans (hzz0.symm.trans HZr.out))
          have HVD := Lib.hid h4.1
          have HVO := Lib.hid HVO.out.arm1
          have HVM : Hid (U1.arm1.loose.length < 9000) := Lib.hid HVM.out
          rw [← hwv] at HXv HZv HVD b44 ⊢
          rw [← hV] at HVD HVO HVM
          clear hV hwv HTK2 HWRT HRT HBZ b5 b4 HBV HXr HZr HO5 HO6 o2 hw4 hw4' h4 hb4 hxx hzz hxx0 hzz0 he4 b0
          have hqv2 := hqv
          subst hqv
          have HP := Lib.hid (ref_place HVD.out HVO.out.len (fun k hk => (HVO.out.d hk).len) d a)
          obtain ⟨ao, cap, hL, hrow⟩ := HVD.out.lform
          have b0 := HVD.out.b0
          rw [hL] at b0
          clear hL
          by_cases hpl : V.placeE d a = 0
          · rw [if_pos hpl] at HWR
            rw [hpl] at HP
            obtain ⟨dn, an, rfl, rfl, hd, ha⟩ := RT.placeE_at hpl
            simp only [Int.toNat_natCast] at HWR
            have hdD : dn < Yv.D.length := by rw [HVD.out.len]; exact hd
            have hal2 : (V.d dn).new.length ≤ 4096 := (HVO.out.d hd).len
            have hl32 : V.l.length ≤ 32 := HVO.out.len
            have HOK := Lib.hid (HVO.out.d hd)
            have HAL := Lib.hid ha
            obtain ⟨g, rfl, cr⟩ := hrow dn hdD
            have cn := HVD.out.d1 hdD
            obtain ⟨p0, p1⟩ := Pl.of HXv.out
            have HDD := Lib.hid hdD
            clear hpl hrow ha
            go_wp2_with fail
            refine Calls.mono HP.out ?_
            rintro e w4 ⟨rfl, hk4⟩
            have H4 := Lib.hid (HVD.out.kept hk4)
            have HX4 := Lib.hid (hk4.block HXv.out)
            have HZ4 := Lib.hid (hk4.block HZv.out)
            have HB4 := Lib.hid (But.kept (S := Yv.In) hk4)
            replace b0 := hk4.cell' b0
            replace cr := hk4.cell' cr
            replace cn := hk4.cell' cn
            clear hk4 p0 p1 HP HXv HZv
            have hal := HAL.out
            have HNB : Hid (w4.heap[Yv.D[dn].2.2]? = some (.cells (secs (V.d dn).new).toArray 43 (0, 0))) := Lib.hid (H4.out.new dn hdD)
            have HJ : Hid (splice (secs (V.d dn).new) (an * 64) (u8s s) = secs ((V.d dn).new.set an s)) := Lib.hid (splice_flat _ (fun x hx => (HOK.out.new.2 x hx).1) an hal s HS.out)
            have HQ : Hid ((secs (V.d dn).new).length = (V.d dn).new.length * 64) := Lib.hid (secs_length _ (fun x hx => (HOK.out.new.2 x hx).1))
            have HPN := Lib.hid fun (w5 : World) (hw : Wrote w4.drew w5 Yv.D[dn].2.2 (secs ((V.d dn).new.set an s)) 43) => (H4.out.kept (Kept.refl w4).drew).put_new hdD (l := (V.d dn).new.set an s) (by rw [List.length_set]) hw
            have HBN := Lib.hid fun (w5 : World) (hw : Wrote w4.drew w5 Yv.D[dn].2.2 (secs ((V.d dn).new.set an s)) 43) => (HB4.out.trans (But.kept (Kept.refl w4).drew)).trans (But.wrote hw (.inr (.inr (.inr ⟨_, List.getElem_mem hdD, .inr (.inr rfl)⟩))))
            have HXn : Hid (X ≠ Yv.D[dn].2.2) := Lib.hid (block_ty HX4.out HNB.out (by decide))
            generalize hbn : Yv.D[dn].2.2 = bn at *
            generalize hbd : Yv.D[dn].1 = bd at *
            generalize hzl : (V.d dn).new.length = zl at *
            clear hbn hbd hzl
            obtain ⟨p0, p1⟩ := Pl.of HX4.out
            go_upto_region 18 with fail
            have hS : Kept w4 w4.drew := (Kept.refl _).drew
            refine wp_region_calm ?_
            refine wp_region_E (fun W => Kept w4 W) 15 (by kernel_rfl) ?_
            refine wpAnyE_take (i := 0) (v := ?_) (listed' := #[true, false, false, false, false, false, false, false, false, false, false, false, false, false, false, false]) (by rfl) (by kernel_rfl) (by kernel_rfl) calm_put hS (by rfl) ?_ ?_
            rotate_left
            · intro W hW; clear hW; go_simp; try (with_reducible rfl)
            simp only [Act.put, List.getElem_toArray, List.getElem_cons_succ, List.getElem_cons_zero, List.setIfInBounds_toArray, List.set_cons_zero, List.set_cons_succ]
            refine wpAnyE_take (i := 1) (v := ?_) (listed' := #[true, true, false, false, false, false, false, false, false, false, false, false, false, false, false, false]) (by rfl) (by kernel_rfl) (by kernel_rfl) calm_put hS (by rfl) ?_ ?_
            rotate_left
            · intro W hW; clear hW; go_simp; try (with_reducible rfl)
            simp only [Act.put, List.getElem_toArray, List.getElem_cons_succ, List.getElem_cons_zero, List.setIfInBounds_toArray, List.set_cons_zero, List.set_cons_succ]
            refine wpAnyE_take (i := 2) (v := ?_) (listed' := #[true, true, true, false, false, false, false, false, false, false, false, false, false, false, false, false]) (by rfl) (by kernel_rfl) (by kernel_rfl) calm_put hS (by rfl) ?_ ?_
            rotate_left
            · intro W hW; clear hW; go_simp; try (with_reducible rfl)
            simp only [Act.put, List.getElem_toArray, List.getElem_cons_succ, List.getElem_cons_zero, List.setIfInBounds_toArray, List.set_cons_zero, List.set_cons_succ]
            refine wpAnyE_take (i := 3) (v := ?_) (listed' := #[true, true, true, true, false, false, false, false, false, false, false, false, false, false, false, false]) (by rfl) (by kernel_rfl) (by kernel_rfl) calm_put hS (by rfl) ?_ ?_
            rotate_left
            · intro W hW; have b0' := hW.cell' b0; have cr' := hW.cell' cr; have cn' := hW.cell' cn; have p0' := hW.cell' p0; have p1' := hW.cell' p1; go_simp; try (with_reducible rfl)
            simp only [Act.put, List.getElem_toArray, List.getElem_cons_succ, List.getElem_cons_zero, List.setIfInBounds_toArray, List.set_cons_zero, List.set_cons_succ]
            refine wpAnyE_take (i := 4) (v := ?_) (listed' := #[true, true, true, true, true, false, false, false, false, false, false, false, false, false, false, false]) (by rfl) (by kernel_rfl) (by kernel_rfl) calm_put hS (by rfl) ?_ ?_
            rotate_left
            · intro W hW; clear hW; go_simp; try (with_reducible rfl)
            simp only [Act.put, List.getElem_toArray, List.getElem_cons_succ, List.getElem_cons_zero, List.setIfInBounds_toArray, List.set_cons_zero, List.set_cons_succ]
            refine wpAnyE_take (i := 5) (v := ?_) (listed' := #[true, true, true, true, true, true, false, false, false, false, false, false, false, false, false, false]) (by rfl) (by kernel_rfl) (by kernel_rfl) calm_put hS (by rfl) ?_ ?_
            rotate_left
            · intro W hW; have b0' := hW.cell' b0; have cr' := hW.cell' cr; have cn' := hW.cell' cn; have p0' := hW.cell' p0; have p1' := hW.cell' p1; go_simp; try (with_reducible rfl)
            simp only [Act.put, List.getElem_toArray, List.getElem_cons_succ, List.getElem_cons_zero, List.setIfInBounds_toArray, List.set_cons_zero, List.set_cons_succ]
            refine wpAnyE_take (i := 6) (v := ?_) (listed' := #[true, true, true, true, true, true, true, false, false, false, false, false, false, false, false, false]) (by rfl) (by kernel_rfl) (by kernel_rfl) calm_put hS (by rfl) ?_ ?_
            rotate_left
            · intro W hW; clear hW; go_simp; try (with_reducible rfl)
            simp only [Act.put, List.getElem_toArray, List.getElem_cons_succ, List.getElem_cons_zero, List.setIfInBounds_toArray, List.set_cons_zero, List.set_cons_succ]
            refine wpAnyE_take (i := 7) (v := ?_) (listed' := #[true, true, true, true, true, true, true, true, false, false, false, false, false, false, false, false]) (by rfl) (by kernel_rfl) (by kernel_rfl) calm_put hS (by rfl) ?_ ?_
            rotate_left
            · intro W hW; have b0' := hW.cell' b0; have cr' := hW.cell' cr; have cn' := hW.cell' cn; have p0' := hW.cell' p0; have p1' := hW.cell' p1; go_simp; try (with_reducible rfl)
            simp only [Act.put, List.getElem_toArray, List.getElem_cons_succ, List.getElem_cons_zero, List.setIfInBounds_toArray, List.set_cons_zero, List.set_cons_succ]
            refine wpAnyE_take (i := 8) (v := ?_) (listed' := #[true, true, true, true, true, true, true, true, true, false, false, false, false, false, false, false]) (by rfl) (by kernel_rfl) (by kernel_rfl) calm_put hS (by rfl) ?_ ?_
            rotate_left
            · intro W hW; clear hW; go_simp; try (with_reducible rfl)
            simp only [Act.put, List.getElem_toArray, List.getElem_cons_succ, List.getElem_cons_zero, List.setIfInBounds_toArray, List.set_cons_zero, List.set_cons_succ]
            refine wpAnyE_take (i := 9) (v := ?_) (listed' := #[true, true, true, true, true, true, true, true, true, true, false, false, false, false, false, false]) (by rfl) (by kernel_rfl) (by kernel_rfl) calm_put hS (by rfl) ?_ ?_
            rotate_left
            · intro W hW; clear hW; go_simp; try (with_reducible rfl)
            simp only [Act.put, List.getElem_toArray, List.getElem_cons_succ, List.getElem_cons_zero, List.setIfInBounds_toArray, List.set_cons_zero, List.set_cons_succ]
            refine wpAnyE_take (i := 10) (v := ?_) (listed' := #[true, true, true, true, true, true, true, true, true, true, true, false, false, false, false, false]) (by rfl) (by kernel_rfl) (by kernel_rfl) calm_put hS (by rfl) ?_ ?_
            rotate_left
            · intro W hW; have b0' := hW.cell' b0; have cr' := hW.cell' cr; have cn' := hW.cell' cn; have p0' := hW.cell' p0; have p1' := hW.cell' p1; go_simp; try (with_reducible rfl)
            simp only [Act.put, List.getElem_toArray, List.getElem_cons_succ, List.getElem_cons_zero, List.setIfInBounds_toArray, List.set_cons_zero, List.set_cons_succ]
            refine wpAnyE_take (i := 11) (v := ?_) (listed' := #[true, true, true, true, true, true, true, true, true, true, true, true, false, false, false, false]) (by rfl) (by kernel_rfl) (by kernel_rfl) calm_put hS (by rfl) ?_ ?_
            rotate_left
            · intro W hW; clear hW; go_simp; try (with_reducible rfl)
            simp only [Act.put, List.getElem_toArray, List.getElem_cons_succ, List.getElem_cons_zero, List.setIfInBounds_toArray, List.set_cons_zero, List.set_cons_succ]
            refine wpAnyE_take (i := 12) (v := ?_) (listed' := #[true, true, true, true, true, true, true, true, true, true, true, true, true, false, false, false]) (by rfl) (by kernel_rfl) (by kernel_rfl) calm_put hS (by rfl) ?_ ?_
            rotate_left
            · intro W hW; have b0' := hW.cell' b0; have cr' := hW.cell' cr; have cn' := hW.cell' cn; have p0' := hW.cell' p0; have p1' := hW.cell' p1; go_simp; try (with_reducible rfl)
            simp only [Act.put, List.getElem_toArray, List.getElem_cons_succ, List.getElem_cons_zero, List.setIfInBounds_toArray, List.set_cons_zero, List.set_cons_succ]
            refine wpAnyE_take (i := 13) (v := .agg (u8s s).toArray) (listed' := #[true, true, true, true, true, true, true, true, true, true, true, true, true, true, false, false]) (by rfl) (by kernel_rfl) (by kernel_rfl) calm_put hS (by rfl) ?_ ?_
            · intro W hW; have b0' := hW.cell' b0; have cr' := hW.cell' cr; have cn' := hW.cell' cn; have p0' := hW.cell' p0; have p1' := hW.cell' p1; exact exec_load_sec _ rfl Z rfl s HS.out (Cells.of_block (hW.block HZ4.out))
            simp only [Act.put, List.getElem_toArray, List.getElem_cons_succ, List.getElem_cons_zero, List.setIfInBounds_toArray, List.set_cons_zero, List.set_cons_succ]
            refine wpAnyE_take (i := 14) (v := ?_) (listed' := #[true, true, true, true, true, true, true, true, true, true, true, true, true, true, true, false]) (by rfl) (by kernel_rfl) (by kernel_rfl) calm_put hS (by rfl) ?_ ?_
            rotate_left
            · intro W hW; clear hW; go_simp; try (with_reducible rfl)
            simp only [Act.put, List.getElem_toArray, List.getElem_cons_succ, List.getElem_cons_zero, List.setIfInBounds_toArray, List.set_cons_zero, List.set_cons_succ]
            refine wpAnyE_one (i := 15) (listed' := #[true, true, true, true, true, true, true, true, true, true, true, true, true, true, true, true]) (by rfl) (by kernel_rfl) (by kernel_rfl) (by rfl) (fun K hK => ?_)
            simp only [Act.put, List.getElem_toArray, List.getElem_cons_succ, List.getElem_cons_zero, List.setIfInBounds_toArray, List.set_cons_zero, List.set_cons_succ]
            refine wp_store_agg _ _ rfl ty_sec bn (an * 64) rfl (u8s s) rfl (by rw [u8s_length, HS.out]) (u8s_one _) _ _ (hS.block HNB.out) (by rw [HQ.out]; omega) ?_
            intro w5 hw5
            rw [HJ.out] at hw5
            refine hK _ _ (fun h => absurd rfl h) ?_; clear hK K
            refine wpAnyE_done (by kernel_rfl) ?_ _
            refine calm_normal ?_
            have H5 := Lib.hid (HPN.out w5 hw5)
            have HB5 := Lib.hid (HBN.out w5 hw5)
            have HX5 := Lib.hid ((hw5.oth X HXn.out).trans ((Kept.refl w4).drew.block HX4.out))
            clear hS p0 p1 cr cn b0 hw5 HPN HBN HXn HNB HJ HQ H4 HX4 HZ4 HB4 hal hal2
            obtain ⟨lo, lc, hlv, hrowl⟩ := H5.out.pl
            have c1 := H5.out.b1
            rw [hlv] at c1
            have HROWL := Lib.hid hrowl
            have HLV := Lib.hid hlv
            clear hrowl hlv
            have HLL : Hid (∀ i (hi : i < V.loose.length), ∃ g, lo = some ⟨g, 0, none⟩ ∧ Cells w5 g (i * 2) [.int .i64 (V.loose[i].1 : Int), .int .i64 (V.loose[i].2 : Int)]) := HROWL
            obtain ⟨ll, hll⟩ : ∃ ll, V.loose.length = ll := ⟨_, rfl⟩
            have HLVF : Hid (Yv.lv = .slice lo ll lc) := Lib.hid (by rw [← hll]; exact HLV.out)
            replace c1 : w5.cell? ⟨Yv.q, 1, none⟩ = some (.slice lo ll lc) := by rw [← hll]; exact c1
            clear HROWL HLV
            have HPUT : Hid (∀ L, (if (dn, an) ∈ V.loose then V.loose else V.loose ++ [(dn, an)]) = L → V.putW dn an s = { (V.up dn { V.d dn with new := (V.d dn).new.set an s }) with loose := L }) := Lib.hid fun L hL => by unfold RT.putW; rw [hL]
            have hmany : ll < 9000 := by rw [← hll]; exact HVM.out
            have HLLN := Lib.hid hll; clear hll
            go_wp2
            go_loopw [9] (fun i wr => ∃ k : Nat, k ≤ ll ∧ i = .int .i64 k ∧ Hid (Kept w5 wr) ∧ Hid (∀ j, j < k → V.loose[j]? ≠ some (dn, an))) (fun i _ => ll - (intOf i).toNat)
            case atStart => exact ⟨0, Nat.zero_le _, rfl, Lib.hid (Kept.refl _), Lib.hid fun j hj => absurd hj (Nat.not_lt_zero _)⟩
            case round =>
              obtain ⟨k, hk, rfl, HKW, HNO⟩ := hrel
              have c1' := HKW.out.cell' c1
              by_cases hlt : k < ll
              · have hkl : k < V.loose.length := by rw [HLLN.out]; exact hlt
                obtain ⟨lg, rfl, hcl⟩ := HLL.out k hkl
                have HCL := Lib.hid (Cells.kept hcl HKW.out)
                have hget : V.loose[k]? = some V.loose[k] := List.getElem?_eq_getElem hkl
                have HGET := Lib.hid hget
                have heq : (((V.loose[k].1 : Int) == (dn : Int)) && ((V.loose[k].2 : Int) == (an : Int))) = true ∨ (((V.loose[k].1 : Int) == (dn : Int)) && ((V.loose[k].2 : Int) == (an : Int))) = false := by cases (((V.loose[k].1 : Int) == (dn : Int)) && ((V.loose[k].2 : Int) == (an : Int))) <;> simp
                have HKEY : Hid ((((V.loose[k].1 : Int) == (dn : Int)) && ((V.loose[k].2 : Int) == (an : Int))) = true ↔ V.loose[k] = (dn, an)) := Lib.hid (by
                  simp only [Bool.and_eq_true, beq_iff_eq]
                  constructor
                  · rintro ⟨e1, e2⟩; exact Prod.ext (by omega) (by omega)
                  · intro e; rw [e]; exact ⟨rfl, rfl⟩)
                clear hcl hget
                generalize V.loose[k] = pk at *
                have HXW := Lib.hid (HKW.out.block HX5.out)
                go_upto_region 22 with fail
                have hS : Kept wr wr.drew := (Kept.refl _).drew
                rcases heq with heq | heq
                · have HEQ := Lib.hid heq
                  refine wp_region_calm ?_
                  refine wp_region_E (fun W => Kept wr W) 100 (by kernel_rfl) ?_
                  refine wpAnyE_take (i := 0) (v := ?_) (listed' := #[true, false, false, false, false, false, false, false, false]) (by rfl) (by kernel_rfl) (by kernel_rfl) calm_put hS (by rfl) ?_ ?_
                  rotate_left
                  · intro W hW; clear hW; go_simp; try (with_reducible rfl)
                  simp only [Act.put, List.getElem_toArray, List.getElem_cons_succ, List.getElem_cons_zero, List.setIfInBounds_toArray, List.set_cons_zero, List.set_cons_succ]
                  refine wpAnyE_take (i := 1) (v := ?_) (listed' := #[true, true, false, false, false, false, false, false, false]) (by rfl) (by kernel_rfl) (by kernel_rfl) calm_put hS (by rfl) ?_ ?_
                  rotate_left
                  · intro W hW; clear hW; go_simp; try (with_reducible rfl)
                  simp only [Act.put, List.getElem_toArray, List.getElem_cons_succ, List.getElem_cons_zero, List.setIfInBounds_toArray, List.set_cons_zero, List.set_cons_succ]
                  refine wpAnyE_take (i := 2) (v := ?_) (listed' := #[true, true, true, false, false, false, false, false, false]) (by rfl) (by kernel_rfl) (by kernel_rfl) calm_put hS (by rfl) ?_ ?_
                  rotate_left
                  · intro W hW; clear hW; go_simp; try (with_reducible rfl)
                  simp only [Act.put, List.getElem_toArray, List.getElem_cons_succ, List.getElem_cons_zero, List.setIfInBounds_toArray, List.set_cons_zero, List.set_cons_succ]
                  refine wpAnyE_take (i := 3) (v := ?_) (listed' := #[true, true, true, true, false, false, false, false, false]) (by rfl) (by kernel_rfl) (by kernel_rfl) calm_put hS (by rfl) ?_ ?_
                  rotate_left
                  · intro W hW; have c1'' := hW.cell' c1'; go_simp; try (with_reducible rfl)
                  simp only [Act.put, List.getElem_toArray, List.getElem_cons_succ, List.getElem_cons_zero, List.setIfInBounds_toArray, List.set_cons_zero, List.set_cons_succ]
                  refine wpAnyE_take (i := 4) (v := ?_) (listed' := #[true, true, true, true, true, false, false, false, false]) (by rfl) (by kernel_rfl) (by kernel_rfl) calm_put hS (by rfl) ?_ ?_
                  rotate_left
                  · intro W hW; clear hW; go_simp; try (with_reducible rfl)
                  simp only [Act.put, List.getElem_toArray, List.getElem_cons_succ, List.getElem_cons_zero, List.setIfInBounds_toArray, List.set_cons_zero, List.set_cons_succ]
                  refine wpAnyE_take (i := 5) (v := ?_) (listed' := #[true, true, true, true, true, true, false, false, false]) (by rfl) (by kernel_rfl) (by kernel_rfl) calm_put hS (by rfl) ?_ ?_
                  rotate_left
                  · intro W hW; clear hW; go_simp; try (with_reducible rfl)
                  simp only [Act.put, List.getElem_toArray, List.getElem_cons_succ, List.getElem_cons_zero, List.setIfInBounds_toArray, List.set_cons_zero, List.set_cons_succ]
                  refine wpAnyE_take (i := 6) (v := .agg #[.int .i64 (pk.1 : Int), .int .i64 (pk.2 : Int)]) (listed' := #[true, true, true, true, true, true, true, false, false]) (by rfl) (by kernel_rfl) (by kernel_rfl) calm_put hS (by rfl) ?_ ?_
                  · intro W hW; have c1'' := hW.cell' c1'; exact exec_load_plcO _ rfl lg (k * 2) rfl [.int .i64 (pk.1 : Int), .int .i64 (pk.2 : Int)] rfl (Cells.kept HCL.out hW)
                  simp only [Act.put, List.getElem_toArray, List.getElem_cons_succ, List.getElem_cons_zero, List.setIfInBounds_toArray, List.set_cons_zero, List.set_cons_succ]
                  refine wpAnyE_take (i := 7) (v := .agg #[.int .i64 (dn : Int), .int .i64 (an : Int)]) (listed' := #[true, true, true, true, true, true, true, true, false]) (by rfl) (by kernel_rfl) (by kernel_rfl) calm_put hS (by rfl) ?_ ?_
                  · intro W hW; have c1'' := hW.cell' c1'; exact exec_load_plc _ rfl X rfl [.int .i64 (dn : Int), .int .i64 (an : Int)] rfl (Cells.of_block (hW.block HXW.out))
                  simp only [Act.put, List.getElem_toArray, List.getElem_cons_succ, List.getElem_cons_zero, List.setIfInBounds_toArray, List.set_cons_zero, List.set_cons_succ]
                  refine wpAnyE_take (i := 8) (v := .bool true) (listed' := #[true, true, true, true, true, true, true, true, true]) (by rfl) (by kernel_rfl) (by kernel_rfl) calm_put hS (by rfl) ?_ ?_
                  · intro W hW; clear hW; exact exec_eq_plcB _ _ rfl _ _ _ _ true HEQ.out rfl rfl
                  simp only [Act.put, List.getElem_toArray, List.getElem_cons_succ, List.getElem_cons_zero, List.setIfInBounds_toArray, List.set_cons_zero, List.set_cons_succ]
                  refine wpAnyE_done (by kernel_rfl) ?_ _
                  refine calm_normal ?_
                  have hmem : (dn, an) ∈ V.loose := by
                    rw [HKEY.out.1 HEQ.out] at HGET
                    exact List.mem_of_getElem? HGET.out
                  have HFIN := Lib.hid (HPUT.out _ (if_pos hmem))
                  have HK2 := Lib.hid (HKW.out.trans hS)
                  have HE := Lib.hid (HTO.out (V.putW dn an s) _ (RfTo.of (by rw [HFIN.out]; exact H5.out.kept HK2.out) (HB5.out.trans (But.kept HK2.out))))
                  clear heq hmem hS
                  go_wp2
                  go_ret
                  exact ⟨by rw [HWR.out]; rfl, by rw [HWR.out]; exact HE.out⟩
                · have HEQ := Lib.hid heq
                  refine wp_region_calm ?_
                  refine wp_region_E (fun W => Kept wr W) 100 (by kernel_rfl) ?_
                  refine wpAnyE_take (i := 0) (v := ?_) (listed' := #[true, false, false, false, false, false, false, false, false]) (by rfl) (by kernel_rfl) (by kernel_rfl) calm_put hS (by rfl) ?_ ?_
                  rotate_left
                  · intro W hW; clear hW; go_simp; try (with_reducible rfl)
                  simp only [Act.put, List.getElem_toArray, List.getElem_cons_succ, List.getElem_cons_zero, List.setIfInBounds_toArray, List.set_cons_zero, List.set_cons_succ]
                  refine wpAnyE_take (i := 1) (v := ?_) (listed' := #[true, true, false, false, false, false, false, false, false]) (by rfl) (by kernel_rfl) (by kernel_rfl) calm_put hS (by rfl) ?_ ?_
                  rotate_left
                  · intro W hW; clear hW; go_simp; try (with_reducible rfl)
                  simp only [Act.put, List.getElem_toArray, List.getElem_cons_succ, List.getElem_cons_zero, List.setIfInBounds_toArray, List.set_cons_zero, List.set_cons_succ]
                  refine wpAnyE_take (i := 2) (v := ?_) (listed' := #[true, true, true, false, false, false, false, false, false]) (by rfl) (by kernel_rfl) (by kernel_rfl) calm_put hS (by rfl) ?_ ?_
                  rotate_left
                  · intro W hW; clear hW; go_simp; try (with_reducible rfl)
                  simp only [Act.put, List.getElem_toArray, List.getElem_cons_succ, List.getElem_cons_zero, List.setIfInBounds_toArray, List.set_cons_zero, List.set_cons_succ]
                  refine wpAnyE_take (i := 3) (v := ?_) (listed' := #[true, true, true, true, false, false, false, false, false]) (by rfl) (by kernel_rfl) (by kernel_rfl) calm_put hS (by rfl) ?_ ?_
                  rotate_left
                  · intro W hW; have c1'' := hW.cell' c1'; go_simp; try (with_reducible rfl)
                  simp only [Act.put, List.getElem_toArray, List.getElem_cons_succ, List.getElem_cons_zero, List.setIfInBounds_toArray, List.set_cons_zero, List.set_cons_succ]
                  refine wpAnyE_take (i := 4) (v := ?_) (listed' := #[true, true, true, true, true, false, false, false, false]) (by rfl) (by kernel_rfl) (by kernel_rfl) calm_put hS (by rfl) ?_ ?_
                  rotate_left
                  · intro W hW; clear hW; go_simp; try (with_reducible rfl)
                  simp only [Act.put, List.getElem_toArray, List.getElem_cons_succ, List.getElem_cons_zero, List.setIfInBounds_toArray, List.set_cons_zero, List.set_cons_succ]
                  refine wpAnyE_take (i := 5) (v := ?_) (listed' := #[true, true, true, true, true, true, false, false, false]) (by rfl) (by kernel_rfl) (by kernel_rfl) calm_put hS (by rfl) ?_ ?_
                  rotate_left
                  · intro W hW; clear hW; go_simp; try (with_reducible rfl)
                  simp only [Act.put, List.getElem_toArray, List.getElem_cons_succ, List.getElem_cons_zero, List.setIfInBounds_toArray, List.set_cons_zero, List.set_cons_succ]
                  refine wpAnyE_take (i := 6) (v := .agg #[.int .i64 (pk.1 : Int), .int .i64 (pk.2 : Int)]) (listed' := #[true, true, true, true, true, true, true, false, false]) (by rfl) (by kernel_rfl) (by kernel_rfl) calm_put hS (by rfl) ?_ ?_
                  · intro W hW; have c1'' := hW.cell' c1'; exact exec_load_plcO _ rfl lg (k * 2) rfl [.int .i64 (pk.1 : Int), .int .i64 (pk.2 : Int)] rfl (Cells.kept HCL.out hW)
                  simp only [Act.put, List.getElem_toArray, List.getElem_cons_succ, List.getElem_cons_zero, List.setIfInBounds_toArray, List.set_cons_zero, List.set_cons_succ]
                  refine wpAnyE_take (i := 7) (v := .agg #[.int .i64 (dn : Int), .int .i64 (an : Int)]) (listed' := #[true, true, true, true, true, true, true, true, false]) (by rfl) (by kernel_rfl) (by kernel_rfl) calm_put hS (by rfl) ?_ ?_
                  · intro W hW; have c1'' := hW.cell' c1'; exact exec_load_plc _ rfl X rfl [.int .i64 (dn : Int), .int .i64 (an : Int)] rfl (Cells.of_block (hW.block HXW.out))
                  simp only [Act.put, List.getElem_toArray, List.getElem_cons_succ, List.getElem_cons_zero, List.setIfInBounds_toArray, List.set_cons_zero, List.set_cons_succ]
                  refine wpAnyE_take (i := 8) (v := .bool false) (listed' := #[true, true, true, true, true, true, true, true, true]) (by rfl) (by kernel_rfl) (by kernel_rfl) calm_put hS (by rfl) ?_ ?_
                  · intro W hW; clear hW; exact exec_eq_plcB _ _ rfl _ _ _ _ false HEQ.out rfl rfl
                  simp only [Act.put, List.getElem_toArray, List.getElem_cons_succ, List.getElem_cons_zero, List.setIfInBounds_toArray, List.set_cons_zero, List.set_cons_succ]
                  refine wpAnyE_done (by kernel_rfl) ?_ _
                  refine calm_normal ?_
                  have HK2 := Lib.hid (HKW.out.trans hS)
                  have HNO2 : Hid (∀ j, j < k + 1 → V.loose[j]? ≠ some (dn, an)) := Lib.hid fun j hj => by
                    by_cases e : j = k
                    · rw [e, HGET.out]
                      intro e2
                      injection e2 with e2
                      have := HKEY.out.2 e2
                      rw [HEQ.out] at this; cases this
                    · exact HNO.out j (by omega)
                  clear heq hS
                  go_wp2
                  go_roundw
                  case rel => exact ⟨k + 1, hlt, by go_num, HK2, HNO2⟩
                  case measure => simp [intOf]; omega
              · have hkl : ll ≤ k := by omega
                have hnm : (dn, an) ∉ V.loose := fun hm => by
                  obtain ⟨j, hj, e⟩ := List.getElem_of_mem hm
                  exact HNO.out j (by rw [HLLN.out] at hj; omega) (by rw [List.getElem?_eq_getElem hj, e])
                have HFIN := Lib.hid (HPUT.out _ (if_neg hnm))
                have H6 := Lib.hid (H5.out.kept (HKW.out.trans (Kept.refl wr).drew))
                have HX6 := Lib.hid (((HKW.out.trans (Kept.refl wr).drew)).block HX5.out)
                have HB6 := Lib.hid (HB5.out.trans (But.kept (HKW.out.trans (Kept.refl wr).drew)))
                clear hnm HNO
                go_upto_region 24 with fail
                have hS : wr.drew.cell? ⟨Yv.q, 1, none⟩ = some (.slice lo ll lc) ∧ Pl wr.drew X (dn : Int) (an : Int) := ⟨(Kept.refl _).drew.cell' c1', Pl.of HX6.out⟩
                obtain ⟨B, hB⟩ : ∃ B, B = Obj.cells #[Value.int .i64 (dn : Int), .int .i64 (an : Int)] 47 := ⟨_, rfl⟩
                obtain ⟨w8, hw8⟩ : ∃ w8, w8 = (wr.alloc B).drew := ⟨_, rfl⟩
                have hk8 : Kept wr.drew w8 := by rw [hw8]; show Kept wr.drew (wr.drew.alloc B); exact (Kept.refl _).alloc _
                have bb : w8.heap[wr.drew.heap.size]? = some B := by rw [hw8]; exact heap_alloc_new wr.drew B
                rw [hB] at bb
                subst hB
                have h8 := H6.out.kept hk8
                obtain ⟨v', w9, hrun, hown, hgrw⟩ := own_append ty_places (b := wr.drew.heap.size) h8.loo (by show V.loose.length < 20000; rw [HLLN.out]; omega) (by decide) [.int .i64 (dn : Int), .int .i64 (an : Int)] rfl (fun j u hu => by
                  match j with
                  | 0 => simp at hu; subst hu; exact cell_of_row _ _ 0 _ _ _ bb
                  | 1 => simp at hu; subst hu; exact cell_of_row _ _ 1 _ _ _ bb
                  | j + 2 => simp at hu) (one_plc _ _) 39
                have hnq : Yv.lv.ownBlock ≠ some Yv.q := own_other h8.loo h8.bank (by decide)
                have hq9 : w9.heap[Yv.q]? = w8.heap[Yv.q]? := hgrw.blk (h8.lt (.inl rfl)) hnq
                have hS8 : w8.cell? ⟨Yv.q, 1, none⟩ = some (.slice lo ll lc) ∧ Pl w8 X (dn : Int) (an : Int) := ⟨hk8.cell' hS.1, hS.2.kept hk8⟩
                have hxn : Yv.lv.ownBlock ≠ some X := fun e => HXI.out X (.inr (.inr (.inl e))) rfl
                have hS9 : w9.cell? ⟨Yv.q, 1, none⟩ = some (.slice lo ll lc) ∧ Pl w9 X (dn : Int) (an : Int) := ⟨(World.cell?_of_block (a := ⟨Yv.q, 1, none⟩) hq9).trans hS8.1, hS8.2.same (hgrw.blk (Array.getElem?_eq_some_iff.1 (hk8.block HX6.out)).1 hxn)⟩
                obtain ⟨bo, cap', hvf⟩ : ∃ bo cap', v' = .slice bo (V.loose.length + 1) cap' := by
                  rcases hown.2 with ⟨_, h0⟩ | ⟨g, c, cur, e, _⟩
                  · cases h0
                  · exact ⟨_, c, e⟩
                have HB9 := Lib.hid (hq9.trans h8.bank)
                have H8 := Lib.hid h8
                have HOWN := Lib.hid hown; have HGRW := Lib.hid hgrw; have HVF := Lib.hid hvf; have HK8 := Lib.hid hk8
                clear bb h8 hnq hq9 hxn hown hgrw hvf hk8
                refine wp_region_calm ?_
                refine wp_region_E (fun W => W.cell? ⟨Yv.q, 1, none⟩ = some (.slice lo ll lc) ∧ Pl W X (dn : Int) (an : Int)) 10 (by kernel_rfl) ?_
                refine wpAnyE_take (i := 0) (v := ?_) (listed' := #[true, false, false, false, false, false, false, false, false, false, false]) (by rfl) (by kernel_rfl) (by kernel_rfl) calm_put hS (by rfl) ?_ ?_
                rotate_left
                · intro W hW; clear hW; go_simp; try (with_reducible rfl)
                simp only [Act.put, List.getElem_toArray, List.getElem_cons_succ, List.getElem_cons_zero, List.setIfInBounds_toArray, List.set_cons_zero, List.set_cons_succ]
                refine wpAnyE_take (i := 1) (v := ?_) (listed' := #[true, true, false, false, false, false, false, false, false, false, false]) (by rfl) (by kernel_rfl) (by kernel_rfl) calm_put hS (by rfl) ?_ ?_
                rotate_left
                · intro W hW; clear hW; go_simp; try (with_reducible rfl)
                simp only [Act.put, List.getElem_toArray, List.getElem_cons_succ, List.getElem_cons_zero, List.setIfInBounds_toArray, List.set_cons_zero, List.set_cons_succ]
                refine wpAnyE_take (i := 2) (v := ?_) (listed' := #[true, true, true, false, false, false, false, false, false, false, false]) (by rfl) (by kernel_rfl) (by kernel_rfl) calm_put hS (by rfl) ?_ ?_
                rotate_left
                · intro W hW; clear hW; go_simp; try (with_reducible rfl)
                simp only [Act.put, List.getElem_toArray, List.getElem_cons_succ, List.getElem_cons_zero, List.setIfInBounds_toArray, List.set_cons_zero, List.set_cons_succ]
                refine wpAnyE_take (i := 3) (v := ?_) (listed' := #[true, true, true, true, false, false, false, false, false, false, false]) (by rfl) (by kernel_rfl) (by kernel_rfl) calm_put hS (by rfl) ?_ ?_
                rotate_left
                · intro W hW; clear hW; go_simp; try (with_reducible rfl)
                simp only [Act.put, List.getElem_toArray, List.getElem_cons_succ, List.getElem_cons_zero, List.setIfInBounds_toArray, List.set_cons_zero, List.set_cons_succ]
                refine wpAnyE_take (i := 4) (v := ?_) (listed' := #[true, true, true, true, true, false, false, false, false, false, false]) (by rfl) (by kernel_rfl) (by kernel_rfl) calm_put hS (by rfl) ?_ ?_
                rotate_left
                · intro W hW; obtain ⟨c1'', p0, p1⟩ := hW; go_simp; try (with_reducible rfl)
                simp only [Act.put, List.getElem_toArray, List.getElem_cons_succ, List.getElem_cons_zero, List.setIfInBounds_toArray, List.set_cons_zero, List.set_cons_succ]
                refine wpAnyE_take (i := 5) (v := ?_) (listed' := #[true, true, true, true, true, true, false, false, false, false, false]) (by rfl) (by kernel_rfl) (by kernel_rfl) calm_put hS (by rfl) ?_ ?_
                rotate_left
                · intro W hW; obtain ⟨c1'', p0, p1⟩ := hW; go_simp; try (with_reducible rfl)
                simp only [Act.put, List.getElem_toArray, List.getElem_cons_succ, List.getElem_cons_zero, List.setIfInBounds_toArray, List.set_cons_zero, List.set_cons_succ]
                refine wpAnyE_one (i := 6) (listed' := #[true, true, true, true, true, true, true, false, false, false, false]) (by rfl) (by kernel_rfl) (by kernel_rfl) (by rfl) (fun K hK => ?_)
                simp only [Act.put, List.getElem_toArray, List.getElem_cons_succ, List.getElem_cons_zero, List.setIfInBounds_toArray, List.set_cons_zero, List.set_cons_succ]
                go_wp2
                rw [← hw8]
                have hS := hS8
                refine hK _ _ (fun _ => hS) ?_; clear hK K
                refine wpAnyE_one (i := 7) (listed' := #[true, true, true, true, true, true, true, true, false, false, false]) (by rfl) (by kernel_rfl) (by kernel_rfl) (by rfl) (fun K hK => ?_)
                simp only [Act.put, List.getElem_toArray, List.getElem_cons_succ, List.getElem_cons_zero, List.setIfInBounds_toArray, List.set_cons_zero, List.set_cons_succ]
                refine wp_append_run rfl rfl rfl (by rw [HLVF.out] at hrun; exact hrun) ?_
                have hS := hS9
                refine hK _ _ (fun _ => hS) ?_; clear hK K
                refine wpAnyE_one (i := 8) (listed' := #[true, true, true, true, true, true, true, true, true, false, false]) (by rfl) (by kernel_rfl) (by kernel_rfl) (by rfl) (fun K hK => ?_)
                simp only [Act.put, List.getElem_toArray, List.getElem_cons_succ, List.getElem_cons_zero, List.setIfInBounds_toArray, List.set_cons_zero, List.set_cons_succ]
                go_wp2
                refine hK _ _ (fun _ => hS9) ?_; clear hK K
                refine wpAnyE_take (i := 9) (v := ?_) (listed' := #[true, true, true, true, true, true, true, true, true, true, false]) (by rfl) (by kernel_rfl) (by kernel_rfl) calm_put hS (by rfl) ?_ ?_
                rotate_left
                · intro W hW; clear hW; go_simp; try (with_reducible rfl)
                simp only [Act.put, List.getElem_toArray, List.getElem_cons_succ, List.getElem_cons_zero, List.setIfInBounds_toArray, List.set_cons_zero, List.set_cons_succ]
                refine wpAnyE_one (i := 10) (listed' := #[true, true, true, true, true, true, true, true, true, true, true]) (by rfl) (by kernel_rfl) (by kernel_rfl) (by rfl) (fun K hK => ?_)
                simp only [Act.put, List.getElem_toArray, List.getElem_cons_succ, List.getElem_cons_zero, List.setIfInBounds_toArray, List.set_cons_zero, List.set_cons_succ]
                refine wp_set_cell _ _ rfl size_places Yv.q 1 rfl v' rfl (by rw [HVF.out]; rfl) (by rw [HVF.out]; rfl) _ _ HB9.out (by simp [rbank]) ?_
                intro w10 hw10
                refine hK _ _ (fun h => absurd rfl h) ?_; clear hK K
                refine wpAnyE_done (by kernel_rfl) ?_ _
                refine calm_normal ?_
                have hsz8 := HK8.out.size
                have hszr := HB6.out.size
                have HFF : Hid (RefD w10 { Yv with lv := v' } (V.putW dn an s)) := Lib.hid (by
                  rw [HFIN.out]
                  exact H8.out.put_loose HGRW.out (by rw [pvals_snoc, List.length_append]; exact HOWN.out) hw10)
                have HIN2 : Hid (∀ b, ({ Yv with lv := v' } : RLay).In b → Yv.In b ∨ wv.heap.size ≤ b) := Lib.hid (by
                  rintro b (hb | hb | hb | hb)
                  · exact .inl (.inl hb)
                  · exact .inl (.inr (.inl hb))
                  · rcases HGRW.out with ⟨e, _⟩ | ⟨g', e, hge, _, _⟩
                    · exact .inl (.inr (.inr (.inl (e ▸ hb))))
                    · rw [e] at hb; injection hb with hb; exact .inr (by omega)
                  · exact .inl (.inr (.inr (.inr hb))))
                have HBF : Hid (But Yv.In wv w10) := Lib.hid (by
                  have hG6 : But Yv.In w8 w9 := by
                    rcases HGRW.out with ⟨_, hb⟩ | ⟨_, _, _, _, hk⟩
                    · exact hb.mono fun i hi => .inr (.inr (.inl hi))
                    · exact But.kept hk
                  exact ((HB6.out.trans (But.kept HK8.out)).trans hG6).trans (But.wrote hw10 (.inl rfl)))
                have HE := Lib.hid (HTO.out (V.putW dn an s) _ ⟨{ Yv with lv := v' }, HFF.out, rfl, HIN2.out, HBF.out⟩)
                clear hw10 hrun hS hS8 hS9
                go_wp2
                go_ret
                exact ⟨by rw [HWR.out]; rfl, by rw [HWR.out]; exact HE.out⟩
          · have hx : (V.placeE d a == 0) = false := by simpa using hpl
            rw [if_neg hpl] at HWR
            have HWRN := HWR
            obtain ⟨x, hxe⟩ : ∃ x, x = V.placeE d a := ⟨_, rfl⟩
            rw [← hxe] at hx HP HWRN
            obtain ⟨p0, p1⟩ := Pl.of HXv.out
            clear hxe hpl
            go_wp2_with fail
            refine Calls.mono HP.out ?_
            rintro e w4 ⟨rfl, hk4⟩
            have HE4 := Lib.hid (HTO.out _ _ (RfTo.of (HVD.out.kept hk4) (But.kept hk4)))
            clear hk4
            go_wp2
            go_ret
            exact ⟨by rw [HWRN.out]; rfl, by rw [HWRN.out]; exact HE4.out⟩
end
end Go.Proofs.YtglplhmclfekfaaGreat
/- The document's bank: Read. -/
namespace Go.Proofs.YtglplhmclfekfaaGreat
open Go.RowKit
set_option linter.unusedVariables false
set_option linter.unusedSimpArgs false

section
variable {w w1 w2 : World} {Y : RLay} {T : RT}
set_option maxHeartbeats 2000000
set_option maxRecDepth 100000
theorem rf_Read (h : RefD w Y T) (ok : T.Ok) (d a : Int) : Calls Tryz.prog 14 #[.pointer (some ⟨Y.q, 0, none⟩), .agg #[.int .i64 d, .int .i64 a]] w fun e w' => e = .returned (.tuple #[.agg (u8s (T.read d a).1).toArray, .int .i64 (T.read d a).2]) ∧ Kept w w' := by
  have HP := Lib.hid fun (W : World) (hk : Kept w W) => ref_place (h.kept hk) ok.len (fun k hk => (ok.d hk).len) d a
  by_cases hpl : T.placeE d a = 0
  · have HR : Hid (T.read d a = ((T.d d.toNat).new.getD a.toNat [], 0)) := Lib.hid (by unfold RT.read; rw [if_pos hpl])
    rw [hpl] at HP
    obtain ⟨dn, an, rfl, rfl, hd, ha⟩ := RT.placeE_at hpl
    simp only [Int.toNat_natCast] at HR
    have hdD : dn < Y.D.length := by rw [h.len]; exact hd
    have okd := ok.d hd
    have hal2 : (T.d dn).new.length ≤ 4096 := okd.len
    have hl32 : T.l.length ≤ 32 := ok.len
    obtain ⟨ao, cap, hL, hrow⟩ := h.lform
    obtain ⟨g, rfl, cr⟩ := hrow dn hdD
    have b0 := h.b0
    rw [hL] at b0
    have cn := h.d1 hdD
    have hsv := (okd.new.at ha).1
    have SN := Lib.hid (sec_cells (fun x hx => (okd.new.2 x hx).1) (h.new dn hdD) (by rw [okd.new.1]; exact ha))
    obtain ⟨xs, hxs⟩ : ∃ xs, xs = (T.d dn).new.getD an [] := ⟨_, rfl⟩
    rw [← hxs] at HR SN hsv
    have LS := Lib.hid hsv
    generalize Y.D[dn].1 = bd at *
    generalize Y.D[dn].2.2 = bn at *
    generalize (T.d dn).new.length = zl at *
    clear hpl hL hrow hxs hsv okd h ok
    go_enter Tryz.func14, Tryz.ntmps14
    go_wp2_with (refine stop_at (o := ⟨some 3, _, _, _, _, _⟩) ?_)
    refine Stop.mk ?_
    refine wpList_box_row rfl _ _ rfl [.int .i64 (dn : Int), .int .i64 (an : Int)] rfl ?_
    intro w1 hz hs1 hk1
    have HX1 := hz
    have HK1 := Lib.hid hk1
    generalize w.heap.size = X at *
    clear hz hk1
    go_wp2_with (refine stop_at (o := ⟨some 4, _, _, _, _, _⟩) ?_)
    refine Stop.mk ?_
    refine wpList_alloc_abs rfl 43 rfl (u8s zeroB) zero_sec ?_
    intro w2 hz2 hs2 hn2 hk2
    obtain ⟨Z, hZ⟩ : ∃ Z, Z = w1.heap.size := ⟨_, rfl⟩
    rw [← hZ] at hz2 ⊢
    have hsz := HK1.out.size
    have HX2 := Lib.hid (hk2.block HX1.out)
    have HK2 := Lib.hid (HK1.out.trans hk2)
    have HZ2 := hz2
    have hZw : w.heap.size ≤ Z := by rw [hZ]; exact hsz
    obtain ⟨p0, p1⟩ := Pl.of HX2.out
    have b0' := HK2.out.cell' b0
    have cr' := HK2.out.cell' cr
    have cn' := HK2.out.cell' cn
    clear hz2 hs2 hn2 hk2 HX1 hs1 b0 cr cn hZ
    go_wp2_with fail
    refine Calls.mono (HP.out _ HK2.out) ?_
    rintro e w3 ⟨rfl, hk3⟩
    have HK3 := Lib.hid (HK2.out.trans hk3)
    have HX3 := Lib.hid (hk3.block HX2.out)
    have HZ3 := Lib.hid (hk3.block HZ2.out)
    have b0 := hk3.cell' b0'
    have cr := hk3.cell' cr'
    have cn := hk3.cell' cn'
    clear hk3 b0' cr' cn' p0 p1 HX2 HZ2 HK2
    obtain ⟨p0, p1⟩ := Pl.of HX3.out
    go_wp2
    refine wp_still_tail 15 (by kernel_rfl) (by kernel_rfl) fun ws hks hhs => ?_
    have b0' := hks.cell' b0
    have cr' := hks.cell' cr
    have cn' := hks.cell' cn
    have p0' := hks.cell' p0
    have p1' := hks.cell' p1
    simp only [List.take_succ_cons, List.take_zero, List.drop_succ_cons, List.drop_zero]
    iterate 14 still_step
    refine still_load_agg rfl _ rfl ty_sec bn (an * 64) rfl _ (SN.out.kept (HK3.out.trans hks)) (by rw [u8s_length, LS.out]) ?_
    refine wpStill_nil ?_
    refine wpList_store_agg rfl _ _ rfl ty_sec Z 0 rfl (u8s xs) rfl (by rw [u8s_length, LS.out]) (u8s_one _) (u8s zeroB) 43 ((congrArg (·[Z]?) hhs).trans HZ3.out) (by simp [u8s_length, zeroB_length]) ?_
    intro w4 hw4
    replace hw4 := hw4.all (by rw [u8s_length, u8s_length, LS.out]; rfl)
    have hkw := Lib.hid (hw4.kept (HK3.out.trans hks) hZw)
    have hw4' := Lib.hid hw4; clear hw4 hhs b0' cr' cn' p0' p1'
    go_wp2
    refine bodyPost_ret (results_sec rfl _ _ Z xs rfl hw4'.out.cells LS.out) rfl ⟨by rw [HR.out]; rfl, hkw.out⟩
  · have HR : Hid (T.read d a = (zeroB, T.placeE d a)) := Lib.hid (by unfold RT.read; rw [if_neg hpl])
    have hx : (T.placeE d a == 0) = false := by simpa using hpl
    generalize T.placeE d a = x at *
    clear h ok hpl
    go_enter Tryz.func14, Tryz.ntmps14
    go_wp2_with (refine stop_at (o := ⟨some 3, _, _, _, _, _⟩) ?_)
    refine Stop.mk ?_
    refine wpList_box_row rfl _ _ rfl [.int .i64 d, .int .i64 a] rfl ?_
    intro w1 hz hs1 hk1
    have HX1 := hz
    have HK1 := Lib.hid hk1
    generalize w.heap.size = X at *
    clear hz hk1
    go_wp2_with (refine stop_at (o := ⟨some 4, _, _, _, _, _⟩) ?_)
    refine Stop.mk ?_
    refine wpList_alloc_abs rfl 43 rfl (u8s zeroB) zero_sec ?_
    intro w2 hz2 hs2 hn2 hk2
    obtain ⟨Z, hZ⟩ : ∃ Z, Z = w1.heap.size := ⟨_, rfl⟩
    rw [← hZ] at hz2 ⊢
    have hsz := HK1.out.size
    have HX2 := Lib.hid (hk2.block HX1.out)
    have HK2 := Lib.hid (HK1.out.trans hk2)
    have HZ2 := hz2
    have hZw : w.heap.size ≤ Z := by rw [hZ]; exact hsz
    obtain ⟨p0, p1⟩ := Pl.of HX2.out
    clear hz2 hs2 hn2 hk2 HX1 hs1 hZ
    go_wp2_with fail
    refine Calls.mono (HP.out _ HK2.out) ?_
    rintro e w3 ⟨rfl, hk3⟩
    have HK3 := Lib.hid (HK2.out.trans hk3)
    have HZ3 := Lib.hid (hk3.block HZ2.out)
    clear hk3 p0 p1 HX2 HZ2 HK2
    go_wp2_with (refine stop_at (o := ⟨none, .store _ _ _, _, _, _, _⟩) ?_)
    refine Stop.mk ?_
    refine wpList_store_agg rfl _ _ rfl ty_sec Z 0 rfl (u8s zeroB) rfl (by simp [u8s_length, zeroB_length]) (u8s_one _) (u8s zeroB) 43 HZ3.out (by simp [u8s_length, zeroB_length]) ?_
    intro w4 hw4
    replace hw4 := hw4.all rfl
    have hkw := Lib.hid (hw4.kept HK3.out hZw)
    have hw4' := Lib.hid hw4; clear hw4
    go_wp2
    refine bodyPost_ret (results_sec rfl _ _ Z zeroB rfl hw4'.out.cells zeroB_length) rfl ⟨by rw [HR.out]; rfl, hkw.out⟩
end
end Go.Proofs.YtglplhmclfekfaaGreat
/- A law's own bank of the document, in the words of the bank. -/
namespace Go.Proofs.YtglplhmclfekfaaGreat
open Go.RowKit
set_option linter.unusedVariables false
set_option linter.unusedSimpArgs false

/-- what is asked of a bank so that the document's can be called -/
structure BankT.Doc (B : BankT) : Prop where
  inv : B.Inv
  few : B.order.length < 9000
  wr : B.writes < 1000000000
/-- a law's own bank of the document, that is this bank -/
def RB (w0 : World) (R : Nat → Prop) (W : World) (q : Nat) (B : BankT) : Prop := RK w0 R W q B.ref
section
variable {w0 W W' : World} {R : Nat → Prop} {q : Nat} {T U : RT} {B : BankT}
theorem RK.turn {Y : RLay} (h0 : Y.q = q) (h1 : RefD W Y T) (h2 : Kept w0 W) (h3 : ∀ b, Y.In b → w0.heap.size ≤ b) (h4 : ∀ k, R k → k < W.heap.size ∧ ¬ Y.In k) (hr : RfTo W Y U W') : RK w0 R W' q U ∧ SameR R W W' := by
  obtain ⟨Y', d, hq, hin, hb⟩ := hr
  refine ⟨⟨Y', hq.trans h0, d, But.to_kept h2 hb h3, fun b hb' => ?_, fun k hk => ⟨Nat.lt_of_lt_of_le (h4 k hk).1 hb.size, fun hi => ?_⟩⟩, fun k hk => hb.block k (h4 k hk).1 (h4 k hk).2⟩
  · rcases hin b hb' with h | h
    · exact h3 b h
    · exact Nat.le_trans h2.size h
  · rcases hin k hi with h | h
    · exact (h4 k hk).2 h
    · have := (h4 k hk).1; omega
theorem RK.more (h : RK w0 R W q T) (hk : Kept W W') (b : Nat) (h1 : W.heap.size ≤ b) (h2 : b < W'.heap.size) : RK w0 (fun k => R k ∨ k = b) W' q T := by
  obtain ⟨Y, g0, g1, g2, g3, g4⟩ := h
  refine ⟨Y, g0, g1.kept hk, g2.trans hk, g3, fun k hk' => ?_⟩
  rcases hk' with h' | rfl
  · exact ⟨Nat.lt_of_lt_of_le (g4 k h').1 hk.size, (g4 k h').2⟩
  · exact ⟨h2, fun hi => by have := g1.lt hi; omega⟩
theorem RB.kept (h : RB w0 R W q B) (hk : Kept W W') : RB w0 R W' q B ∧ SameR R W W' := RK.kept h hk
theorem RB.less {R' : Nat → Prop} (h : RB w0 R W q B) (hr : ∀ k, R' k → R k) : RB w0 R' W q B := RK.less h hr
theorem RB.box (h : RB w0 R W q B) (hk : Kept W W') (hs : W.heap.size < W'.heap.size) : RB w0 (fun k => R k ∨ k = W.heap.size) W' q B := RK.more h hk _ (Nat.le_refl _) hs
theorem RB.keeps (h : RB w0 R W q B) : Kept w0 W := RK.keeps h
theorem BankT.Doc.ok (u : B.Doc) : B.ref.Ok := u.inv.ref (by have := u.few; omega)
theorem rb_Write (h : RB w0 R W q B) (u : B.Doc) (d a : Int) {s : List Int} (hs : s.length = 64 ∧ ∀ x ∈ s, IsByte x) : Calls Tryz.prog 35 #[.pointer (some ⟨q, 0, none⟩), .agg #[.int .i64 d, .int .i64 a], .agg (u8s s).toArray] W fun e w' => e = .returned (.int .i64 (B.write d a s).2) ∧ RB w0 R w' q (B.write d a s).1 ∧ SameR R W w' := by
  obtain ⟨Y, rfl, h1, h2, h3, h4⟩ := h
  exact (rf_Write h1 u.inv u.few u.wr d a hs).mono fun e w' ⟨he, hr⟩ => ⟨he, RK.turn rfl h1 h2 h3 h4 hr⟩
theorem rb_Read (h : RB w0 R W q B) (u : B.Doc) (d a : Int) : Calls Tryz.prog 14 #[.pointer (some ⟨q, 0, none⟩), .agg #[.int .i64 d, .int .i64 a]] W fun e w' => e = .returned (.tuple #[.agg (u8s (B.read d a).1).toArray, .int .i64 (B.read d a).2]) ∧ Kept W w' := by
  obtain ⟨Y, rfl, h1, h2, h3, h4⟩ := h
  have := rf_Read h1 u.ok d a
  rw [ref_read u.inv.ok] at this
  exact this
theorem ref_flushC (h : B.Inv) (d : Int) : (B.flushC d).1.ref = (if B.ref.mayE d = 0 then B.ref.settled d.toNat true else B.ref) ∧ (B.flushC d).2 = B.ref.mayE d := by
  rw [ref_mayE]
  unfold BankT.flushC
  by_cases h0 : B.readyE d = 0
  · rw [if_pos h0, if_pos h0]
    rw [← ref_mayE] at h0
    obtain ⟨k, rfl, hk⟩ := RT.mayE_in h0
    have hk' : k < B.l.length := by have : B.ref.l.length = B.l.length := ref_len _ _; omega
    rw [← ref_mayE, h0, Int.toNat_natCast]
    exact ⟨ref_flush h hk', rfl⟩
  · rw [if_neg h0, if_neg h0]; exact ⟨rfl, rfl⟩
theorem rb_Flush (h : RB w0 R W q B) (u : B.Doc) (d : Int) : Calls Tryz.prog 46 #[.pointer (some ⟨q, 0, none⟩), .int .i64 d] W fun e w' => e = .returned (.int .i64 (B.flushC d).2) ∧ RB w0 R w' q (B.flushC d).1 ∧ SameR R W w' := by
  obtain ⟨Y, rfl, h1, h2, h3, h4⟩ := h
  obtain ⟨e1, e2⟩ := ref_flushC u.inv d
  unfold RB
  rw [e1, e2]
  exact (rf_Flush h1 u.ok d).mono fun e w' ⟨he, hr⟩ => ⟨he, RK.turn rfl h1 h2 h3 h4 hr⟩
theorem rb_Fail (h : RB w0 R W q B) (u : B.Doc) (d : Int) : Calls Tryz.prog 36 #[.pointer (some ⟨q, 0, none⟩), .int .i64 d] W fun e w' => e = .returned (.int .i64 (B.failC d).2) ∧ RB w0 R w' q (B.failC d).1 ∧ SameR R W w' := by
  obtain ⟨Y, rfl, h1, h2, h3, h4⟩ := h
  have hl : B.ref.l.length = B.l.length := ref_len _ _
  have hf := rf_Fail h1 u.ok d
  rw [hl] at hf
  unfold RB BankT.failC
  by_cases h0 : d < 0 ∨ (B.l.length : Int) ≤ d
  · rw [if_pos h0, if_pos h0] at hf
    rw [if_pos h0]
    exact hf.mono fun e w' ⟨he, hr⟩ => ⟨he, RK.turn rfl h1 h2 h3 h4 hr⟩
  · rw [if_neg h0, if_neg h0] at hf
    rw [if_neg h0]
    simp only
    rw [ref_fell u.inv (by omega)]
    exact hf.mono fun e w' ⟨he, hr⟩ => ⟨he, RK.turn rfl h1 h2 h3 h4 hr⟩
theorem rb_FailAt (h : RB w0 R W q B) (u : B.Doc) (d n : Int) : Calls Tryz.prog 38 #[.pointer (some ⟨q, 0, none⟩), .int .i64 d, .int .i64 n] W fun e w' => e = .returned (.tuple #[]) ∧ RB w0 R w' q (B.failAt d n) ∧ SameR R W w' := by
  obtain ⟨Y, rfl, h1, h2, h3, h4⟩ := h
  have hl : B.ref.l.length = B.l.length := ref_len _ _
  have hf := rf_FailAt h1 (by rw [hl]; exact u.inv.ok.1) d n
  rw [hl] at hf
  unfold RB BankT.failAt
  by_cases h0 : d < 0 ∨ (B.l.length : Int) ≤ d
  · rw [if_pos h0] at hf ⊢
    exact hf.mono fun e w' ⟨he, hr⟩ => ⟨he, RK.turn rfl h1 h2 h3 h4 hr⟩
  · rw [if_neg h0] at hf ⊢
    have hk : d.toNat < B.l.length := by omega
    have e : (B.up d.toNat { B.d d.toNat with fail := max n 0 }).ref = B.ref.up d.toNat { B.ref.d d.toNat with fail := max n 0 } := by
      unfold BankT.ref
      rw [BankT.order_up hk (m := { B.d d.toNat with fail := max n 0 }) rfl, ref_up, ref_d]; rfl
    rw [e]
    exact hf.mono fun e w' ⟨he, hr⟩ => ⟨he, RK.turn rfl h1 h2 h3 h4 hr⟩
theorem rb_Arm (h : RB w0 R W q B) (n m : Int) : Calls Tryz.prog 40 #[.pointer (some ⟨q, 0, none⟩), .int .i64 n, .int .u64 m] W fun e w' => e = .returned (.tuple #[]) ∧ RB w0 R w' q (B.arm n m) ∧ SameR R W w' := by
  obtain ⟨Y, rfl, h1, h2, h3, h4⟩ := h
  have e : (B.arm n m).ref = { B.ref with armed := max n 0, mask := m } := by
    unfold BankT.ref
    rw [show (B.arm n m).order = B.order from BankT.order_congr rfl fun _ => rfl]; rfl
  unfold RB
  rw [e]
  exact (rf_Arm h1 n m).mono fun e w' ⟨he, hr⟩ => ⟨he, RK.turn rfl h1 h2 h3 h4 hr⟩
theorem rb_Start (h : RB w0 R W q B) : Calls Tryz.prog 44 #[.pointer (some ⟨q, 0, none⟩)] W fun e w' => e = .returned (.tuple #[]) ∧ RB w0 R w' q B.start ∧ SameR R W w' := by
  obtain ⟨Y, rfl, h1, h2, h3, h4⟩ := h
  have e : B.start.ref = { B.ref with down := false } := by
    unfold BankT.ref
    rw [show B.start.order = B.order from BankT.order_congr rfl fun _ => rfl]; rfl
  unfold RB
  rw [e]
  exact (rf_Start h1).mono fun e w' ⟨he, hr⟩ => ⟨he, RK.turn rfl h1 h2 h3 h4 hr⟩
theorem rb_Crash (h : RB w0 R W q B) (u : B.Doc) (m : Int) (hm : 0 ≤ m) : Calls Tryz.prog 42 #[.pointer (some ⟨q, 0, none⟩), .int .u64 m] W fun e w' => e = .returned (.tuple #[]) ∧ RB w0 R w' q (B.crash m) ∧ SameR R W w' := by
  obtain ⟨Y, rfl, h1, h2, h3, h4⟩ := h
  obtain ⟨n, rfl⟩ : ∃ n : Nat, m = (n : Int) := ⟨m.toNat, by omega⟩
  unfold RB
  rw [ref_crash u.inv]
  exact (rf_Crash h1 u.ok n).mono fun e w' ⟨he, hr⟩ => ⟨he, RK.turn rfl h1 h2 h3 h4 hr⟩
end
end Go.Proofs.YtglplhmclfekfaaGreat
