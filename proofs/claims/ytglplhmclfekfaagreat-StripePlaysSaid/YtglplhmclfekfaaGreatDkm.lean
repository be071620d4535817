/- A disk.Bank: Crash, its sorting given. -/
import Derived.Test.YtglplhmclfekfaaGreatDkj
import Derived.Test.YtglplhmclfekfaaGreatDkk
namespace Go.Proofs.YtglplhmclfekfaaGreat
open Go.RowKit
set_option linter.unusedVariables false
set_option linter.unusedSimpArgs false

theorem AllAt.kept {w w' : World} {c base : Nat} {Y : Lay} {L : List (Nat × Nat)} (h : AllAt w c base Y L) (hk : Kept w w') : AllAt w' c base Y L := by
  obtain ⟨v, h1, h2⟩ := h
  exact ⟨v, hk.block h1, ownsRow_kept h2 hk⟩
theorem BankT.settleL_snoc (mask : Int) (p : Nat × Nat) : ∀ (L : List (Nat × Nat)) (i : Nat) (T : BankT), BankT.settleL mask (L ++ [p]) i T = (BankT.settleL mask L i T).up p.1 (((BankT.settleL mask L i T).d p.1).settle p.2 (bitOf mask (i + L.length)))
  | [], _, _ => rfl
  | (k, a) :: L, i, T => by
    rw [List.cons_append, BankT.settleL, BankT.settleL_snoc mask p L, BankT.settleL, List.length_cons, show i + 1 + L.length = i + (L.length + 1) by omega]
theorem places_get (Y : Lay) : ∀ (L : List (Nat × Nat)) (i : Nat) (h : i < L.length), (places Y L)[i * 2]? = some (.pointer (some ⟨Y.A (2 + 4 * L[i].1), 0, none⟩)) ∧ (places Y L)[i * 2 + 1]? = some (.int .i64 (L[i].2 : Int))
  | [], _, h => absurd h (by simp)
  | p :: L, 0, _ => ⟨rfl, rfl⟩
  | p :: L, i + 1, h => by
    have := places_get Y L i (by simpa using h)
    simpa [places, Nat.add_mul] using this
theorem ty_loo : AggT Tryz.prog 110 2 := ⟨⟨_, Tryz.underlying110, rfl⟩, by kernel_rfl⟩
theorem zero_loo (w : World) : (zeroValue 110).run Tryz.prog w = .ok (.agg [.pointer none, .int .i64 0].toArray) w := by kernel_rfl
/-- A new variable of one cell: its zero; the world a letter. -/
theorem wpList_alloc_one {P : Program} {ops : Array Oper} {rest : List Oper} {o : Oper} {a : Act} {w : World} {Q : Exit → Act → World → Prop} (hgd : o.guard = none) (T : TypeId) (ho : o.op = .alloc T) (z : Value) (hz : ∀ w, (zeroValue T).run P w = .ok z w) (hzc : z.cells = #[z])
    (h : ∀ w1, Hid (w1.heap[w.heap.size]? = some (.cells #[z] T (0, 0))) → w.heap.size < w1.heap.size → Kept w w1 → wpList P ops Q rest (a.put o.dst (.pointer (some ⟨w.heap.size, 0, none⟩))) w1) : wpList P ops Q (o :: rest) a w := by
  refine wpList_plain hgd fun K hK => ?_
  unfold Oper.wp execOp
  simp only [ho, Instr.alloc, newVar, newRow, Sem.run_bind, hz, Result.andThen_ok, Sem.run_pure, run_newObj_alloc, hzc]
  exact hK _ _ (h _ (Lib.hid (heap_alloc_new w _)) (by simp) ((Kept.refl _).alloc _))
/-- the sort, as Crash calls it -/
def SortsAll (Y : Lay) (T : BankT) (base : Nat) : Prop := ∀ (wc : World) (v : Value), BankD wc Y T → (∀ b, Y.In T.l.length b → b < base) → wc.ownsRow base 110 2 v (T.looseTo T.l.length).length (places Y (T.looseTo T.l.length)) →
  Calls Tryz.prog 78 #[v, .func (.func 79) #[] #[]] wc fun e w' =>
    e = .returned (.tuple #[]) ∧ w'.ownsRow base 110 2 v (T.looseTo T.l.length).length (places Y T.order) ∧ wc.grownBy w' v.ownBlock
theorem own_base {w : World} {base e size n : Nat} {v : Value} {xs : List Value} (h : w.ownsRow base e size v n xs) {k : Nat} (hk : v.ownBlock = some k) : base ≤ k := by
  rcases h.2 with ⟨rfl, _⟩ | ⟨g, cap, cur, rfl, hb, _⟩
  · simp [Value.ownBlock] at hk
  · simp only [Value.ownBlock, Option.some.injEq] at hk
    omega
theorem own_formP {w : World} {base e n : Nat} {v : Value} {Y : Lay} {L : List (Nat × Nat)} (h : w.ownsRow base e 2 v n (places Y L)) : ∃ ao cap, v = .slice ao n cap ∧ ∀ i (hi : i < L.length), ∃ g, ao = some ⟨g, 0, none⟩ ∧ base ≤ g ∧ g < w.heap.size ∧ Cells w g (i * 2) [.pointer (some ⟨Y.A (2 + 4 * L[i].1), 0, none⟩), .int .i64 (L[i].2 : Int)] := by
  have hl := h.1
  rw [places_length] at hl
  rcases owns_form h with ⟨rfl, rfl, _⟩ | ⟨g, cap, rfl, hb, hg, hn, hc⟩
  · exact ⟨none, 0, rfl, fun i hi => by omega⟩
  · refine ⟨_, cap, rfl, fun i hi => ⟨g, rfl, hb, hg, ?_⟩⟩
    obtain ⟨h1, h2⟩ := places_get Y L i hi
    intro j hj
    have hj' : i * 2 + j < (places Y L).length := by rw [places_length]; simp at hj; omega
    have := hc (i * 2 + j) hj'
    rw [Nat.zero_add] at this
    rw [this, ← List.getElem?_eq_getElem hj', ← List.getElem?_eq_getElem hj]
    match j, hj with
    | 0, _ => exact h1
    | 1, _ => exact h2
theorem run_shr64 {P : Program} (w : World) (m : Nat) (k : Nat) : (Op.shift .shr .u64 (m : Int) .i64 ((k : Int).tmod 64)).run P w = .ok (.int .u64 ((m / 2 ^ (k % 64) : Nat) : Int)) w := by
  have h1 : (k : Int).tmod 64 = ((k % 64 : Nat) : Int) := by
    rw [Int.tmod_eq_emod_of_nonneg (by omega)]; rfl
  have h2 : ¬ ((k % 64 : Nat) : Int) < 0 := by omega
  have h3 : min (k % 64) IntKind.u64.bits = k % 64 := by
    have : IntKind.u64.bits = 64 := rfl
    omega
  unfold Op.shift
  rw [h1, if_neg h2, Int.toNat_natCast, h3]
  show Sem.run P (pure _) w = _
  rw [Sem.run_pure]
  congr 2
  rw [Int.fdiv_eq_ediv_of_nonneg _ (by exact_mod_cast Nat.zero_le _)]
  simp
theorem and1_bit (n : Nat) (hn : n < 18446744073709551616) : ((bits .and .u64 (n : Int) 1 : Int) == 1) = decide (n % 2 = 1) := by
  show (IntKind.u64.wrap ((BitVec.ofInt 64 (n : Int) &&& BitVec.ofInt 64 1).toNat : Int) == 1) = _
  have h1 : (BitVec.ofInt 64 (n : Int)).toNat = n := by rw [BitVec.toNat_ofInt]; omega
  rw [BitVec.toNat_and, h1, show (BitVec.ofInt 64 1).toNat = 1 from rfl, Nat.and_one_is_mod]
  have h3 : n % 2 = 0 ∨ n % 2 = 1 := by omega
  rcases h3 with h3 | h3 <;> rw [h3] <;> rfl
theorem bitOf_eq (m k : Nat) : bitOf (m : Int) k = decide (m / 2 ^ (k % 64) % 2 = 1) := by
  unfold bitOf
  rw [Int.toNat_natCast, Nat.testBit_eq_decide_div_mod_eq]
section
variable {w : World} {Y : Lay} {T : BankT}
set_option maxHeartbeats 1000000
set_option maxRecDepth 100000
theorem crash_of (h : BankD w Y T) (inv : T.Inv) (hN : T.l.length ≠ 0) (mask : Int) (hm0 : 0 ≤ mask) (hm1 : mask < 18446744073709551616) (hS : SortsAll Y T w.heap.size) :
    Calls Tryz.prog 41 #[.pointer (some ⟨Y.A 0, 0, none⟩), .int .u64 mask] w fun e w' => e = .returned (.tuple #[]) ∧ BankD w' Y (T.crash mask) ∧ But (Y.In T.l.length) w w' := by
  have H := Lib.hid h
  have cd := h.b1
  by_cases hd : T.down = true
  · have E := Lib.hid (show T.crash mask = T by unfold BankT.crash; rw [if_pos hd])
    rw [hd] at cd
    clear h hd hS
    go_enter Tryz.func41, Tryz.ntmps41
    go_wp2
    refine bodyPost_ret (results_none rfl _ _ _) rfl ?_
    exact ⟨rfl, by rw [E.out]; exact H.out, But.refl _ _⟩
  · have E := Lib.hid (show T.crash mask = { BankT.settleL mask T.order 0 T with down := true, armed := 0 } by unfold BankT.crash; rw [if_neg hd])
    have hd' : T.down = false := by simpa using hd
    rw [hd'] at cd
    obtain ⟨m, rfl⟩ : ∃ m : Nat, mask = (m : Int) := ⟨mask.toNat, by omega⟩
    have ok := inv.ok
    have hN32 := ok.1
    have hin : ∀ b, Y.In T.l.length b → b < w.heap.size := fun b hb => h.lt hb
    have HIN := Lib.hid hin
    have HS := Lib.hid hS
    clear h hd hd' hS hin
    go_enter Tryz.func41, Tryz.ntmps41
    have c0 := H.out.b0 hN
    go_wp2_with (refine stop_at (o := ⟨some 4, _, _, _, _, _⟩) ?_)
    refine Stop.mk ?_
    refine wpList_alloc_one rfl _ rfl _ zero_all rfl ?_
    intro w1 hz1 hs1 hk1
    have HA1 : Hid (AllAt w1 w.heap.size w.heap.size Y (T.looseTo 0)) := Lib.hid ⟨.slice none 0 0, hz1.out, World.ownsRow_nil _ _ _ _⟩
    have HK1 := Lib.hid hk1
    clear hk1 hz1
    have c0' := HK1.out.cell' c0
    go_wp2
    go_loopw [18] (fun i wr => ∃ k : Nat, k ≤ T.l.length ∧ i = .int .i64 k ∧ Hid (AllAt wr w.heap.size w.heap.size Y (T.looseTo k)) ∧ Hid (Kept w wr) ∧ w.heap.size < wr.heap.size) (fun i _ => T.l.length - (intOf i).toNat)
    case atStart => exact ⟨0, Nat.zero_le _, rfl, HA1, HK1, hs1⟩
    case round =>
      obtain ⟨k, hk, rfl, HA, HK, hsr⟩ := hrel
      by_cases hlt : k < T.l.length
      · have cr := HK.out.cell' (H.out.r hlt)
        have hle := BankT.looseTo_le ok (Nat.le_of_lt hlt)
        go_wp2_with (refine stop_at (o := ⟨some 6, _, _, _, _, _⟩) ?_)
        refine Stop.mk ?_
        refine wpList_new_one rfl rfl _ _ rfl rfl size_ptr _ zero_ptr rfl (.pointer (some ⟨Y.A (2 + 4 * k), 0, none⟩)) rfl rfl rfl rfl ?_
        intro w2 hz hs hk2
        have cm := one_cell hz.out
        have HL := Lib.hid (collects_Crash (H.out.kept (HK.out.trans hk2)) ok hlt (HA.out.kept hk2) hz.out (Nat.le_refl _) (by omega) (HK.out.trans hk2).size HIN.out)
        have HK2 := Lib.hid (HK.out.trans hk2); clear hk2
        go_wp2_with fail
        refine Calls.mono HL.out ?_
        rintro e w3 ⟨rfl, h1, h2⟩
        have HA3 : Hid (AllAt w3 w.heap.size w.heap.size Y (T.looseTo (k + 1))) := Lib.hid (by rw [BankT.looseTo]; exact h1)
        have HK3 : Hid (Kept w w3) := Lib.hid (Below.trans HK2.out h2)
        have hs3 : w.heap.size < w3.heap.size := Nat.lt_of_lt_of_le (Nat.lt_trans hsr hs) h2.size
        clear h1 h2
        go_wp2
        go_roundw
        case rel => exact ⟨k + 1, hlt, by go_num, HA3, HK3, hs3⟩
        case measure => simp [intOf]; omega
      · have hkk : k = T.l.length := by omega
        subst hkk
        obtain ⟨v, hv1, hv2⟩ := HA.out
        have cv := one_cell hv1
        have HSS := Lib.hid (HS.out wr v (H.out.kept HK.out) HIN.out hv2)
        have hco : v.ownBlock ≠ some w.heap.size := own_other hv2 hv1 (by decide)
        have HV1 := Lib.hid hv1
        have hv2' := hv2
        clear hv1 hv2 HA
        go_wp2_with fail
        refine Calls.mono HSS.out ?_
        have hob : ∀ k, v.ownBlock = some k → w.heap.size ≤ k := fun k hk => own_base hv2' hk
        rintro e w4 ⟨rfl, ho4, hg4⟩
        have hlen : (T.looseTo T.l.length).length = T.order.length := (sortBy_perm _ _).length_eq.symm
        rw [hlen] at ho4
        have hK4 : Kept w w4 := Below.trans HK.out ⟨hg4.os, hg4.tape, hg4.output, hg4.size, fun k hk => hg4.block k (Nat.lt_trans hk hsr) (fun e => by have := hob k e.symm; omega)⟩
        have cv4 := one_cell ((hg4.block _ hsr (fun e => hco e.symm)).trans HV1.out)
        obtain ⟨ao, cap, rfl, hrd⟩ := own_formP ho4
        have HRD := Lib.hid hrd
        have HK4 := Lib.hid hK4
        have HB4 := Lib.hid (H.out.kept hK4)
        have hol : T.order.length ≤ 131072 := by
          have := BankT.looseTo_le ok (Nat.le_refl _)
          rw [← hlen]; omega
        have HORD := Lib.hid (fun p hp => ((T.mem_order p).1 hp).1)
        clear hrd hK4 ho4 hg4 hob hco cv HV1 HSS HK hlen hv2'
        generalize hord : T.order = O at *
        have HO := Lib.hid hord; clear hord
        go_wp2
        go_loopw [32] (fun i wr => ∃ k : Nat, k ≤ O.length ∧ i = .int .i64 k ∧ Hid (BankD wr Y (BankT.settleL (m : Int) (O.take k) 0 T)) ∧ Hid (But (Y.In T.l.length) w4 wr)) (fun i _ => O.length - (intOf i).toNat)
        case atStart => exact ⟨0, Nat.zero_le _, rfl, HB4, Lib.hid (But.refl _ _)⟩
        case round =>
          obtain ⟨k, hk, rfl, HB, HU⟩ := hrel
          by_cases hlt : k < O.length
          · obtain ⟨g, rfl, hgb, hgs, hgc⟩ := HRD.out k hlt
            have hgn : ¬ Y.In T.l.length g := fun e => by have := HIN.out g e; omega
            have hgc' : Cells wr g (k * 2) [.pointer (some ⟨Y.A (2 + 4 * O[k].1), 0, none⟩), .int .i64 (O[k].2 : Int)] := fun j hj => HU.out.cell hgn (hgc j hj)
            obtain ⟨p1, p2⟩ : T.Has O[k] := HORD.out _ (List.getElem_mem hlt)
            generalize hq : O[k].1 = q at *
            generalize ha : O[k].2 = a at *
            have HQ := Lib.hid (And.intro hq ha); clear hq ha
            have HGC := Lib.hid hgc'; clear hgc hgc'
            go_wp2_with (refine stop_at (o := ⟨some 36, _, _, _, _, _⟩) ?_)
            refine Stop.mk ?_
            refine wpList_load_agg rfl _ rfl ty_loo g (k * 2) rfl _ HGC.out rfl ?_
            go_wp2_with (refine stop_at (o := ⟨some 8, _, _, _, _, _⟩) ?_)
            refine Stop.mk ?_
            refine wpList_alloc_abs rfl _ rfl _ zero_loo ?_
            intro w5 hz5 hs5 hn5 hk5
            go_wp2_with (refine stop_at (o := ⟨none, .store _ _ _, _, _, _, _⟩) ?_)
            refine Stop.mk ?_
            refine wpList_store_agg rfl _ _ rfl ty_loo wr.heap.size 0 rfl [.pointer (some ⟨Y.A (2 + 4 * q), 0, none⟩), .int .i64 (a : Int)] rfl rfl (by intro u hu; simp at hu; rcases hu with rfl | rfl <;> rfl) _ _ hz5.out (by simp) ?_
            intro w6 hw6
            replace hw6 := hw6.all rfl
            have x0 := cell_of_row _ _ 0 _ _ _ hw6.blk
            have x1 := cell_of_row _ _ 1 _ _ _ hw6.blk
            have hk6 : Kept wr w6 := hw6.kept hk5 (Nat.le_refl _)
            have HK6 := Lib.hid hk6; clear hk6 hw6 hz5 hs5 hn5 hk5
            go_wp2
            refine wp_still_tail 12 (by kernel_rfl) (by kernel_rfl) fun ws hks hhs => ?_
            have x0' := hks.cell' x0
            have x1' := hks.cell' x1
            simp only [List.take_succ_cons, List.take_zero, List.drop_succ_cons, List.drop_zero]
            have hbit : ((bits .and .u64 (((m / 2 ^ (k % 64) : Nat) : Int)) 1 : Int) == 1) = bitOf (m : Int) k := by
              rw [and1_bit _ (Nat.lt_of_le_of_lt (Nat.div_le_self _ _) (by omega)), bitOf_eq]
            have hTO : (BankT.settleL (m : Int) (O.take k) 0 T).Ok := BankT.Ok.settleL (m : Int) ok (fun p hp => HORD.out p (List.mem_of_mem_take hp))
            have hTL : (BankT.settleL (m : Int) (O.take k) 0 T).l.length = T.l.length := BankT.settleL_len _ _ _ _
            have hTS : ((BankT.settleL (m : Int) (O.take k) 0 T).d q).sin.length = (T.d q).sin.length := (BankT.settleL_dead (m : Int) (O.take k) 0 T q (fun p hp => HORD.out p (List.mem_of_mem_take hp))).2.2
            have hST : BankT.settleL (m : Int) (O.take (k + 1)) 0 T = (BankT.settleL (m : Int) (O.take k) 0 T).up q (((BankT.settleL (m : Int) (O.take k) 0 T).d q).settle a (bitOf (m : Int) k)) := by
              rw [List.take_add_one, List.getElem?_eq_getElem hlt, Option.toList_some, BankT.settleL_snoc, List.length_take, Nat.min_eq_left (Nat.le_of_lt hlt), Nat.zero_add, HQ.out.1, HQ.out.2]
            generalize BankT.settleL (m : Int) (O.take k) 0 T = Tk at *
            generalize bitOf (m : Int) k = bt at *
            have HST := Lib.hid hST; clear hST
            have HTO := Lib.hid hTO; clear hTO
            have hsh : ∀ ww, (Op.shift .shr .u64 (m : Int) .i64 ((k : Int).tmod 64)).run Tryz.prog ww = .ok (.int .u64 ((m / 2 ^ (k % 64) : Nat) : Int)) ww := fun ww => run_shr64 ww m k
            generalize m / 2 ^ (k % 64) = y at *
            iterate 12 still_step
            refine wpStill_nil ?_
            have HC := Lib.hid (med_settle (HB.out.kept (HK6.out.trans hks)) HTO.out (k := q) (a := a) (by rw [hTL]; exact p1) (by rw [hTS]; exact p2) bt)
            have hK := Lib.hid (HK6.out.trans hks)
            clear x0 x1 x0' x1' hks hhs hbit hsh
            go_wp2_with fail
            refine Calls.mono HC.out ?_
            rintro e w7 ⟨rfl, h1, h2⟩
            rw [← HST.out] at h1
            rw [hTL] at h2
            have HB7 := Lib.hid h1
            have HU7 := Lib.hid ((HU.out.keep hK.out).trans h2)
            clear h1 h2
            go_wp2
            go_roundw
            case rel => exact ⟨k + 1, hlt, by go_num, HB7, HU7⟩
            case measure => simp [intOf]; omega
          · have hkk : k = O.length := by omega
            subst hkk
            rw [List.take_length] at HB
            have hTL : (BankT.settleL (m : Int) O 0 T).l.length = T.l.length := BankT.settleL_len _ _ _ _
            have HE := Lib.hid (show T.crash (m : Int) = { BankT.settleL (m : Int) O 0 T with down := true, armed := 0 } by rw [E.out])
            generalize BankT.settleL (m : Int) O 0 T = Tk at *
            go_wp2_with (refine stop_at (o := ⟨none, .store 4 _ _, _, _, _, _⟩) ?_)
            refine Stop.mk ?_
            refine wpList_set_cell rfl _ _ rfl size_bool (Y.A 0) 1 rfl (.bool true) rfl rfl rfl _ _ HB.out.bank (by simp [bankVals]) ?_
            intro w5 hw5
            obtain ⟨B5, U5⟩ := HB.out.wrote_bank (T' := { Tk with down := true }) rfl hw5
            rw [hTL] at U5
            have HB5 := Lib.hid B5; have HU5 := Lib.hid (HU.out.trans U5); clear B5 U5 hw5
            go_wp2_with (refine stop_at (o := ⟨none, .store 3 _ _, _, _, _, _⟩) ?_)
            refine Stop.mk ?_
            refine wpList_set_cell rfl _ _ rfl size_int (Y.A 0) 4 rfl (.int .i64 0) rfl rfl rfl _ _ HB5.out.bank (by simp [bankVals]) ?_
            intro w6 hw6
            obtain ⟨B6, U6⟩ := HB5.out.wrote_bank (T' := { Tk with down := true, armed := 0 }) rfl hw6
            have HB6 := Lib.hid B6
            have HU6 : Hid (But (Y.In T.l.length) w w6) := Lib.hid (((But.kept HK4.out).trans HU5.out).trans (by rw [← hTL]; exact U6))
            clear B6 U6 hw6
            go_wp2
            go_end0
            exact ⟨rfl, by rw [HE.out]; exact HB6.out, HU6.out⟩
end
end Go.Proofs.YtglplhmclfekfaaGreat
