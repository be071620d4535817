/- usage: maps.DeleteFunc over where, Drop. -/
import Derived.Test.YtglplhmclfekfaaUdp
import Derived.Test.YtglplhmclfekfaaUsk
import Derived.Test.YtglplhmclfekfaaMrg
import Derived.Test.YtglplhmclfekfaaRule
namespace Go.Proofs.Ytglplhmclfekfaa
open Go.RowKit Go.ChangeMaps Go.MapKept
set_option linter.unusedVariables false
set_option linter.unusedSimpArgs false

theorem But.grow {S : Nat → Prop} {a w w' : World} {r : Nat} (h : But S a w) (hg : w.grownBy w' (some r)) (hr : a.heap.size ≤ r) : But S a w' :=
  ⟨hg.os.trans h.os, hg.tape.trans h.tape, hg.output.trans h.output, Nat.le_trans h.size hg.size, fun k hk hn => (hg.block k (Nat.lt_of_lt_of_le hk h.size) (by intro e; injection e with e; omega)).trans (h.block k hk hn)⟩
/-- all reads, in whatever order: the world a letter -/
theorem wp_still_every {P : Program} {Q : Exit → Act → World → Prop} {a : Act} {w : World} {id : Nat} {l : List Oper} (hm : P.follows .mixedOrders = true) (hB : Region.lexB .any l.toArray = true)
    (h : ∀ w1, Kept w w1 → w1.heap = w.heap → wpStill P l.toArray w1 (fun a' => Q .normal a' w1) l a) : (Code.region id l.toArray true).wp P Q a w :=
  wp_region_still hm hB (h w.drew (Kept.refl w).drew rfl)
theorem ty_spot : AggT Try.prog 128 2 := ⟨⟨_, Try.underlying128, rfl⟩, by kernel_rfl⟩
def dropF (f : Int → Option (Int × Int)) (n : Int) (b : Int) : Option (Int × Int) := match f b with | some s => if s.1 = n then none else some s | none => none
/-- where some keys have come: those of group n are gone -/
def curF (f : Int → Option (Int × Int)) (n : Int) (done : Int → Bool) (b : Int) : Option (Int × Int) := if done b then dropF f n b else f b
section
variable {P : Program} {ops : Array Oper} {rest : List Oper} {o : Oper} {a : Act} {w : World} {Q : Exit → Act → World → Prop} {t k e : TypeId} {b m r : Nat} {f : Int → Option Value} {done : Int → Bool}
theorem wpList_delete_ir (hgd : Region.wanted o (yielded ops a.tmps) = true) (mm x : Operand) (ho : o.op = .call { callee := .builtin .delete, args := #[mm, x], argTypes := #[t, k] }) (ht : P.underlying t = some (.map k e)) (hk : P.underlying k = some (.int .i64))
    (hm : a.eval mm = .map (some b)) (n : Int) (hx : a.eval x = .int .i64 n) (hi : IRange w b m r f done)
    (h : ∀ w1, IRange w1 b m r (del f n) done → w1.rangeLeft b r ≤ w.rangeLeft b r → But (fun k => k = b) w w1 → wpList P ops Q rest (a.put o.dst (.tuple #[])) w1) : wpList P ops Q (o :: rest) a w := by
  refine BigFrame.wpList_want hgd fun K hK => ?_
  obtain ⟨w', hr, hi', hle, o', rfl⟩ := hi.delete (t := t) (e := e) (ty := o.type) ht hk n
  unfold Oper.wp execOp
  simp only [ho, resolve, invoke, builtin, Sem.run_bind, Sem.run_pure, Result.andThen_ok, List.map_toArray, List.map_cons, List.map_nil, hm, hx, hr]
  exact hK _ _ (h _ hi' hle (But.block1 w b o'))
end
section
variable {w : World} {h m c : Nat} {f : Int → Option (Int × Int)} {n : Int}
set_option maxHeartbeats 1000000
set_option maxRecDepth 100000
theorem drop_closure (hc : w.cell? ⟨c, 0, none⟩ = some (.int .i64 n)) (b : Int) (s : Int × Int) :
    Calls Try.prog 92 #[.int .i64 b, .agg #[.int .i64 s.1, .int .i64 s.2], .pointer (some ⟨c, 0, none⟩)] w fun e w' => e = .returned (.bool (s.1 == n)) ∧ Kept w w' := by
  go_enter Try.func92, Try.ntmps92
  have hlt := World.block_lt_of_cell? _ _ hc
  have hc1 := ((Kept.refl w).alloc (Obj.cells #[.int .i64 s.1, .int .i64 s.2] 128)).cell' hc
  have hc2 : (w.alloc (Obj.cells #[.int .i64 s.1, .int .i64 s.2] 128)).cell? ⟨w.heap.size, 0, none⟩ = some (.int .i64 s.1) := by
    rw [cell_of_row _ _ _ _ _ _ (heap_alloc_new w _)]; rfl
  go_wp2
  go_ret
  exact ⟨rfl, (Kept.refl w).alloc _⟩
theorem maps_DeleteFunc (hm : IMap w h m (fun b => (f b).map spotV)) (hc : w.cell? ⟨c, 0, none⟩ = some (.int .i64 n)) (hch : c ≠ h) :
    Calls Try.prog 91 #[.map (some h), .func (.func 92) #[] #[.pointer (some ⟨c, 0, none⟩)]] w fun e w' => e = .returned (.tuple #[]) ∧ IMap w' h m (fun b => (dropF f n b).map spotV) ∧ But (fun k => k = h) w w' := by
  have HM := Lib.hid hm; clear hm
  have HC := Lib.hid hc; clear hc
  have hcl := World.block_lt_of_cell? _ _ HC.out
  go_enter Try.func91, Try.ntmps91
  go_wp2_with (refine stop_at (o := ⟨some 7, _, _, _, _, _⟩) ?_)
  refine Stop.mk ?_
  refine wpList_range_imap _ rfl _ 119 rfl 3 128 Try.underlying119 h m _ rfl HM.out ?_
  intro w0 hr0 hk0 hs0
  have HR0 := Lib.hid hr0
  have HK0 := Lib.hid hk0
  obtain ⟨r, hr⟩ : ∃ r, r = w.heap.size := ⟨_, rfl⟩
  rw [← hr] at HR0 ⊢
  have hrw : w.heap.size ≤ r := by omega
  clear hr0 hk0 hs0 hr
  go_wp2
  go_frame
  go_loopw [8] (fun _ wr => ∃ done : Int → Bool, Hid (IRange wr h m r (fun b => (curF f n done b).map spotV) done) ∧ Hid (But (fun k => k = h) w wr)) (fun _ wr => wr.rangeLeft h r)
  case atStart => exact ⟨fun _ => false, Lib.hid (by have := HR0.out; simpa [curF] using this), Lib.hid (But.kept HK0.out)⟩
  case round =>
    clear HR0 HK0
    obtain ⟨done, HR, HB⟩ := hrel
    go_wp2_with (refine stop_at (o := ⟨some 8, _, _, _, _, _⟩) ?_)
    refine Stop.mk ?_
    refine wpList_next_imap _ rfl _ rfl h m r _ _ rfl HR.out ?_ ?_
    · intro hall
      have hfin : (fun b => (curF f n done b).map spotV) = fun b => (dropF f n b).map spotV := by
        funext b
        cases hd : done b with
        | true => unfold curF; rw [hd]; rfl
        | false =>
          have e1 : curF f n done b = f b := by unfold curF; rw [hd]; rfl
          rw [e1]
          cases hf : f b with
          | none => unfold dropF; rw [hf]
          | some s =>
            have := hall b (spotV s) (by show (curF f n done b).map spotV = _; rw [e1, hf]; rfl)
            rw [hd] at this; cases this
      have HM' := Lib.hid HR.out.map
      rw [hfin] at HM'
      clear hfin hall
      go_wp2
      go_end0
      exact ⟨rfl, HM'.out, HB.out⟩
    · intro b v w1 hfb hdb hr1 hlt hg1 hs1 hen
      have hfb' : (f b).map spotV = some v := by
        have : curF f n done b = f b := by unfold curF; rw [hdb]; rfl
        rw [← this]; exact hfb
      rw [Option.map_eq_some_iff] at hfb'
      obtain ⟨s, hfs, rfl⟩ := hfb'
      have HR1 := Lib.hid hr1
      have HB1 := Lib.hid (HB.out.grow hg1 hrw)
      have HLT := Lib.hid hlt
      have HFS := Lib.hid hfs
      have HDB := Lib.hid hdb
      unfold spotV at hen ⊢
      clear hfb hdb hr1 hlt hg1 hs1 hfs HB HR
      go_wp2_with (refine stop_at (o := ⟨some 5, _, _, _, _, _⟩) ?_)
      refine Stop.mk ?_
      refine wpList_alloc_abs rfl 128 rfl [Value.int .i64 0, .int .i64 0] zero_spot ?_
      intro w2 hz2 hs2 hn2 hk2
      go_wp2_with (refine stop_at (o := ⟨none, .store _ _ _, _, _, _, _⟩) ?_)
      refine Stop.mk ?_
      refine wpList_store_agg rfl _ _ rfl ty_spot w1.heap.size 0 rfl [Value.int .i64 s.1, .int .i64 s.2] rfl rfl (by simp [Value.oneCell']) _ _ hz2.out (by decide) ?_
      intro w3 hw3
      replace hw3 := hw3.all rfl
      have hk3 : Kept w1 w3 := hw3.kept hk2 (Nat.le_refl _)
      have c0 : w3.cell? ⟨w1.heap.size, 0, none⟩ = some (.int .i64 s.1) := cell_of_row _ _ 0 _ _ _ hw3.blk
      have c1 : w3.cell? ⟨w1.heap.size, 1, none⟩ = some (.int .i64 s.2) := cell_of_row _ _ 1 _ _ _ hw3.blk
      have HR3 := Lib.hid (HR1.out.kept hk3)
      have HB3 := Lib.hid (HB1.out.trans' (But.kept (S := fun k => k = h) hk3) fun i hi => .inl hi)
      have hle3 : w3.rangeLeft h r = w1.rangeLeft h r := HR1.out.left_same (hk3.block_eq HR1.out.map.lt) (hk3.block_eq HR1.out.lt)
      have HL3 := Lib.hid hle3
      have hcc := HB3.out.cell hch HC.out
      have HCL := Lib.hid (drop_closure hcc b s)
      clear hz2 hs2 hn2 hk2 hw3 hk3 HR1 HB1 hle3 hcc hen
      generalize w1.heap.size = bs at *
      go_wp2_with fail
      refine Calls.mono HCL.out ?_
      rintro e w4 ⟨rfl, hk4⟩
      have HR4 := Lib.hid (HR3.out.kept hk4)
      have HB4 := Lib.hid (HB3.out.trans' (But.kept (S := fun k => k = h) hk4) fun i hi => .inl hi)
      have hle4 : w4.rangeLeft h r = w3.rangeLeft h r := HR3.out.left_same (hk4.block_eq HR3.out.map.lt) (hk4.block_eq HR3.out.lt)
      have HL4 := Lib.hid (hle4.trans HL3.out)
      clear hk4 hle4 HR3 HB3 HL3 HCL c0 c1
      by_cases hs : s.1 = n
      · have he : (s.1 == n) = true := by simpa using hs
        have hcur : del (fun x => (curF f n done x).map spotV) b = fun x => (curF f n (fun x => done x || x == b) x).map spotV := by
          funext x
          unfold del
          by_cases hx : x = b
          · subst hx
            rw [if_pos rfl]
            unfold curF dropF
            simp only [beq_self_eq_true, Bool.or_true, if_true, HFS.out, hs]
            rfl
          · rw [if_neg hx]
            show (curF f n done x).map spotV = _
            unfold curF
            simp only [beq_eq_false_iff_ne.2 hx, Bool.or_false]
        have HCU := Lib.hid hcur
        clear hcur hs
        go_wp2_with (refine stop_at (o := ⟨none, .call _, _, _, _, _⟩) ?_)
        refine Stop.mk ?_
        refine wpList_delete_ir rfl _ _ rfl Try.underlying119 Try.underlying3 rfl b rfl HR4.out ?_
        intro w5 hi5 hle5 hb5
        rw [HCU.out] at hi5
        have HR5 := Lib.hid hi5
        have HB5 := Lib.hid (HB4.out.trans' hb5 fun i hi => .inl hi)
        have HL5 := Lib.hid (Nat.le_trans hle5 (Nat.le_of_eq HL4.out))
        clear hi5 hle5 hb5 HR4 HB4 HL4
        go_frame
        go_wp2
        go_roundw
        case rel => exact ⟨_, HR5, HB5⟩
        case measure => exact Nat.lt_of_le_of_lt HL5.out HLT.out
      · have he : (s.1 == n) = false := by simpa using hs
        have hcur : (fun x => (curF f n done x).map spotV) = fun x => (curF f n (fun x => done x || x == b) x).map spotV := by
          funext x
          by_cases hx : x = b
          · subst hx
            unfold curF dropF
            simp only [beq_self_eq_true, Bool.or_true, if_true, HFS.out, if_neg hs, HDB.out]
            rfl
          · unfold curF
            simp only [beq_eq_false_iff_ne.2 hx, Bool.or_false]
        have HR5 := HR4
        rw [hcur] at HR5
        clear hcur hs HR4
        go_wp2
        go_roundw
        case rel => exact ⟨_, HR5, HB4⟩
        case measure => exact Nat.lt_of_le_of_lt (Nat.le_of_eq HL4.out) HLT.out
end
section
variable {w w' : World} {p : Nat} {S : Nat → Prop} {T : Tab} {g h : Nat} {blk : Blk}
theorem still_look_none {ops : Array Oper} {rest : List Oper} {o : Oper} {a : Act} {K : Act → Prop} (H : TabD w p S T g h blk) {n : Int} (hn : T.g n = none) (hw : Region.wanted o (yielded ops a.tmps) = true) (m x : Operand) (ho : o.op = .lookup 118 m x false) (hm : a.eval m = .map (some g)) (hx : a.eval x = .int .i64 n)
    (hK : wpStill Try.prog ops w K rest (a.put o.dst (.slice none 0 0))) : wpStill Try.prog ops w K (o :: rest) a := by
  obtain ⟨c, hc⟩ := H.gm
  refine wpStill_val hw ?_ hK
  have := exec_lookup m x false ho Try.underlying118 Try.underlying3 zero_slice hm n hx hc
  simpa [hn] using this
/-- a group's entry is gone -/
theorem TabD.cut (H : TabD w p S T g h blk) {n : Int} {m : Nat} (hb : But (fun k => k = g) w w') (hi : IMap w' g m (del (fun n => (T.g n).map (slV (blk.b n) (blk.j n).length)) n)) : TabD w' p S ⟨fun x => if x = n then none else T.g x, T.f⟩ g h blk := by
  obtain ⟨m2, h2⟩ := H.fm
  have t := H.top_ne
  have dom : ∀ x, (if x = n then none else T.g x) ≠ none → T.g x ≠ none := by
    intro x hx; split at hx
    · exact absurd rfl hx
    · exact hx
  refine ⟨hb.blk t.1 H.top, ⟨m, ?_⟩, ⟨m2, hb.imap H.gh.symm h2⟩, fun x l hl => ?_, fun x hx => H.own x (dom x hx), fun x y hx hy => H.inj x y (dom x hx) (dom y hy), H.gh, H.sp, H.sg, H.sh, fun k h => Nat.lt_of_lt_of_le (H.slt k h) hb.size⟩
  · have e : (fun x => (if x = n then none else T.g x).map (slV (blk.b x) (blk.j x).length)) = del (fun n => (T.g n).map (slV (blk.b n) (blk.j n).length)) n := by
      funext x; unfold del; split <;> rfl
    show IMap w' g m fun x => (if x = n then none else T.g x).map (slV (blk.b x) (blk.j x).length)
    rw [e]; exact hi
  · have hl' : T.g x = some l := by
      have : (if x = n then none else T.g x) = some l := hl
      split at this
      · cases this
      · exact this
    exact hb.blk (H.ne_map (by simp [hl'])).1 (H.row x l hl')
theorem TabD.fmap (H : TabD w p S T g h blk) {f : Int → Option (Int × Int)} {m : Nat} (hb : But (fun k => k = h) w w') (hi : IMap w' h m (fun x => (f x).map spotV)) : TabD w' p S ⟨T.g, f⟩ g h blk := by
  obtain ⟨m1, h1⟩ := H.gm
  have t := H.top_ne
  exact ⟨hb.blk t.2 H.top, ⟨m1, hb.imap H.gh h1⟩, ⟨m, hi⟩, fun n l hl => hb.blk (H.ne_map (by simp [show T.g n = some l from hl])).2 (H.row n l hl), H.own, H.inj, H.gh, H.sp, H.sg, H.sh, fun k h => Nat.lt_of_lt_of_le (H.slt k h) hb.size⟩
end
section
variable {w : World} {p : Nat} {S : Nat → Prop} {T : Tab}
set_option maxHeartbeats 1000000
set_option maxRecDepth 100000
theorem tab_Drop_none (H : TabAt w p S T) (n : Int) (hn : T.g n = none) :
    Calls Try.prog 29 #[.pointer (some ⟨p, 0, none⟩), .int .i64 n] w fun e w' => e = .returned (.int .i64 8) ∧ Kept w w' := by
  obtain ⟨g, h, blk, H⟩ := H
  have HN := Lib.hid hn; clear hn
  have e1 := eq_nil
  have hk1 := (Kept.refl w).alloc (Obj.cells #[.int .i64 n] 3)
  have cb : (w.alloc (Obj.cells #[.int .i64 n] 3)).cell? ⟨w.heap.size, 0, none⟩ = some (.int .i64 n) := by
    rw [cell_of_row _ _ _ _ _ _ (heap_alloc_new w _)]; rfl
  have HK1 := Lib.hid hk1
  have HCB := Lib.hid cb
  clear hk1 cb
  go_enter Try.func29, Try.ntmps29
  go_upto_region 1 with fail
  refine wp_still_every (by kernel_rfl) (by kernel_rfl) fun ws hks hhs => ?_
  have hk2 := HK1.out.trans hks
  have H2 := H.same hk2
  have c0 := H2.c0
  have cb := hks.cell' HCB.out
  have HK2 := Lib.hid hk2
  iterate 5 still_step
  refine still_look_none H2 HN.out rfl _ _ rfl rfl rfl ?_
  iterate 1 still_step
  refine wpStill_nil ?_
  go_wp2
  go_ret
  exact ⟨rfl, HK2.out⟩
theorem tab_Drop (H : TabAt w p S T) (n : Int) {l : List Int} (hn : T.g n = some l) :
    Calls Try.prog 29 #[.pointer (some ⟨p, 0, none⟩), .int .i64 n] w fun e w' => e = .returned (.int .i64 0) ∧ TabAt w' p S (T.drop n) ∧ But S w w' := by
  obtain ⟨g, h, blk, H⟩ := H
  have HN := Lib.hid hn; clear hn
  have e1 := eq_nil
  have hk1 := (Kept.refl w).alloc (Obj.cells #[.int .i64 n] 3)
  have cb : (w.alloc (Obj.cells #[.int .i64 n] 3)).cell? ⟨w.heap.size, 0, none⟩ = some (.int .i64 n) := by
    rw [cell_of_row _ _ _ _ _ _ (heap_alloc_new w _)]; rfl
  have HK1 := Lib.hid hk1
  have HCB := Lib.hid cb
  have hlt := H.lt
  have hcg : w.heap.size ≠ g ∧ w.heap.size ≠ h := by omega
  clear hk1 cb hlt
  go_enter Try.func29, Try.ntmps29
  go_upto_region 1 with fail
  refine wp_still_every (by kernel_rfl) (by kernel_rfl) fun ws hks hhs => ?_
  have hk2 := HK1.out.trans hks
  have H2 := H.same hk2
  have c0 := H2.c0
  have cb := hks.cell' HCB.out
  have HK2 := Lib.hid hk2
  have HB2 := Lib.hid cb
  have HT2 := Lib.hid H2
  iterate 5 still_step
  refine still_look H2 HN.out rfl _ _ rfl rfl rfl ?_
  iterate 1 still_step
  refine wpStill_nil ?_
  clear c0 cb hk2 H2 hks hhs HK1 HCB
  go_wp2
  refine wp_still_tail 5 (by kernel_rfl) (by kernel_rfl) fun w3 hks hhs => ?_
  have H3 := HT2.out.same hks
  have c0 := H3.c0
  have cb := hks.cell' HB2.out
  have HB3 := Lib.hid cb
  have HK3 := Lib.hid (HK2.out.trans hks)
  have HT3 := Lib.hid H3
  simp only [List.take_succ_cons, List.take_zero, List.drop_succ_cons, List.drop_zero]
  iterate 5 still_step
  refine wpStill_nil ?_
  obtain ⟨m, hm⟩ := HT3.out.gm
  refine wpList_delete_im rfl _ _ rfl Try.underlying118 Try.underlying3 rfl n rfl hm ?_
  intro o' hi
  have hbt := But.block1 w3 g o'
  have HT4 := Lib.hid (HT3.out.cut hbt hi)
  have HB4 := Lib.hid (hbt.cell hcg.1 HB3.out)
  have HU4 := Lib.hid ((But.kept (S := S) HK3.out).trans' hbt fun i hi => .inl (by rw [hi]; exact H.sg))
  generalize ChangeMaps.setBlock w3 g o' = w4 at *
  clear hi hbt hm c0 cb H3 hks hhs HB3 HT3 HK3 HB2 HT2 HK2
  obtain ⟨m2, hm2⟩ := HT4.out.fm
  have c1 := HT4.out.c1
  have HDF := Lib.hid (maps_DeleteFunc hm2 HB4.out hcg.2)
  clear hm2
  go_frame
  go_wp2_with fail
  refine Calls.mono HDF.out ?_
  rintro e w5 ⟨rfl, hi5, hb5⟩
  have HT5 := Lib.hid (HT4.out.fmap hb5 hi5)
  have HU5 := Lib.hid (HU4.out.trans' hb5 fun i hi => .inl (by rw [hi]; exact H.sh))
  clear hi5 hb5 c1
  go_wp2
  go_ret
  exact ⟨rfl, ⟨g, h, blk, HT5.out⟩, HU5.out⟩
end
section
variable {w0 W W' : World} {R : Nat → Prop} {p : Nat} {T T' : Tab}
theorem own_Drop (h : Own w0 R W p T) (n : Int) {l : List Int} (hn : T.g n = some l) :
    Calls Try.prog 29 #[.pointer (some ⟨p, 0, none⟩), .int .i64 n] W fun e w' => e = .returned (.int .i64 0) ∧ Own w0 R w' p (T.drop n) ∧ SameR R W w' := by
  obtain ⟨S, h1, h2, h3, h4⟩ := h
  exact (tab_Drop h1 n hn).mono fun e w' ⟨he, k1, k2⟩ => ⟨he, Own.step h1 h2 h3 h4 k1 k2 (fun _ h => .inl h)⟩
theorem own_Drop_none (h : Own w0 R W p T) (n : Int) (hn : T.g n = none) :
    Calls Try.prog 29 #[.pointer (some ⟨p, 0, none⟩), .int .i64 n] W fun e w' => e = .returned (.int .i64 8) ∧ Own w0 R w' p T ∧ SameR R W w' ∧ Kept W w' := by
  have H := h
  obtain ⟨S, h1, h2, h3, h4⟩ := h
  exact (tab_Drop_none h1 n hn).mono fun e w' ⟨he, hk⟩ => ⟨he, (H.kept hk).1, (H.kept hk).2, hk⟩
end
end Go.Proofs.Ytglplhmclfekfaa
