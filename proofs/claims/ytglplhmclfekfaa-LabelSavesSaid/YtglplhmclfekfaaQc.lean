/- law04's bank: both banks, with any sectors and labels (gen_qc.py). -/
import Derived.Test.YtglplhmclfekfaaQa
import Derived.Test.YtglplhmclfekfaaFcA
import Derived.Test.YtglplhmclfekfaaOpen
import Derived.Test.YtglplhmclfekfaaFdA
namespace Go.Proofs.Ytglplhmclfekfaa
open Go.RowKit Go.ChangeMaps
set_option linter.unusedVariables false
set_option linter.unusedSimpArgs false

theorem MSrc.keptA {w w' : World} {v : Value} {ms : List Mem} (h : MSrc w v ms) (hk : Kept w w') : MSrc w' v ms := by
  rcases h with h | ⟨b, off, cap, e, h1, h2, h3⟩
  · exact .inl h
  · exact .inr ⟨b, off, cap, e, h1, h2, h3.kept hk⟩
theorem pl_cells {W : World} {b : Nat} {x y : Int} (h : Pl W b x y) : Cells W b 0 [.int .i64 x, .int .i64 y] := by
  intro j hj
  rcases j with _ | _ | j
  · exact h.1
  · exact h.2
  · simp at hj; omega
/-- a slice of labels that comes in -/
def LSrc (w : World) (v : Value) (L : List (Lab × Value)) : Prop := ∃ oa cap, v = .slice oa L.length cap ∧ L.length ≤ cap ∧ cap ≤ maxLen ∧ ∀ k (hk : k < L.length), ∃ b off, oa = some ⟨b, off, none⟩ ∧
  Cells w b (off + k * 5) (Lab.vals L[k].1 L[k].2) ∧ (∃ oa n cap, L[k].2 = .slice oa n cap) ∧ MSrc w L[k].2 L[k].1.ms
theorem LSrc.at {w : World} {oa : Option Addr} {n cap : Nat} {L : List (Lab × Value)} (h : LSrc w (.slice oa n cap) L) (k : Nat) (hk : k < L.length) : ∃ b off, oa = some ⟨b, off, none⟩ ∧
    Cells w b (off + k * 5) (Lab.vals L[k].1 L[k].2) ∧ (∃ oa n cap, L[k].2 = .slice oa n cap) ∧ MSrc w L[k].2 L[k].1.ms := by
  obtain ⟨oa', cap', e, h1, h2, h3⟩ := h
  cases e
  exact h3 k hk
set_option maxRecDepth 100000 in
theorem open_lsrc {H : Type} {enc : TypeId × Value → H} {w : World} {base : Nat} {spare : Nat → Bool} {held : Bool} {fuel : Nat} {v : Value} {x : DataW H × List MemPlace}
    (h : DataW.trod enc Try.prog w base spare held fuel 76 [v] = some x) : ∃ l, LSrc w v l := by
  rcases Go.Deep.open_slice Try.underlying76 h with ⟨hcs, _⟩ | ⟨a, len, cap, m, n, D, Pl, hcs, _, hl, hmx, hm, _, hi⟩
  · simp at hcs; subst hcs; exact ⟨[], none, 0, rfl, Nat.le_refl _, by decide, fun k hk => by cases hk⟩
  simp at hcs
  subst hcs
  have hlm : len ≤ m := by rw [hm]; split <;> omega
  have hC : Try.prog.cellsOf 80 = 5 := by kernel_rfl
  have hC1 : Try.prog.cellsOf 3 = 1 := by kernel_rfl
  have hC2 : Try.prog.cellsOf 78 = 1 := by kernel_rfl
  have key : ∀ i, ∃ y : Lab × Value, i < len → w.cell? ((a.add (i * 5)).add 0) = some (.int .i64 y.1.array) ∧ w.cell? ((a.add (i * 5)).add 1) = some (.int .i64 y.1.gen) ∧ w.cell? ((a.add (i * 5)).add 2) = some (.int .i64 y.1.member) ∧ w.cell? ((a.add (i * 5)).add 3) = some (.int .i64 y.1.blocks) ∧ w.cell? ((a.add (i * 5)).add 4) = some y.2 ∧ (∃ oa n cap, y.2 = .slice oa n cap) ∧ MSrc w y.2 y.1.ms := by
    intro i
    by_cases hil : i < len
    · obtain ⟨cs', hc, ht⟩ := hi i (by omega)
      rw [hC] at hc
      obtain ⟨_, hcl, hat⟩ := World.cells?_some hc
      obtain ⟨xs, n', _, _, _, hxl, hf⟩ := DataW.trod_struct Try.underlying80 ht
      replace hxl : xs.length = 5 := hxl
      rcases cs' with _ | ⟨c0, _ | ⟨c1, _ | ⟨c2, _ | ⟨c3, _ | ⟨c4, _ | ⟨c5, r⟩⟩⟩⟩⟩⟩ <;> simp at hcl
      have f0 : DataW.trod enc Try.prog w base spare held n' 3 ((([c0, c1, c2, c3, c4] : List Value).drop 0).take (Try.prog.cellsOf 3)) = xs[0]? := hf 0 _ rfl
      have f1 : DataW.trod enc Try.prog w base spare held n' 3 ((([c0, c1, c2, c3, c4] : List Value).drop 1).take (Try.prog.cellsOf 3)) = xs[1]? := hf 1 _ rfl
      have f2 : DataW.trod enc Try.prog w base spare held n' 3 ((([c0, c1, c2, c3, c4] : List Value).drop 2).take (Try.prog.cellsOf 3)) = xs[2]? := hf 2 _ rfl
      have f3 : DataW.trod enc Try.prog w base spare held n' 3 ((([c0, c1, c2, c3, c4] : List Value).drop 3).take (Try.prog.cellsOf 3)) = xs[3]? := hf 3 _ rfl
      have f4 : DataW.trod enc Try.prog w base spare held n' 78 ((([c0, c1, c2, c3, c4] : List Value).drop 4).take (Try.prog.cellsOf 78)) = xs[4]? := hf 4 _ rfl
      rw [hC1, List.getElem?_eq_getElem (by omega)] at f0 f1 f2 f3
      rw [hC2, List.getElem?_eq_getElem (by omega)] at f4
      obtain ⟨z0, hz0, _, _⟩ := DataW.trod_int Try.underlying3 f0
      obtain ⟨z1, hz1, _, _⟩ := DataW.trod_int Try.underlying3 f1
      obtain ⟨z2, hz2, _, _⟩ := DataW.trod_int Try.underlying3 f2
      obtain ⟨z3, hz3, _, _⟩ := DataW.trod_int Try.underlying3 f3
      simp at hz0 hz1 hz2 hz3
      subst hz0 hz1 hz2 hz3
      simp only [List.drop_succ_cons, List.drop_zero, List.take_succ_cons, List.take_zero] at f4
      obtain ⟨ms, hms⟩ := open_mems f4
      have hms' := hms
      have hfm : ∃ oa n cap, c4 = .slice oa n cap := by
        rcases hms with ⟨oa, cap, e, _⟩ | ⟨b, off, cap, e, _⟩
        · exact ⟨_, _, _, e⟩
        · exact ⟨_, _, _, e⟩
      exact ⟨(⟨z0, z1, z2, z3, ms⟩, c4), fun _ => ⟨hat 0 (by simp), hat 1 (by simp), hat 2 (by simp), hat 3 (by simp), hat 4 (by simp), hfm, hms'⟩⟩
    · exact ⟨(Lab.zero, undef), fun h' => absurd h' hil⟩
  obtain ⟨f, hf⟩ := Classical.axiomOfChoice key
  refine ⟨(List.range len).map f, some a, cap, by simp, by simpa using hl, hmx, fun k hk => ?_⟩
  have hk' : k < len := by simpa using hk
  have h1 := hf k hk'
  obtain ⟨b, off, spot⟩ := a
  have hsp := World.cell?_spot (hf 0 (by omega)).1
  have hspot : spot = none := by simpa [Addr.add] using hsp
  subst hspot
  refine ⟨b, off, rfl, ?_⟩
  simp only [Addr.add_mid] at h1
  simp only [List.getElem_map, List.getElem_range]
  obtain ⟨d0, d1, d2, d3, d4, d5⟩ := h1
  refine ⟨fun j hj => ?_, d5⟩
  rcases j with _ | _ | _ | _ | _ | j
  · exact d0
  · exact d1
  · exact d2
  · exact d3
  · exact d4
  · simp [Lab.vals] at hj; omega
theorem putSec_lenA {l : Lab} (h : l.ms.length ≤ 20) : (putSec l).length = 64 := by
  unfold putSec
  split
  · rename_i hr; exact l.sec_length (right_len hr)
  · exact zeroB_length
theorem putSec_is {l : Lab} (h : rightB l = true) : putSec l = l.sec ∧ putErr l = 0 := by unfold putSec putErr; rw [h]; exact ⟨rfl, rfl⟩
section
variable {w0 W : World} {R : Nat → Prop}
set_option maxHeartbeats 4000000
set_option maxRecDepth 100000
theorem law_bankB (L : List (Lab × Value)) (ol : Option Addr) (lcap : Nat) (l : List (List Int)) (oa : Option Addr) (cap : Nat) (w0 W : World) (R : Nat → Prop) (hL : LSrc w0 (.slice ol L.length lcap) L) (hs : SSrc w0 (.slice oa l.length cap) l) (hk : Kept w0 W) (hR : ∀ k, R k → k < W.heap.size) :
    Calls Try.prog 43 #[.slice ol L.length lcap, .slice oa l.length cap] W fun e w' => ∃ qb qr T, e = .returned (.tuple #[.pointer (some ⟨qb, 0, none⟩), .pointer (some ⟨qr, 0, none⟩)]) ∧ BR w0 R w' qb T qr T.ref ∧ Sane T 3 200 12 ∧ SameR R W w' := by
  have HSL := Lib.hid hs
  have HLL := Lib.hid hL
  have HK := Lib.hid hk
  have HRR := Lib.hid hR
  obtain ⟨hcap, hmax⟩ : l.length ≤ cap ∧ cap ≤ maxLen := by obtain ⟨_, _, e, h1, h2, _⟩ := hs; cases e; exact ⟨h1, h2⟩
  obtain ⟨lhcap, lhmax⟩ : L.length ≤ lcap ∧ lcap ≤ maxLen := by obtain ⟨_, _, e, h1, h2, _⟩ := hL; cases e; exact ⟨h1, h2⟩
  unfold maxLen at hmax lhmax
  clear hs hk hL hR
  go_enter Try.func43, Try.ntmps43
  go_wp2_with fail
  refine Calls.mono (bk_New w0 W R HK.out HRR.out) ?_
  rintro e w1 ⟨qb, rfl, hb, hk1⟩
  have HB1 := Lib.hid hb
  have HS1 : Hid (SameR R W w1) := Lib.hid (fun k hk => hk1.block_eq (HRR.out k hk))
  clear hb hk1
  go_wp2_with fail
  refine Calls.mono (br_NewS 200 HB1.out) ?_
  rintro e w2 ⟨qr, rfl, hb, hs2⟩
  have HB2 := Lib.hid hb
  have HS2 := Lib.hid (HS1.out.trans hs2)
  clear hb HB1 hs2 HS1
  go_wp2
  go_loopw [8] (fun i wr => ∃ k : Nat, k ≤ 3 ∧ i = .int .i64 k ∧ Hid (BR w0 R wr qb (addZ 200 k) qr (addZ 200 k).ref) ∧ Hid (SameR R W wr)) (fun i _ => 3 - (intOf i).toNat)
  case atStart => exact ⟨0, Nat.zero_le _, rfl, HB2, HS2⟩
  case round =>
    clear HB2 HS2
    obtain ⟨k, hk, rfl, HB, HS⟩ := hrel
    by_cases hlt : k < 3
    · go_wp2_with fail
      refine Calls.mono (HB.out.opd (P := fun e => e = .returned (.tuple #[.int .i64 (k : Int), .int .i64 0])) (T' := addZ 200 (k + 1)) (fun R hb => (bk_Add hb (by rw [addZ_len]; omega) 200 (by decide) (by decide)).mono fun e w' ⟨h1, h2, h3⟩ => ⟨by rw [h1, addZ_len], h2, h3⟩)) ?_
      rintro e w3 ⟨rfl, hb, hs⟩
      have HB3 := Lib.hid hb
      have HS3 := Lib.hid (HS.out.trans hs)
      clear hb HB hs HS
      go_wp2_with fail
      refine Calls.mono (br_Add2 (z := 200) HB3.out (by omega) (by decide)) ?_
      rintro e w4 ⟨rfl, hb, hs⟩
      have HB4 := Lib.hid hb
      have HS4 := Lib.hid (HS3.out.trans hs)
      clear hb HB3 hs HS3
      go_wp2
      go_roundw
      case rel => exact ⟨k + 1, hlt, by go_num, HB4, HS4⟩
      case measure => simp [intOf]; omega
    · rw [show k = 3 by omega] at HB
      have HSA : Hid (Sane (addZ 200 3) 3 200 0) := Lib.hid (Sane.addZ (by decide) (by decide))
      generalize addZ 200 3 = T0 at *
      go_upto_block 2 with fail
      go_cut [] (fun wc => ∃ T, Hid (BR w0 R wc qb T qr T.ref) ∧ Hid (Sane T 3 200 6) ∧ Hid (SameR R W wc))
      case first =>
        go_wp2
        go_loopw [9] (fun i wr => ∃ (k : Nat) (T : BankT), k ≤ l.length ∧ k ≤ 6 ∧ i = .int .i64 k ∧ Hid (BR w0 R wr qb T qr T.ref) ∧ Hid (Sane T 3 200 k) ∧ Hid (SameR R W wr)) (fun i _ => 6 - (intOf i).toNat)
        case atStart => exact ⟨0, T0, Nat.zero_le _, by decide, rfl, HB, HSA, HS⟩
        case round =>
          clear HB HSA HS
          obtain ⟨k, T, hk, hk6, rfl, HB, HSA, HS⟩ := hrel
          by_cases hlt : k < l.length ∧ k < 6
          · obtain ⟨hlt, h6⟩ := hlt
            obtain ⟨rb, ro, rfl, hcl, hl64, hlby⟩ := HSL.out.at k hlt
            have hdm : ((k : Int) % 3) = ((k % 3 : Nat) : Int) := by omega
            have hdq : ((k : Int) / 3) = ((k / 3 : Nat) : Int) := by omega
            have hdqt : (k : Int).tdiv 3 = ((k / 3 : Nat) : Int) := by rw [Int.tdiv_eq_ediv_of_nonneg (by omega)]; exact hdq
            have hdmt : (k : Int).tmod 3 = ((k % 3 : Nat) : Int) := by rw [Int.tmod_eq_emod_of_nonneg (by omega)]; exact hdm
            generalize k % 3 = d at *
            generalize k / 3 = a at *
            generalize l[k] = s at *
            have HL64 := Lib.hid (⟨hl64, hlby⟩ : s.length = 64 ∧ ∀ x ∈ s, IsByte x)
            have HU := Lib.hid (HSA.out.use (by decide) (by omega))
            have HDO := Lib.hid (HSA.out.doc (by decide) (by omega))
            have HSB := Lib.hid (HSA.out.write (d : Int) (a : Int) HL64.out)
            have H1 := Lib.hid (fun (R : Nat → Prop) (W : World) (h : BR w0 R W qb T qr T.ref) => br_Write h HU.out (d : Int) (a : Int) HL64.out.1)
            have H2 := Lib.hid (fun (R : Nat → Prop) (W : World) (h : BR w0 R W qb (T.write (d : Int) (a : Int) s).1 qr T.ref) => br_Write2 h HDO.out (d : Int) (a : Int) HL64.out)
            obtain ⟨T', ec, hT'⟩ : ∃ T' ec, T.write (d : Int) (a : Int) s = (T', ec) := ⟨_, _, rfl⟩
            rw [hT'] at H1 H2 HSB
            simp only at H1 H2 HSB
            clear hT'
            have HCL := Lib.hid hcl
            clear hl64 hlby hcl HU HDO HSA
            go_wp2_with (refine stop_at (o := ⟨some 10, _, _, _, _, _⟩) ?_)
            refine Stop.mk ?_
            refine wpList_new_row rfl rfl _ _ rfl rfl ty_plc _ zero_plc rfl [.int .i64 (d : Int), .int .i64 (a : Int)] rfl rfl (one_plc _ _) rfl ?_
            intro w5 hz hs hk5
            have HS5 := Lib.hid (HS.out.trans (HB.out.keptS hk5).2)
            have HB5 := Lib.hid (HB.out.box hk5 hs)
            have HP5 := Lib.hid (Pl.of hz.out)
            generalize wr.heap.size = Bp at *
            clear hz hs hk5 HB hdm hdq hdqt hdmt HS
            have hS := (⟨HP5.out, Cells.kept HCL.out HB5.out.keeps⟩ : _ ∧ _)
            go_upto_region 14 with fail
            replace hS : Pl w5.drew Bp (d : Int) (a : Int) ∧ Cells w5.drew rb (ro + k * 64) (u8s s) := hS
            refine wp_region_calm ?_
            refine wp_region_E (fun W => Pl W Bp (d : Int) (a : Int) ∧ Cells W rb (ro + k * 64) (u8s s)) 100 (by kernel_rfl) ?_
            refine wpAnyE_take (i := 0) (v := ?_) (listed' := #[true, false, false, false, false, false, false]) (by rfl) (by kernel_rfl) (by kernel_rfl) calm_put hS (by rfl) ?_ ?_
            rotate_left
            · intro W hW; clear hW; go_simp; try (with_reducible rfl)
            simp only [Act.put, List.getElem_toArray, List.getElem_cons_succ, List.getElem_cons_zero, List.setIfInBounds_toArray, List.set_cons_zero, List.set_cons_succ]
            refine wpAnyE_take (i := 1) (v := .agg #[.int .i64 (d : Int), .int .i64 (a : Int)]) (listed' := #[true, true, false, false, false, false, false]) (by rfl) (by kernel_rfl) (by kernel_rfl) calm_put hS (by rfl) ?_ ?_
            · intro W hW; skip; have h1 := hW.1; exact exec_load_plcO _ rfl Bp 0 rfl [.int .i64 (d : Int), .int .i64 (a : Int)] rfl (pl_cells h1)
            simp only [Act.put, List.getElem_toArray, List.getElem_cons_succ, List.getElem_cons_zero, List.setIfInBounds_toArray, List.set_cons_zero, List.set_cons_succ]
            refine wpAnyE_take (i := 2) (v := ?_) (listed' := #[true, true, true, false, false, false, false]) (by rfl) (by kernel_rfl) (by kernel_rfl) calm_put hS (by rfl) ?_ ?_
            rotate_left
            · intro W hW; clear hW; go_simp; try (with_reducible rfl)
            simp only [Act.put, List.getElem_toArray, List.getElem_cons_succ, List.getElem_cons_zero, List.setIfInBounds_toArray, List.set_cons_zero, List.set_cons_succ]
            refine wpAnyE_take (i := 3) (v := ?_) (listed' := #[true, true, true, true, false, false, false]) (by rfl) (by kernel_rfl) (by kernel_rfl) calm_put hS (by rfl) ?_ ?_
            rotate_left
            · intro W hW; clear hW; go_simp; try (with_reducible rfl)
            simp only [Act.put, List.getElem_toArray, List.getElem_cons_succ, List.getElem_cons_zero, List.setIfInBounds_toArray, List.set_cons_zero, List.set_cons_succ]
            refine wpAnyE_take (i := 4) (v := ?_) (listed' := #[true, true, true, true, true, false, false]) (by rfl) (by kernel_rfl) (by kernel_rfl) calm_put hS (by rfl) ?_ ?_
            rotate_left
            · intro W hW; clear hW; go_simp; try (with_reducible rfl)
            simp only [Act.put, List.getElem_toArray, List.getElem_cons_succ, List.getElem_cons_zero, List.setIfInBounds_toArray, List.set_cons_zero, List.set_cons_succ]
            refine wpAnyE_take (i := 5) (v := .agg (u8s s).toArray) (listed' := #[true, true, true, true, true, true, false]) (by rfl) (by kernel_rfl) (by kernel_rfl) calm_put hS (by rfl) ?_ ?_
            · intro W hW; skip; have hW5 := hW.2; exact exec_load_secO _ rfl rb (ro + k * 64) rfl s HL64.out.1 hW5
            simp only [Act.put, List.getElem_toArray, List.getElem_cons_succ, List.getElem_cons_zero, List.setIfInBounds_toArray, List.set_cons_zero, List.set_cons_succ]
            refine wpAnyE_one (i := 6) (listed' := #[true, true, true, true, true, true, true]) (by rfl) (by kernel_rfl) (by kernel_rfl) (by rfl) (fun K hK => ?_)
            simp only [Act.put, List.getElem_toArray, List.getElem_cons_succ, List.getElem_cons_zero, List.setIfInBounds_toArray, List.set_cons_zero, List.set_cons_succ]
            go_wp2_with fail
            refine Calls.mono (H1.out _ _ (HB5.out.kept (Kept.refl _).drew)) ?_
            rintro e w6 ⟨rfl, hb, hr⟩
            have hS := (⟨hS.1.same (hr Bp (.inr rfl)), Cells.kept HCL.out hb.keeps⟩ : _ ∧ _)
            have HNw6 := Lib.hid hb
            have HRw6 := Lib.hid hr
            clear hb hr
            refine hK _ _ (fun _ => hS) ?_; clear hK K
            refine wpAnyE_done (by kernel_rfl) ?_ _
            refine calm_normal ?_
            clear HB5 HP5
            go_upto_region 15 with fail
            replace hS : Pl w6.drew Bp (d : Int) (a : Int) ∧ Cells w6.drew rb (ro + k * 64) (u8s s) := hS
            refine wp_region_calm ?_
            refine wp_region_E (fun W => Pl W Bp (d : Int) (a : Int) ∧ Cells W rb (ro + k * 64) (u8s s)) 100 (by kernel_rfl) ?_
            refine wpAnyE_take (i := 0) (v := ?_) (listed' := #[true, false, false, false, false, false, false]) (by rfl) (by kernel_rfl) (by kernel_rfl) calm_put hS (by rfl) ?_ ?_
            rotate_left
            · intro W hW; clear hW; go_simp; try (with_reducible rfl)
            simp only [Act.put, List.getElem_toArray, List.getElem_cons_succ, List.getElem_cons_zero, List.setIfInBounds_toArray, List.set_cons_zero, List.set_cons_succ]
            refine wpAnyE_take (i := 1) (v := .agg #[.int .i64 (d : Int), .int .i64 (a : Int)]) (listed' := #[true, true, false, false, false, false, false]) (by rfl) (by kernel_rfl) (by kernel_rfl) calm_put hS (by rfl) ?_ ?_
            · intro W hW; skip; have h1 := hW.1; exact exec_load_plcO _ rfl Bp 0 rfl [.int .i64 (d : Int), .int .i64 (a : Int)] rfl (pl_cells h1)
            simp only [Act.put, List.getElem_toArray, List.getElem_cons_succ, List.getElem_cons_zero, List.setIfInBounds_toArray, List.set_cons_zero, List.set_cons_succ]
            refine wpAnyE_take (i := 2) (v := ?_) (listed' := #[true, true, true, false, false, false, false]) (by rfl) (by kernel_rfl) (by kernel_rfl) calm_put hS (by rfl) ?_ ?_
            rotate_left
            · intro W hW; clear hW; go_simp; try (with_reducible rfl)
            simp only [Act.put, List.getElem_toArray, List.getElem_cons_succ, List.getElem_cons_zero, List.setIfInBounds_toArray, List.set_cons_zero, List.set_cons_succ]
            refine wpAnyE_take (i := 3) (v := ?_) (listed' := #[true, true, true, true, false, false, false]) (by rfl) (by kernel_rfl) (by kernel_rfl) calm_put hS (by rfl) ?_ ?_
            rotate_left
            · intro W hW; clear hW; go_simp; try (with_reducible rfl)
            simp only [Act.put, List.getElem_toArray, List.getElem_cons_succ, List.getElem_cons_zero, List.setIfInBounds_toArray, List.set_cons_zero, List.set_cons_succ]
            refine wpAnyE_take (i := 4) (v := ?_) (listed' := #[true, true, true, true, true, false, false]) (by rfl) (by kernel_rfl) (by kernel_rfl) calm_put hS (by rfl) ?_ ?_
            rotate_left
            · intro W hW; clear hW; go_simp; try (with_reducible rfl)
            simp only [Act.put, List.getElem_toArray, List.getElem_cons_succ, List.getElem_cons_zero, List.setIfInBounds_toArray, List.set_cons_zero, List.set_cons_succ]
            refine wpAnyE_take (i := 5) (v := .agg (u8s s).toArray) (listed' := #[true, true, true, true, true, true, false]) (by rfl) (by kernel_rfl) (by kernel_rfl) calm_put hS (by rfl) ?_ ?_
            · intro W hW; skip; have hW5 := hW.2; exact exec_load_secO _ rfl rb (ro + k * 64) rfl s HL64.out.1 hW5
            simp only [Act.put, List.getElem_toArray, List.getElem_cons_succ, List.getElem_cons_zero, List.setIfInBounds_toArray, List.set_cons_zero, List.set_cons_succ]
            refine wpAnyE_one (i := 6) (listed' := #[true, true, true, true, true, true, true]) (by rfl) (by kernel_rfl) (by kernel_rfl) (by rfl) (fun K hK => ?_)
            simp only [Act.put, List.getElem_toArray, List.getElem_cons_succ, List.getElem_cons_zero, List.setIfInBounds_toArray, List.set_cons_zero, List.set_cons_succ]
            go_wp2_with fail
            refine Calls.mono (H2.out _ _ (HNw6.out.kept (Kept.refl _).drew)) ?_
            rintro e w7 ⟨rfl, hb, hr⟩
            have hS := (⟨hS.1.same (hr Bp (.inr rfl)), Cells.kept HCL.out hb.keeps⟩ : _ ∧ _)
            have HNw7 := Lib.hid hb
            have HRw7 := Lib.hid hr
            clear hb hr
            refine hK _ _ (fun _ => hS) ?_; clear hK K
            refine wpAnyE_done (by kernel_rfl) ?_ _
            refine calm_normal ?_
            have HB7 := Lib.hid (HNw7.out.less (R' := R) (fun k hk => .inl hk))
            have HS7 := Lib.hid (HS5.out.trans ((show SameR R w5 w6 from fun k hk => HRw6.out k (.inl hk)).trans (show SameR R w6 w7 from fun k hk => HRw7.out k (.inl hk))))
            clear HNw6 HNw7 hS HS5 HRw6 HRw7 H1 H2
            go_wp2
            go_roundw
            case rel => exact ⟨k + 1, T', hlt, h6, by go_num, HB7, HSB, HS7⟩
            case measure => simp [intOf]; omega
          · have hkk : l.length ≤ k ∨ (k < l.length ∧ 6 ≤ k) := by omega
            have HSA6 := Lib.hid (HSA.out.le hk6)
            clear hlt HSA
            rcases hkk with hkk | ⟨hkk, h6⟩
            all_goals
              go_wp2
              go_meet
              case rel => exact ⟨T, HB, HSA6, HS⟩
      case rest =>
        clear HB HSA HS
        obtain ⟨T1, HB, HSA, HS⟩ := hcut
        go_wp2
        go_loopw [11] (fun i wr => ∃ (k : Nat) (T : BankT), k ≤ L.length ∧ k ≤ 6 ∧ i = .int .i64 k ∧ Hid (BR w0 R wr qb T qr T.ref) ∧ Hid (Sane T 3 200 (6 + k)) ∧ Hid (SameR R W wr)) (fun i _ => 6 - (intOf i).toNat)
        case atStart => exact ⟨0, T1, Nat.zero_le _, by decide, rfl, HB, HSA, HS⟩
        case round =>
          clear HB HSA HS
          obtain ⟨k, T, hk, hk6, rfl, HB, HSA, HS⟩ := hrel
          by_cases hlt : k < L.length ∧ k < 6
          · obtain ⟨hlt, h6⟩ := hlt
            obtain ⟨rb, ro, rfl, hcl, ⟨mo, mn, mc, hmo⟩, hms⟩ := HLL.out.at k hlt
            generalize L[k] = lv at *
            obtain ⟨lb, slv⟩ := lv
            simp only at hcl hmo hms
            subst hmo
            have HCL := Lib.hid hcl
            have HMS := Lib.hid hms
            clear hcl hms
            have HCW := Lib.hid (HCL.out.kept HB.out.keeps)
            go_wp2_with (refine stop_at (o := ⟨some 71, _, _, _, _, _⟩) ?_)
            refine Stop.mk ?_
            refine wpList_load_agg rfl _ rfl ty_lab rb (ro + k * 5) rfl (Lab.vals lb (.slice mo mn mc)) HCW.out rfl ?_
            go_wp2_with fail
            refine Calls.mono (law_cut lb mo mn mc _ (HMS.out.keptA HB.out.keeps)) ?_
            rintro e w3 ⟨sl, rfl, hm, hk3, _⟩
            have HB3 := Lib.hid (HB.out.keptS hk3).1
            have HS3 := Lib.hid (HS.out.trans (HB.out.keptS hk3).2)
            have HM3 : Hid (MSl w3 sl lb.cut.ms) := Lib.hid hm
            clear hm hk3 HB HS HCW
            go_wp2_with fail
            refine Calls.mono (ref_LPut lb.cut sl _ (by have := List.length_take (i := 20) (l := lb.ms); show (lb.ms.take 20).length ≤ _; omega) HM3.out) ?_
            rintro e w4 ⟨rfl, hk4⟩
            have HB4 := Lib.hid (HB3.out.keptS hk4).1
            have HS4 := Lib.hid (HS3.out.trans (HB3.out.keptS hk4).2)
            clear hk4 HB3 HS3 HM3
            have HX64 : Hid ((putSec lb.cut).length = 64) := Lib.hid (putSec_lenA (by show (lb.ms.take 20).length ≤ 20; rw [List.length_take]; omega))
            go_wp2_with (refine stop_at (o := ⟨some 12, _, _, _, _, _⟩) ?_)
            refine Stop.mk ?_
            refine wpList_new_row rfl rfl _ _ rfl rfl ty_sec (u8s zeroB) zero_sec (by rw [u8s_length, zeroB_length]) (u8s (putSec lb.cut)) rfl (by rw [u8s_length, HX64.out]) (u8s_one _) rfl ?_
            intro w5 hz hs5 hk5
            have HZ5 := hz
            have HS5 := Lib.hid (HS4.out.trans (HB4.out.keptS hk5).2)
            have HB5 := Lib.hid (HB4.out.box hk5 hs5)
            obtain ⟨Z, hZ⟩ : ∃ b, b = w4.heap.size := ⟨_, rfl⟩
            rw [← hZ] at HZ5 HB5 ⊢
            clear hz hs5 hk5 hZ HB4 HS4
            cases hr : rightB lb.cut with
            | false =>
              have he : putErr lb.cut = 1 := by unfold putErr; rw [hr]; rfl
              rw [he]
              have HB7 := Lib.hid (HB5.out.less (R' := R) (fun k hk => .inl hk))
              have HSB := Lib.hid (HSA.out.le (c' := 6 + (k + 1)) (by omega))
              clear he hr HZ5 HX64 HB5 HSA
              go_wp2
              go_roundw
              case rel => exact ⟨k + 1, T, hlt, h6, by go_num, HB7, HSB, HS5⟩
              case measure => simp [intOf]; omega
            | true =>
              obtain ⟨ps1, ps2⟩ := putSec_is hr
              have HL64 := Lib.hid (right_sec hr)
              rw [ps1] at HZ5
              rw [ps2]
              obtain ⟨g, hg⟩ := right_gen hr
              have hg' : lb.gen = (g : Int) := hg
              clear ps1 ps2 hr HX64 hg
              generalize lb.cut.sec = s at *
              have hcl2 := Lib.hid (HCL.out.kept HB5.out.keeps)
              have p1 : w5.cell? ⟨rb, ro + k * 5 + 1, none⟩ = some (.int .i64 (g : Int)) := by have h9 := hcl2.out 1 (by simp [Lab.vals]); rw [← hg']; exact h9
              clear hcl2
              have hdm : ((k : Int) % 3) = ((k % 3 : Nat) : Int) := by omega
              have hdmt : (k : Int).tmod 3 = ((k % 3 : Nat) : Int) := by rw [Int.tmod_eq_emod_of_nonneg (by omega)]; exact hdm
              generalize k % 3 = d at *
              obtain ⟨a, ha⟩ : ∃ a, bits .and .i64 (g : Int) 1 = a := ⟨_, rfl⟩
              have HU := Lib.hid (HSA.out.use (by decide) (by omega))
              have HDO := Lib.hid (HSA.out.doc (by decide) (by omega))
              have HSB := Lib.hid (HSA.out.write (d : Int) a HL64.out)
              have H1 := Lib.hid (fun (R : Nat → Prop) (W : World) (h : BR w0 R W qb T qr T.ref) => br_Write h HU.out (d : Int) a HL64.out.1)
              have H2 := Lib.hid (fun (R : Nat → Prop) (W : World) (h : BR w0 R W qb (T.write (d : Int) a s).1 qr T.ref) => br_Write2 h HDO.out (d : Int) a HL64.out)
              obtain ⟨T', ec, hT'⟩ : ∃ T' ec, T.write (d : Int) a s = (T', ec) := ⟨_, _, rfl⟩
              rw [hT'] at H1 H2 HSB
              simp only at H1 H2 HSB
              clear hT' HU HDO HSA
              go_wp2_with (refine stop_at (o := ⟨some 14, _, _, _, _, _⟩) ?_)
              refine Stop.mk ?_
              refine wpList_new_row rfl rfl _ _ rfl rfl ty_plc _ zero_plc rfl [.int .i64 (d : Int), .int .i64 a] rfl rfl (one_plc _ _) rfl ?_
              intro w6 hz hs6 hk6
              have HP6 := Lib.hid (Pl.of hz.out)
              have HZ6 := Lib.hid (hk6.block HZ5.out)
              have HS6 := Lib.hid (HS5.out.trans fun k hk => (HB5.out.keptS hk6).2 k (.inl hk))
              have HB6 := Lib.hid (HB5.out.box hk6 hs6)
              obtain ⟨Bp, hBp⟩ : ∃ b, b = w5.heap.size := ⟨_, rfl⟩
              rw [← hBp] at HP6 HB6 ⊢
              clear hz hs6 hk6 hBp HB5 HZ5 HS5 p1 ha hdm hdmt
              obtain ⟨p0, p1⟩ := HP6.out
              go_wp2_with (refine stop_at (o := ⟨some 89, _, _, _, _, _⟩) ?_)
              refine Stop.mk ?_
              refine wpList_load_agg rfl _ rfl ty_sec Z 0 rfl (u8s s) (by simpa using Cells.of_block HZ6.out) (by rw [u8s_length, HL64.out.1]) ?_
              go_wp2_with fail
              refine Calls.mono (H1.out _ _ HB6.out) ?_
              rintro e w7 ⟨rfl, hb, hr⟩
              have HB7 := Lib.hid hb
              have HZ7 := Lib.hid ((hr Z (.inl (.inr rfl))).trans HZ6.out)
              have HP7 := Lib.hid (HP6.out.same (hr Bp (.inr rfl)))
              have HS7 := Lib.hid (HS6.out.trans fun k hk => hr k (.inl (.inl hk)))
              clear hb hr p0 p1 HP6 HZ6 HB6 HS6
              obtain ⟨p0, p1⟩ := HP7.out
              go_wp2_with (refine stop_at (o := ⟨some 93, _, _, _, _, _⟩) ?_)
              refine Stop.mk ?_
              refine wpList_load_agg rfl _ rfl ty_sec Z 0 rfl (u8s s) (by simpa using Cells.of_block HZ7.out) (by rw [u8s_length, HL64.out.1]) ?_
              go_wp2_with fail
              refine Calls.mono (H2.out _ _ HB7.out) ?_
              rintro e w8 ⟨rfl, hb, hr⟩
              have HB8 := Lib.hid (hb.less (R' := R) (fun k hk => .inl (.inl hk)))
              have HS8 := Lib.hid (HS7.out.trans fun k hk => hr k (.inl (.inl hk)))
              clear hb hr p0 p1 HP7 HZ7 HB7 HS7 H1 H2
              go_wp2
              go_roundw
              case rel => exact ⟨k + 1, T', hlt, h6, by go_num, HB8, HSB, HS8⟩
              case measure => simp [intOf]; omega
          · have hkk : L.length ≤ k ∨ (k < L.length ∧ 6 ≤ k) := by omega
            have HSA6 := Lib.hid (HSA.out.le (c' := 12) (by omega))
            clear hlt HSA
            rcases hkk with hkk | ⟨hkk, h6⟩
            all_goals
              go_wp2
              go_ret2
              exact ⟨qb, qr, T, rfl, HB.out, HSA6.out, HS.out⟩
end
end Go.Proofs.Ytglplhmclfekfaa
