/- PhA: several texts in one: Vms. -/
import Derived.Test.YtiijfocdjcjlaaaGreatPbA
import Derived.Test.YtiijfocdjcjlaaaGreatPcA
import Derived.Test.YtiijfocdjcjlaaaGreatPaA
import Derived.Deep.CutBlock
import Derived.Deep.DeepCutAuto
/- vmap.Set of a state's places (gen_vms.py; XVms.head). -/
namespace Go.Proofs.YtiijfocdjcjlaaaGreat
open Go.RowKit Go.ChangeMaps Go.MapKept
set_option linter.unusedVariables false
set_option linter.unusedSimpArgs false
set_option maxRecDepth 100000
set_option maxHeartbeats 1000000
theorem agT_chg : AggT Tryz.prog 116 4 := ⟨⟨_, Tryz.underlying116, rfl⟩, by kernel_rfl⟩
theorem agT_whr : AggT Tryz.prog 41 3 := ⟨⟨_, Tryz.underlying41, rfl⟩, by kernel_rfl⟩
theorem zero_chg (w : World) : (zeroValue 116).run Tryz.prog w = .ok (.agg [.int .i64 0, .int .i64 0, .int .i64 0, .int .i64 0].toArray) w := by kernel_rfl
theorem zero_whr (w : World) : (zeroValue 41).run Tryz.prog w = .ok (.agg [.int .i64 0, .int .i64 0, .int .i64 0].toArray) w := by kernel_rfl
theorem chg_one (x : Ch) : ∀ v ∈ chg x, v.oneCell' = true := by intro v hv; simp only [chg, List.mem_cons, List.not_mem_nil, or_false] at hv; rcases hv with rfl | rfl | rfl | rfl <;> rfl
theorem trip_one (x : Wh) : ∀ v ∈ trip x, v.oneCell' = true := by intro v hv; simp only [trip, List.mem_cons, List.not_mem_nil, or_false] at hv; rcases hv with rfl | rfl | rfl <;> rfl
theorem onceW_iff : ∀ l : List Wh, onceW l = true ↔ l.Pairwise fun a b => a.1 = 0 ∨ a ≠ b
  | [] => by simp [onceW]
  | a :: l => by
    rw [onceW, Bool.and_eq_true, onceW_iff l, List.pairwise_cons]
    simp only [Bool.or_eq_true, beq_iff_eq, Bool.not_eq_true', List.contains_eq_mem, decide_eq_false_iff_not]
    refine and_congr_left fun _ => ⟨fun h b hb => ?_, fun h => ?_⟩
    · rcases h with h | h
      · exact .inl h
      · exact .inr fun e => h (e ▸ hb)
    · by_cases h0 : a.1 = 0
      · exact .inl h0
      · exact .inr fun hm => by rcases h a hm with h' | h'; exact h0 h'; exact h' rfl
/-- what is held once places came by: all that are not nowhere -/
def HeldW (f : Wh → Option Value) (l : List Wh) : Prop := ∀ x, (f x).isSome = (x.1 != 0 && l.contains x)
theorem HeldW.nil : HeldW (fun _ => none) [] := fun x => by simp
theorem HeldW.zero {f : Wh → Option Value} {l : List Wh} {x : Wh} (h : HeldW f l) (h0 : x.1 = 0) : HeldW f (l ++ [x]) := fun y => by
  rw [h y, List.contains_append]
  by_cases e : y = x
  · subst e; simp [h0]
  · simp [e]
theorem HeldW.push {f : Wh → Option Value} {l : List Wh} {x : Wh} (h : HeldW f l) (h0 : x.1 ≠ 0) (v : Value) : HeldW (updK f x v) (l ++ [x]) := fun y => by
  unfold updK
  split
  · rename_i e; subst e; simp [h0]
  · rename_i e; rw [h y, List.contains_append]; simp [e]
theorem take_set_same {α : Type} {L ws : List α} {k : Nat} (hl : L.length = ws.length) (h : L.take k = ws.take k) (hk : k < ws.length) : (L.set k ws[k]).take (k + 1) = ws.take (k + 1) := by
  apply List.ext_getElem (by simp [hl])
  intro i h1 h2
  simp only [List.getElem_take, List.getElem_set]
  split
  · rename_i e; subst e; rfl
  · rename_i e
    have hi : i < k := by simp at h1; omega
    have := congrArg (fun l => l[i]?) h
    simp only [List.getElem?_take, hi, if_true] at this
    rw [List.getElem?_eq_getElem (by omega), List.getElem?_eq_getElem (by omega)] at this
    exact Option.some.inj this
theorem once_snoc {ws : List Wh} {k : Nat} (hk : k < ws.length) (h : onceW (ws.take k) = true) (hn : ws[k].1 = 0 ∨ (ws.take k).contains ws[k] = false) : onceW (ws.take (k + 1)) = true := by
  rw [onceW_iff] at *
  rw [List.take_succ_eq_append_getElem hk, List.pairwise_append]
  refine ⟨h, by simp, fun a ha b hb => ?_⟩
  simp only [List.mem_singleton] at hb; subst hb
  by_cases e : a = ws[k]
  · rcases hn with h0 | h0
    · left; rw [e]; exact h0
    · simp at h0; exact absurd (e ▸ ha) h0
  · exact .inr e
theorem once_twice {ws : List Wh} {k : Nat} (hk : k < ws.length) (h0 : ws[k].1 ≠ 0) (hc : (ws.take k).contains ws[k] = true) : onceW ws = false := by
  rw [Bool.eq_false_iff]
  intro h
  rw [onceW_iff, List.pairwise_iff_getElem] at h
  simp at hc
  obtain ⟨i, hi, e⟩ := List.getElem_of_mem hc
  simp at hi
  rw [List.getElem_take] at e
  rcases h i k (by omega) hk (by omega) with h' | h'
  · exact h0 (e ▸ h')
  · exact h' e
theorem all_take_succ {ws : List Wh} {k : Nat} (hk : k < ws.length) (h : (ws.take k).all mayW = true) (hm : mayW ws[k] = true) : (ws.take (k + 1)).all mayW = true := by
  rw [List.take_succ_eq_append_getElem hk, List.all_append, h]; simp [hm]
/-- each block's place, as a change -/
def chs (ws : List Wh) : List Ch := ws.zipIdx.map fun x => ((x.2 : Int), x.1)
theorem chs_len (ws : List Wh) : (chs ws).length = ws.length := by simp [chs]
theorem chs_at (ws : List Wh) (k : Nat) (h : k < (chs ws).length) : (chs ws)[k] = ((k : Int), ws[k]'(by rw [chs_len] at h; exact h)) := by simp [chs]
theorem chs_in (ws : List Wh) : anyF (fun (s : Unit) (x : Ch) => (!(decide (0 ≤ x.1) && decide (x.1 < (ws.length : Int))), s)) () (chs ws) = (false, ()) := by
  rw [anyF_plain (fun x : Ch => !(decide (0 ≤ x.1) && decide (x.1 < (ws.length : Int))))]
  congr 1
  rw [List.any_eq_false]
  intro x hx
  obtain ⟨k, hk, rfl⟩ := List.getElem_of_mem hx
  rw [chs_at]
  rw [chs_len] at hk
  simp; omega
theorem vm_set_con (p q : Nat) (oa ov : Option Addr) (capa cv : Nat) (ws : List Wh) (w : World) (h96 : ws.length ≤ 96) (q0 : w.cell? ⟨q, 0, none⟩ = some (.pointer (some ⟨p, 0, none⟩))) (hp0 : w.cell? ⟨p, 0, none⟩ = some (.slice oa ws.length capa)) (hl : RSl chg 4 w (.slice ov ws.length cv) (chs ws)) :
    Calls Tryz.prog 102 #[.slice ov ws.length cv, .func (.func 103) #[] #[.pointer (some ⟨q, 0, none⟩)]] w fun e w' => e = .returned (.bool false) ∧ Kept w w' := by
  refine (con_c (fun (s : Unit) (x : Ch) => (!(decide (0 ≤ x.1) && decide (x.1 < (ws.length : Int))), s)) (fun _ W => Kept w W) (fun _ => False) () (chs ws) _ #[] #[.pointer (some ⟨q, 0, none⟩)] (.slice ov ws.length cv) w (by rw [chs_len]; omega) (fun _ W h => hl.kept h) (Kept.refl w)
    ⟨fun _ _ => rfl, fun s x w2 h => (vm_out1 x q p oa ws.length capa w2 (h.cell' q0) (h.cell' hp0)).mono (by rintro e w3 ⟨rfl, hk3⟩; exact ⟨rfl, h.trans hk3, KeptX.of hk3⟩)⟩).mono ?_
  rw [chs_in]
  rintro e w1 ⟨rfl, hk1, _⟩
  exact ⟨rfl, hk1⟩
/-- what holds while the map's two cells are set -/
structure SetS (w : World) (Q p : Nat) (W : World) : Prop where
  q0 : W.cell? ⟨Q, 0, none⟩ = some (.pointer (some ⟨p, 0, none⟩))
  p0 : (W.cell? ⟨p, 0, none⟩).isSome
  p1 : (W.cell? ⟨p, 1, none⟩).isSome
  but : But (fun k => k = p) w W
  fr : ∀ o, W.frozen? ⟨p, o, none⟩ = false
theorem SetS.store0 {w : World} {Q p : Nat} {W : World} (h : SetS w Q p W) (hpq : p ≠ Q) (v : Value) : SetS w Q p (W.setCell ⟨p, 0, none⟩ v) :=
  ⟨by rw [World.cell?_setCell_other _ _ _ _ (fun e => hpq (congrArg Addr.block e))]; exact h.q0, by rw [World.cell?_setCell_same' _ _ _ h.p0]; rfl, by rw [World.cell?_setCell_other _ _ _ _ (by intro e; cases e)]; exact h.p1, h.but.setCell _ (.inl rfl), fun o => by rw [World.frozen?_setCell]; exact h.fr o⟩
theorem SetS.store1 {w : World} {Q p : Nat} {W : World} (h : SetS w Q p W) (hpq : p ≠ Q) (v : Value) : SetS w Q p (W.setCell ⟨p, 1, none⟩ v) :=
  ⟨by rw [World.cell?_setCell_other _ _ _ _ (fun e => hpq (congrArg Addr.block e))]; exact h.q0, by rw [World.cell?_setCell_other _ _ _ _ (by intro e; cases e)]; exact h.p0, by rw [World.cell?_setCell_same' _ _ _ h.p1]; rfl, h.but.setCell _ (.inl rfl), fun o => by rw [World.frozen?_setCell]; exact h.fr o⟩
theorem vm_Set (p m : Nat) (oa : Option Addr) (capa : Nat) (v : Value) (ws : List Wh) (w : World) (h1 : 1 ≤ ws.length) (h96 : ws.length ≤ 96) (T : TypeId) (hp : w.heap[p]? = some (.cells #[.slice oa ws.length capa, .map (some m)] T (0, 0)))
    (ha : RSl trip 3 w (.slice oa ws.length capa) (List.replicate ws.length (0, 0, 0))) (hl : RSl chg 4 w v (chs ws)) :
    Calls Tryz.prog 69 #[.pointer (some ⟨p, 0, none⟩), v] w fun e w' => ∃ r, e = .returned (.int .i64 r) ∧ (decide (r = 0) = (ws.all mayW && onceW ws)) ∧ But (fun k => k = p) w w' := by
  have hmm := @run_makeMap Tryz.prog
  have hp0 : w.cell? ⟨p, 0, none⟩ = some (.slice oa ws.length capa) := (Cells.of_block hp) 0 (by simp)
  have hp1 : w.cell? ⟨p, 1, none⟩ = some (.map (some m)) := (Cells.of_block hp) 1 (by simp)
  have HFR : Hid (∀ o, w.frozen? ⟨p, o, none⟩ = false) := Lib.hid (fun o => by simp [World.frozen?, hp])
  clear hp
  obtain ⟨ov, cv, rfl, _⟩ := hl.form
  have hpl : p < w.heap.size := World.block_lt_of_cell? _ _ hp0
  rw [chs_len] at *
  have HA := Lib.hid ha; have HL := Lib.hid hl; clear ha hl
  go_enter Tryz.func69, Tryz.ntmps69
  have hcon := fun (W : World) (hk : Kept w W) (q0 : W.cell? ⟨w.heap.size, 0, none⟩ = some (.pointer (some ⟨p, 0, none⟩))) => vm_set_con p w.heap.size oa ov capa cv ws W h96 q0 (hk.cell' hp0) (HL.out.kept hk)
  have HCON := Lib.hid hcon; clear hcon
  have hcln := fun (W : World) (hk : Kept w W) => cln_w (List.replicate ws.length (0, 0, 0)) (.slice oa ws.length capa) W (by simp; omega) (HA.out.kept hk)
  have HCLN := Lib.hid hcln; clear hcln
  have hka : ∀ o, Kept w (w.alloc o) := fun o => (Kept.refl _).alloc o
  have HKA := Lib.hid hka; clear hka
  have hq0 : ∀ t, (w.alloc (.cells #[.pointer (some ⟨p, 0, none⟩)] t)).cell? ⟨w.heap.size, 0, none⟩ = some (.pointer (some ⟨p, 0, none⟩)) := fun t => by
    unfold World.cell?
    rw [show ∀ o, (w.alloc o).heap[(⟨w.heap.size, 0, none⟩ : Addr).block]? = some o from fun o => heap_alloc_new w o]
    rfl
  have HQ0 := Lib.hid hq0; clear hq0
  have HP0 := Lib.hid hp0; clear hp0
  have HP1 := Lib.hid hp1; clear hp1
  go_wp2_with fail
  refine Calls.mono (HCON.out _ (HKA.out _) (HQ0.out _)) ?_
  rintro e w1 ⟨rfl, hk1⟩
  have q0 := hk1.cell' (HQ0.out _)
  have hkw1 := (HKA.out _).trans hk1
  have p0 := hkw1.cell' HP0.out
  have hQl : w.heap.size < w1.heap.size := World.block_lt_of_cell? _ _ q0
  clear hk1
  go_wp2_with fail
  refine Calls.mono (HCLN.out _ hkw1) ?_
  rintro e w2 ⟨v', rfl, _, hown, _, hk2⟩
  obtain ⟨g, cap, junk, rfl, hgl, hR, hj, hc1, hc2⟩ := RBlk.of_owns trip_len (hown (by simp; omega)) rfl (by simp; omega)
  replace q0 := hk2.cell' q0
  have hkw2 := hkw1.trans hk2
  rw [List.length_replicate] at hj hc1
  clear hown p0
  have hgw : w.heap.size < g := by omega
  obtain ⟨Q, hQ⟩ : ∃ Q, Q = w.heap.size := ⟨_, rfl⟩
  rw [← hQ] at q0 hgw hQl ⊢
  have HQ := Lib.hid hQ; clear hQ
  simp only [List.length_replicate]
  unfold maxLen at hc2
  go_wp2
  go_loopw [23] (fun i wr => ∃ (k : Nat) (L : List Wh), k ≤ ws.length ∧ i = .int .i64 (k : Int) ∧ Hid (Kept w wr ∧ wr.cell? ⟨Q, 0, none⟩ = some (.pointer (some ⟨p, 0, none⟩)) ∧ L.length = ws.length ∧ L.take k = ws.take k ∧ (ws.take k).all mayW = true ∧ RBlk trip wr g 41 L junk)) (fun i _ => ws.length - (intOf i).toNat)
  case atStart => exact ⟨0, List.replicate ws.length (0, 0, 0), by omega, rfl, Lib.hid ⟨hkw2, q0, by simp, by simp, by simp, hR⟩⟩
  case round =>
    obtain ⟨k, L, hk, rfl, HR⟩ := hrel
    by_cases hlt : k < ws.length
    · have hlc : k < (chs ws).length := by rw [chs_len]; exact hlt
      obtain ⟨b, off, rfl, hb, hcs⟩ := HL.out.at hlc
      rw [chs_at] at hcs
      have hcs := hcs.kept HR.out.1
      have c0 := hcs 0 (by rw [chg_len]; decide)
      have c1 := hcs 1 (by rw [chg_len]; decide)
      have c2 := hcs 2 (by rw [chg_len]; decide)
      have c3 := hcs 3 (by rw [chg_len]; decide)
      simp only [Nat.add_zero, chg, List.getElem_cons_zero, List.getElem_cons_succ] at c0 c1 c2 c3
      clear hcs
      have hmay := fun (W : World) => vm_may ws[k] W
      simp only [trip] at hmay
      have HM := Lib.hid hmay; clear hmay
      go_wp2_with (refine stop_at (o := ⟨some 7, _, _, _, _, _⟩) ?_)
      refine Stop.mk ?_
      refine wpList_alloc_abs rfl _ rfl _ zero_chg ?_
      intro w3 hz3 hs3 hs3' hk3
      refine wpList_store_agg (o := ⟨none, .store _ _ _, _, _, _, _⟩) rfl _ _ rfl agT_chg wr.heap.size 0 rfl (chg ((k : Int), ws[k])) rfl rfl (chg_one _) _ _ hz3.out (by simp) ?_
      intro w4 hw4
      replace hw4 := hw4.all rfl
      have hkr : Kept wr w4 := hw4.kept hk3 (Nat.le_refl _)
      have hn := hw4.cells
      have n0 := hn 0 (by rw [chg_len]; decide)
      have n1 := hn 1 (by rw [chg_len]; decide)
      have n2 := hn 2 (by rw [chg_len]; decide)
      have n3 := hn 3 (by rw [chg_len]; decide)
      simp only [Nat.add_zero, Nat.zero_add, chg, List.getElem_cons_zero, List.getElem_cons_succ] at n0 n1 n2 n3
      have HKR := Lib.hid hkr
      clear hz3 hs3 hs3' hk3 hw4 hkr hn c0 c1 c2 c3
      generalize wr.heap.size = X at *
      have hix1 : (0 : Int) ≤ (k : Int) := by omega
      have hix2 : (k : Int) < (ws.length : Int) := by omega
      have hLl := HR.out.2.2.1
      have HLL := Lib.hid hLl; clear hLl
      cases hm : mayW ws[k] with
      | false =>
        rw [hm] at HM
        have HF := Lib.hid (show (ws.all mayW && onceW ws) = false by
          rw [show ws.all mayW = false from by rw [List.all_eq_false]; exact ⟨ws[k], List.getElem_mem _, by simp [hm]⟩]; rfl)
        clear hm
        go_wp2_with (go_at_call 105; refine (HM.out _).mono ?_; rintro e w5 ⟨rfl, hk5⟩)
        go_ret
        exact ⟨1, rfl, by rw [HF.out]; rfl, But.kept ((HR.out.1.trans HKR.out).trans hk5)⟩
      | true =>
        rw [hm] at HM
        have HMT := Lib.hid hm; clear hm
        go_wp2_with fail
        refine Calls.mono (HM.out _) ?_
        rintro e w5 ⟨rfl, hk5⟩
        replace n0 := hk5.cell' n0
        replace n1 := hk5.cell' n1
        replace n2 := hk5.cell' n2
        replace n3 := hk5.cell' n3
        have hkr5 := HKR.out.trans hk5
        have HR5 := Lib.hid (show RBlk trip w5 g 41 L junk from hkr5.block HR.out.2.2.2.2.2)
        have HK5 := Lib.hid hkr5
        clear hk5 hkr5
        have hfit : (L.flatMap trip ++ junk).length = ws.length * 3 + junk.length := by rw [List.length_append, flat_len trip_len, HLL.out]
        have HFIT := Lib.hid hfit; clear hfit
        go_wp2_with (refine stop_at (o := ⟨none, .store _ _ _, _, _, _, _⟩) ?_)
        refine Stop.mk ?_
        refine wpList_store_agg (o := ⟨none, .store _ _ _, _, _, _, _⟩) rfl _ _ rfl agT_whr g (k * 3) rfl (trip ws[k]) rfl rfl (trip_one _) (L.flatMap trip ++ junk) 41 HR5.out (by rw [HFIT.out]; omega) ?_
        intro w6 hw6
        rw [flat_splice trip_len _ _ (by rw [HLL.out]; exact hlt)] at hw6
        have hq6 : w6.cell? ⟨Q, 0, none⟩ = some (.pointer (some ⟨p, 0, none⟩)) := (World.cell?_of_block (hw6.oth Q (by omega))).trans (HK5.out.cell' HR.out.2.1)
        have HW6 := Lib.hid hw6; have HQ6 := Lib.hid hq6
        clear hw6 hq6
        go_wp2
        go_roundw
        case rel =>
          refine ⟨k + 1, L.set k ws[k], by omega, by go_num, Lib.hid ⟨HW6.out.kept (HR.out.1.trans HK5.out) (by have := HQ.out; omega), HQ6.out, by rw [List.length_set]; exact HLL.out, take_set_same HLL.out HR.out.2.2.2.1 hlt, all_take_succ hlt HR.out.2.2.2.2.1 HMT.out, HW6.out.blk⟩⟩
        case measure => simp [intOf]; omega
    · have hLw : L = ws := by
        have h5 := HR.out.2.2.2.1
        rwa [List.take_of_length_le (by have := HR.out.2.2.1; omega), List.take_of_length_le (by omega)] at h5
      subst hLw
      have HAM := Lib.hid (show L.all mayW = true by have := HR.out.2.2.2.2.1; rwa [List.take_of_length_le (by omega)] at this)
      have hkm : KMap whrK (wr.alloc (.map #[] 0)) wr.heap.size 0 (fun _ => none) := KMap.made wr
      have hkA : Kept wr (wr.alloc (.map #[] 0)) := (Kept.refl _).alloc _
      have hgx : g < wr.heap.size := HR.out.2.2.2.2.2.lt
      obtain ⟨hm, hhm⟩ : ∃ hm, hm = wr.heap.size := ⟨_, rfl⟩
      have hwm : w.heap.size ≤ hm := by have := HR.out.1.size; omega
      have HS0 := Lib.hid (show Kept w (wr.alloc (.map #[] 0)) ∧ (wr.alloc (.map #[] 0)).cell? ⟨Q, 0, none⟩ = some (.pointer (some ⟨p, 0, none⟩)) ∧ RBlk trip (wr.alloc (.map #[] 0)) g 41 L junk ∧ KMap whrK (wr.alloc (.map #[] 0)) hm 0 (fun _ => none) from
        ⟨HR.out.1.trans hkA, hkA.cell' HR.out.2.1, hkA.block HR.out.2.2.2.2.2, by rw [hhm]; exact hkm⟩)
      clear hkA hkm HR
      go_wp2
      rw [← hhm]
      generalize World.alloc wr _ = wq at *
      have hgm : g < hm := by omega
      clear hhm hgx
      go_loopw [41] (fun i wr => ∃ (k c : Nat) (f : Wh → Option Value), k ≤ L.length ∧ i = .int .i64 (k : Int) ∧ Hid (Kept w wr ∧ wr.cell? ⟨Q, 0, none⟩ = some (.pointer (some ⟨p, 0, none⟩)) ∧ RBlk trip wr g 41 L junk ∧ KMap whrK wr hm c f ∧ HeldW f (L.take k) ∧ onceW (L.take k) = true)) (fun i _ => L.length - (intOf i).toNat)
      case atStart => exact ⟨0, 0, _, by omega, rfl, Lib.hid ⟨HS0.out.1, HS0.out.2.1, HS0.out.2.2.1, HS0.out.2.2.2, HeldW.nil, rfl⟩⟩
      case round =>
        obtain ⟨k, c, f, hk, rfl, HR⟩ := hrel
        clear HS0
        by_cases hlt : k < L.length
        · have hcs := HR.out.2.2.1.cells trip_len hlt
          have c0 := hcs 0 (by rw [trip_len]; decide)
          have c1 := hcs 1 (by rw [trip_len]; decide)
          have c2 := hcs 2 (by rw [trip_len]; decide)
          simp only [Nat.add_zero, trip, List.getElem_cons_zero, List.getElem_cons_succ] at c0 c1 c2
          clear hcs
          go_wp2_with (refine stop_at (o := ⟨some 10, .alloc _, _, _, _, _⟩) ?_)
          refine Stop.mk ?_
          refine wpList_alloc_abs rfl _ rfl _ zero_whr ?_
          intro w3 hz3 hs3 hs3' hk3
          go_wp2_with (refine stop_at (o := ⟨none, .store _ _ _, _, _, _, _⟩) ?_)
          refine Stop.mk ?_
          refine wpList_store_agg (o := ⟨none, .store _ _ _, _, _, _, _⟩) rfl _ _ rfl agT_whr wr.heap.size 0 rfl (trip L[k]) rfl rfl (trip_one _) _ _ hz3.out (by simp) ?_
          intro w4 hw4
          replace hw4 := hw4.all rfl
          have hkr : Kept wr w4 := hw4.kept hk3 (Nat.le_refl _)
          have hn := hw4.cells
          have n0 := hn 0 (by rw [trip_len]; decide)
          have n1 := hn 1 (by rw [trip_len]; decide)
          have n2 := hn 2 (by rw [trip_len]; decide)
          simp only [Nat.add_zero, Nat.zero_add, trip, List.getElem_cons_zero, List.getElem_cons_succ] at n0 n1 n2
          have HKR := Lib.hid hkr
          have HI := Lib.hid (HR.out.2.2.2.1.kept hkr)
          clear hz3 hs3 hs3' hk3 hw4 hkr hn c0 c1 c2
          generalize wr.heap.size = X at *
          by_cases h0 : L[k].1 = 0
          · have H0 := Lib.hid h0
            have h0b : (L[k].1 == 0) = true := by simp [h0]
            rw [h0] at n0
            clear h0 h0b
            go_wp2
            go_roundw
            case rel => exact ⟨k + 1, c, f, by omega, by go_num, Lib.hid ⟨HR.out.1.trans HKR.out, HKR.out.cell' HR.out.2.1, HKR.out.block HR.out.2.2.1, HI.out, by rw [List.take_succ_eq_append_getElem hlt]; exact HR.out.2.2.2.2.1.zero H0.out, once_snoc hlt HR.out.2.2.2.2.2 (.inl H0.out)⟩⟩
            case measure => simp [intOf]; omega
          · have H0 := Lib.hid h0
            have h0b : (L[k].1 == 0) = false := by simpa using h0
            have hsome := HR.out.2.2.2.2.1 L[k]
            have h0c : (L[k].1 != 0) = true := by simpa using h0
            rw [h0c, Bool.true_and] at hsome
            clear h0 h0c
            cases hcn : (L.take k).contains L[k] with
            | true =>
              rw [hcn] at hsome
              have HF := Lib.hid (once_twice hlt H0.out hcn)
              obtain ⟨vv, hvv⟩ : ∃ vv, vv = (f L[k]).getD (.int .i64 0) := ⟨_, rfl⟩
              have HV : Hid ((if true = true then Value.tuple #[(f L[k]).getD (.int .i64 0), .bool (f L[k]).isSome] else (f L[k]).getD (.int .i64 0)) = .tuple #[vv, .bool true]) := Lib.hid (by rw [hsome, hvv]; rfl)
              clear hsome hcn hvv
              go_wp2_with (at_lookup; refine stop_at ?_)
              refine Stop.mk ?_
              refine wpList_lookup_km (K := whrK) rfl _ _ true rfl Tryz.underlying135 whrLaw zero_intV rfl L[k] rfl HI.out (.tuple #[vv, .bool true]) HV.out ?_
              go_wp2
              go_ret
              exact ⟨9, rfl, by rw [HF.out, Bool.and_false]; rfl, But.kept (HR.out.1.trans HKR.out)⟩
            | false =>
              rw [hcn] at hsome
              have HCN := Lib.hid hcn
              obtain ⟨vv, hvv⟩ : ∃ vv, vv = (f L[k]).getD (.int .i64 0) := ⟨_, rfl⟩
              have HV : Hid ((if true = true then Value.tuple #[(f L[k]).getD (.int .i64 0), .bool (f L[k]).isSome] else (f L[k]).getD (.int .i64 0)) = .tuple #[vv, .bool false]) := Lib.hid (by rw [hsome, hvv]; rfl)
              clear hsome hcn hvv
              go_wp2_with (first
                | (at_lookup; refine wpList_lookup_km (K := whrK) rfl _ _ true rfl Tryz.underlying135 whrLaw zero_intV rfl L[k] rfl HI.out (.tuple #[vv, .bool false]) HV.out ?_)
                | (refine wpList_update_km (K := whrK) (o := ⟨none, .mapUpdate _ _ _ _, _, _, _, _⟩) rfl _ _ _ rfl Tryz.underlying135 whrLaw rfl L[k] rfl (.int .i64 (k : Int)) rfl HI.out ?_; intro o' hi'))
              have hb : But (fun i => i = hm) w4 (setBlock w4 hm o') := But.setBlock (S := fun i => i = hm) (But.refl _ w4) o' (.inl rfl)
              have HB := Lib.hid hb; have HI' := Lib.hid hi'
              clear hb hi'
              generalize setBlock w4 hm o' = w5 at *
              go_roundw
              case rel =>
                refine ⟨k + 1, c + 1, updK f L[k] (.int .i64 (k : Int)), by omega, by go_num, Lib.hid ⟨But.to_kept (HR.out.1.trans HKR.out) HB.out (fun i hi => by omega), HB.out.cell (by show ¬ Q = hm; omega) (HKR.out.cell' HR.out.2.1), HB.out.blk (by show ¬ g = hm; omega) (HKR.out.block HR.out.2.2.1), HI'.out, by rw [List.take_succ_eq_append_getElem hlt]; exact HR.out.2.2.2.2.1.push H0.out _, once_snoc hlt HR.out.2.2.2.2.2 (.inr HCN.out)⟩⟩
              case measure => simp [intOf]; omega
        · have HO := Lib.hid (show onceW L = true by have := HR.out.2.2.2.2.2; rwa [List.take_of_length_le (by omega)] at this)
          have hpQ : p ≠ Q := by have := HQ.out; omega
          have HPQ := Lib.hid hpQ
          have hS : SetS w Q p wr.drew := ⟨HR.out.2.1, by rw [show wr.drew.cell? ⟨p, 0, none⟩ = _ from HR.out.1.cell' HP0.out]; rfl, by rw [show wr.drew.cell? ⟨p, 1, none⟩ = _ from HR.out.1.cell' HP1.out]; rfl, (But.kept HR.out.1).drew, fun o => by rw [show wr.drew.frozen? ⟨p, o, none⟩ = _ from HR.out.1.frozen (show p < _ by omega)]; exact HFR.out o⟩
          go_upto_region 21 with fail
          refine wp_region_calm ?_
          refine wp_region_E (SetS w Q p) 9 (by kernel_rfl) ?_
          refine wpAnyE_take (i := 0) (v := .pointer (some ⟨p, 0, none⟩)) (listed' := #[true, false, false, false, false, false, false, false, false, false]) (by rfl) (by kernel_rfl) (by kernel_rfl) calm_put hS (by rfl) ?_ ?_
          · intro W hW; have s0 := hW.q0; clear hW; go_simp; try (with_reducible rfl)
          simp only [Act.put, List.getElem_toArray, List.getElem_cons_succ, List.getElem_cons_zero, List.setIfInBounds_toArray, List.set_cons_zero, List.set_cons_succ]
          refine wpAnyE_take (i := 1) (v := .pointer (some ⟨p, 0, none⟩)) (listed' := #[true, true, false, false, false, false, false, false, false, false]) (by rfl) (by kernel_rfl) (by kernel_rfl) calm_put hS (by rfl) ?_ ?_
          · intro W hW; have s0 := hW.q0; clear hW; go_simp; try (with_reducible rfl)
          simp only [Act.put, List.getElem_toArray, List.getElem_cons_succ, List.getElem_cons_zero, List.setIfInBounds_toArray, List.set_cons_zero, List.set_cons_succ]
          refine wpAnyE_take (i := 2) (v := ?_) (listed' := #[true, true, true, false, false, false, false, false, false, false]) (by rfl) (by kernel_rfl) (by kernel_rfl) calm_put hS (by rfl) ?_ ?_
          rotate_left
          · intro W hW; clear hW; go_simp; try (with_reducible rfl)
          simp only [Act.put, List.getElem_toArray, List.getElem_cons_succ, List.getElem_cons_zero, List.setIfInBounds_toArray, List.set_cons_zero, List.set_cons_succ]
          refine wpAnyE_take (i := 3) (v := ?_) (listed' := #[true, true, true, true, false, false, false, false, false, false]) (by rfl) (by kernel_rfl) (by kernel_rfl) calm_put hS (by rfl) ?_ ?_
          rotate_left
          · intro W hW; clear hW; go_simp; try (with_reducible rfl)
          simp only [Act.put, List.getElem_toArray, List.getElem_cons_succ, List.getElem_cons_zero, List.setIfInBounds_toArray, List.set_cons_zero, List.set_cons_succ]
          refine wpAnyE_take (i := 4) (v := .pointer (some ⟨p, 0, none⟩)) (listed' := #[true, true, true, true, true, false, false, false, false, false]) (by rfl) (by kernel_rfl) (by kernel_rfl) calm_put hS (by rfl) ?_ ?_
          · intro W hW; clear hW; go_simp; try (with_reducible rfl)
          simp only [Act.put, List.getElem_toArray, List.getElem_cons_succ, List.getElem_cons_zero, List.setIfInBounds_toArray, List.set_cons_zero, List.set_cons_succ]
          refine wpAnyE_take (i := 5) (v := .pointer (some ⟨p, 0, none⟩)) (listed' := #[true, true, true, true, true, true, false, false, false, false]) (by rfl) (by kernel_rfl) (by kernel_rfl) calm_put hS (by rfl) ?_ ?_
          · intro W hW; clear hW; go_simp; try (with_reducible rfl)
          simp only [Act.put, List.getElem_toArray, List.getElem_cons_succ, List.getElem_cons_zero, List.setIfInBounds_toArray, List.set_cons_zero, List.set_cons_succ]
          refine wpAnyE_one (i := 6) (listed' := #[true, true, true, true, true, true, true, false, false, false]) (by rfl) (by kernel_rfl) (by kernel_rfl) (by rfl) (fun K hK => ?_)
          simp only [Act.put, List.getElem_toArray, List.getElem_cons_succ, List.getElem_cons_zero, List.setIfInBounds_toArray, List.set_cons_zero, List.set_cons_succ]
          generalize wr.drew = wd at *
          obtain ⟨y0, s1⟩ := Option.isSome_iff_exists.1 hS.p0
          have f0 := hS.fr 0
          go_wp2
          clear s1 f0
          have hS := SetS.store0 hS HPQ.out (.slice (some ⟨g, 0, none⟩) L.length cap)
          refine hK _ _ (fun _ => hS) ?_; clear hK K
          generalize wd.setCell ⟨p, 0, none⟩ (.slice (some ⟨g, 0, none⟩) L.length cap) = wz at *
          refine wpAnyE_one (i := 7) (listed' := #[true, true, true, true, true, true, true, true, false, false]) (by rfl) (by kernel_rfl) (by kernel_rfl) (by rfl) (fun K hK => ?_)
          simp only [Act.put, List.getElem_toArray, List.getElem_cons_succ, List.getElem_cons_zero, List.setIfInBounds_toArray, List.set_cons_zero, List.set_cons_succ]
          go_wp2
          refine hK _ _ (fun _ => hS) ?_; clear hK K
          refine wpAnyE_take (i := 8) (v := .pointer (some ⟨p, 1, none⟩)) (listed' := #[true, true, true, true, true, true, true, true, true, false]) (by rfl) (by kernel_rfl) (by kernel_rfl) calm_put hS (by rfl) ?_ ?_
          · intro W hW; clear hW; go_simp; try (with_reducible rfl)
          simp only [Act.put, List.getElem_toArray, List.getElem_cons_succ, List.getElem_cons_zero, List.setIfInBounds_toArray, List.set_cons_zero, List.set_cons_succ]
          refine wpAnyE_one (i := 9) (listed' := #[true, true, true, true, true, true, true, true, true, true]) (by rfl) (by kernel_rfl) (by kernel_rfl) (by rfl) (fun K hK => ?_)
          simp only [Act.put, List.getElem_toArray, List.getElem_cons_succ, List.getElem_cons_zero, List.setIfInBounds_toArray, List.set_cons_zero, List.set_cons_succ]
          obtain ⟨y1, s1⟩ := Option.isSome_iff_exists.1 hS.p1
          have f1 := hS.fr 1
          go_wp2
          clear s1 f1
          have hS := SetS.store1 hS HPQ.out (.map (some hm))
          refine hK _ _ (fun _ => hS) ?_; clear hK K
          have HB9 := Lib.hid hS.but
          refine wpAnyE_done (by kernel_rfl) ?_ _
          refine calm_normal ?_
          go_wp2
          go_ret
          exact ⟨0, rfl, by rw [HAM.out, HO.out]; rfl, HB9.out⟩
end Go.Proofs.YtiijfocdjcjlaaaGreat
