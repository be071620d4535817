/- PgA: several texts in one: Stq Ste Std. -/
import Derived.Test.YtiijfocdjcjlaaaGreatPaA
import Derived.Test.YtiijfocdjcjlaaaGreatPbA
import Derived.Test.YtiijfocdjcjlaaaGreatPdA
/- mapped's question of a place; is a group a mirror (Right's question of a dirty group). -/
namespace Go.Proofs.YtiijfocdjcjlaaaGreat
open Go.RowKit
set_option linter.unusedVariables false
set_option linter.unusedSimpArgs false
set_option maxRecDepth 100000
set_option maxHeartbeats 1000000
theorem st_mapped1 (q : Nat) (bl : Int) (sm sp sd : Value) (pl : List Value) (hpl : pl.length = 131) (raw : List Gw) (gs : List Grp) (oa : Option Addr) (cap : Nat) (x : Wh) (w : World) (hlen : raw.length ≤ 4096) (hg : RSl grw 3 w (.slice oa raw.length cap) raw) (hr : GRels w raw gs) (hq : Cells w q 0 (stv bl sm (.slice oa raw.length cap) sp sd pl)) :
    Calls Tryz.prog 71 #[.agg (trip x).toArray, .pointer (some ⟨q, 0, none⟩)] w fun e w' => e = .returned (.bool (x.1 == 0 || placeG gs x)) ∧ Kept w w' := by
  have hB : ∀ o, Kept w (w.alloc o) := fun o => (Kept.refl _).alloc o
  have hP := fun (W : World) (hk : Kept w W) => st_place bl sm sp sd pl hpl raw gs oa cap x W hlen (hg.kept hk) (hr.kept hk)
  have HL := Lib.hid (stv_len (bl := bl) (sm := sm) (sg := .slice oa raw.length cap) (sp := sp) (sd := sd) hpl)
  have HQ := Lib.hid hq
  have HB := Lib.hid hB
  simp only [trip] at hP
  have HP := Lib.hid hP
  clear hg hr hq hB hP
  simp only [trip]
  generalize hp : placeG gs x = pb at *
  have hlt0 : q < w.heap.size := World.block_lt_of_cell? _ _ (stv_cells HQ.out).1
  cases h0 : (x.1 == 0) with
  | true =>
    go_enter Tryz.func71, Tryz.ntmps71
    go_wp2
    go_ret
    exact ⟨rfl, HB.out _⟩
  | false =>
    go_enter Tryz.func71, Tryz.ntmps71
    go_wp2_with (first
      | (refine wpList_load_aggW (o := ⟨some 8, .load _ _, _, _, _, _⟩) _ rfl agT_state q 0 rfl _ (HQ.out.kept (HB.out _)) HL.out rfl ?_)
      | (go_at_call 72; refine (HP.out _ (HB.out _)).mono ?_; rintro e w' ⟨rfl, hk2⟩))
    go_ret
    exact ⟨rfl, (HB.out _).trans hk2⟩
def dirtyG (gs : List Grp) (id : Int) : Bool := match gs.find? (fun g => g.id == id) with | none => false | some g => g.kind == 1
theorem dirtyG_eq (s : St) (id : Int) : dirtyG s.gs id = dirtyB s id := rfl
theorem st_dirty1 (q : Nat) (bl : Int) (sm sp sd : Value) (pl : List Value) (hpl : pl.length = 131) (raw : List Gw) (gs : List Grp) (oa : Option Addr) (cap : Nat) (id : Int) (w : World) (hlen : raw.length ≤ 4096) (hg : RSl grw 3 w (.slice oa raw.length cap) raw) (hr : GRels w raw gs) (hq : Cells w q 0 (stv bl sm (.slice oa raw.length cap) sp sd pl)) :
    Calls Tryz.prog 19 #[.int .i64 id, .pointer (some ⟨q, 0, none⟩)] w fun e w' => e = .returned (.bool (dirtyG gs id)) ∧ Kept w w' := by
  have hF := st_find bl sm sp sd pl hpl raw oa cap id w hlen hg
  have HF := Lib.hid hF; clear hF
  have HL := Lib.hid (stv_len (bl := bl) (sm := sm) (sg := .slice oa raw.length cap) (sp := sp) (sd := sd) hpl)
  have hfind := hr.find id
  have HQ := Lib.hid hq; clear hq
  have HG := Lib.hid hg; clear hg
  have HR := Lib.hid hr; clear hr
  rcases hfind with ⟨e1, e2⟩ | ⟨k, h1, h2, e1, e2⟩
  · have HP := Lib.hid (show dirtyG gs id = false by unfold dirtyG; rw [e2])
    have hfp : findP raw oa id = .pointer none := by unfold findP; rw [e1]
    rw [hfp] at HF
    clear hfp e1 e2
    go_enter Tryz.func19, Tryz.ntmps19
    go_wp2_with (first
      | (refine wpList_load_agg (o := ⟨some 5, .load _ _, _, _, _, _⟩) rfl _ rfl agT_state q 0 rfl _ HQ.out HL.out ?_)
      | (go_at_call 20; refine HF.out.mono ?_; rintro e w' ⟨rfl, hk2⟩))
    go_ret
    exact ⟨by rw [HP.out]; rfl, hk2⟩
  · obtain ⟨b, off, rfl, hb, hcs⟩ := HG.out.at h1
    have hrel := HR.out.at_ k h1 h2
    have HP := Lib.hid (show dirtyG gs id = (gs[k].kind == 1) by unfold dirtyG; rw [e2])
    have hfp : findP raw (some ⟨b, off, none⟩) id = .pointer (some ⟨b, off + k * 3, none⟩) := by unfold findP; rw [e1]
    rw [hfp] at HF
    have hd1 := hcs 1 (by rw [grw_len]; decide)
    simp only [grw, List.getElem_cons_zero, List.getElem_cons_succ] at hd1
    rw [hrel.kind] at hd1
    have hD1 := Lib.hid hd1
    clear hfp e1 e2 hcs hrel hd1
    generalize gs[k].kind = kd at *
    go_enter Tryz.func19, Tryz.ntmps19
    go_wp2_with (first
      | (refine wpList_load_agg (o := ⟨some 5, .load _ _, _, _, _, _⟩) rfl _ rfl agT_state q 0 rfl _ HQ.out HL.out ?_)
      | (go_at_call 20; refine HF.out.mono ?_; rintro e w' ⟨rfl, hk2⟩; have d1 := hk2.cell' hD1.out))
    go_ret
    exact ⟨by rw [HP.out]; rfl, hk2⟩
end Go.Proofs.YtiijfocdjcjlaaaGreat
/- checker.extent's question of a member. -/
namespace Go.Proofs.YtiijfocdjcjlaaaGreat
open Go.RowKit
set_option linter.unusedVariables false
set_option linter.unusedSimpArgs false
set_option maxRecDepth 100000
set_option maxHeartbeats 1000000
theorem st_ext1 (m : Mb) (xb : Nat) (d : Int) (w : World) (hc : w.cell? ⟨xb, 0, none⟩ = some (.int .i64 d)) :
    Calls Tryz.prog 101 #[.agg (trip m).toArray, .pointer (some ⟨xb, 0, none⟩)] w fun e w' => e = .returned (.bool (m.1 == d)) ∧ Kept w w' := by
  have hB : ∀ o, Kept w (w.alloc o) := fun o => (Kept.refl _).alloc o
  have HB := Lib.hid hB; clear hB
  have hlt := World.block_lt_of_cell? _ _ hc
  simp only [trip]
  go_enter Tryz.func101, Tryz.ntmps101
  go_wp2
  go_ret
  exact ⟨rfl, HB.out _⟩
/-- the first member with that number -/
theorem st_ext_idx (l : List Mb) (v : Value) (xb : Nat) (d : Int) (w : World) (hlen : l.length ≤ 4096) (hm : RSl trip 3 w v l) (hc : w.cell? ⟨xb, 0, none⟩ = some (.int .i64 d)) :
    Calls Tryz.prog 95 #[v, .func (.func 101) #[] #[.pointer (some ⟨xb, 0, none⟩)]] w fun e w' => e = .returned (.int .i64 (idxP (fun m : Mb => m.1 == d) l)) ∧ Kept w w' := by
  refine (idx_m (fun (s : Unit) (x : Mb) => (x.1 == d, s)) (fun _ W => Kept w W) (fun _ => False) () l _ #[] #[.pointer (some ⟨xb, 0, none⟩)] v w hlen (fun _ W h => hm.kept h) (Kept.refl w)
    ⟨fun _ _ => rfl, fun s x w2 h => (st_ext1 x xb d w2 (h.cell' hc)).mono (by rintro e w3 ⟨rfl, hk3⟩; exact ⟨rfl, h.trans hk3, KeptX.of hk3⟩)⟩).mono ?_
  rintro e w' ⟨rfl, hk, _⟩
  exact ⟨by rw [idxF_plain0], hk⟩
end Go.Proofs.YtiijfocdjcjlaaaGreat
/- all places of a state, all its dirty groups. -/
namespace Go.Proofs.YtiijfocdjcjlaaaGreat
open Go.RowKit
set_option linter.unusedVariables false
set_option linter.unusedSimpArgs false
set_option maxRecDepth 100000
set_option maxHeartbeats 1000000
section
variable (q : Nat) (bl : Int) (sm sp sd : Value) (pl : List Value) (hpl : pl.length = 131) (raw : List Gw) (gs : List Grp) (oa : Option Addr) (cap : Nat) (w : World) (hlen : raw.length ≤ 4096) (hg : RSl grw 3 w (.slice oa raw.length cap) raw) (hr : GRels w raw gs) (hq : Cells w q 0 (stv bl sm (.slice oa raw.length cap) sp sd pl))
include hpl hlen hg hr hq
theorem all_dirty (l : List Int) (v : Value) (hl : l.length ≤ 4096) (hm : RSl oneV 1 w v l) :
    Calls Tryz.prog 31 #[v, .func (.func 19) #[] #[.pointer (some ⟨q, 0, none⟩)]] w fun e w' => e = .returned (.bool (l.all (dirtyG gs))) ∧ Kept w w' := by
  refine (all_i (fun (s : Unit) x => (dirtyG gs x, s)) (fun _ W => Kept w W) (fun _ => False) () l _ #[] #[.pointer (some ⟨q, 0, none⟩)] v w hl (fun _ W o h => h.alloc o) (fun b h => h.elim) (fun _ W h => hm.kept h) (Kept.refl w)
    ⟨fun _ _ => rfl, fun s x w2 h => (st_dirty1 q bl sm sp sd pl hpl raw gs oa cap x w2 hlen (hg.kept h) (hr.kept h) (hq.kept h)).mono (by rintro e w3 ⟨rfl, hk3⟩; exact ⟨rfl, h.trans hk3, KeptX.of hk3⟩)⟩).mono ?_
  rintro e w' ⟨rfl, hk, _⟩
  exact ⟨by rw [allF_plain], hk⟩
theorem all_mapped (l : List Wh) (v : Value) (hl : l.length ≤ 4096) (hm : RSl trip 3 w v l) :
    Calls Tryz.prog 70 #[v, .func (.func 71) #[] #[.pointer (some ⟨q, 0, none⟩)]] w fun e w' => e = .returned (.bool (l.all fun x => x.1 == 0 || placeG gs x)) ∧ Kept w w' := by
  refine (all_w (fun (s : Unit) x => (x.1 == 0 || placeG gs x, s)) (fun _ W => Kept w W) (fun _ => False) () l _ #[] #[.pointer (some ⟨q, 0, none⟩)] v w hl (fun _ W o h => h.alloc o) (fun b h => h.elim) (fun _ W h => hm.kept h) (Kept.refl w)
    ⟨fun _ _ => rfl, fun s x w2 h => (st_mapped1 q bl sm sp sd pl hpl raw gs oa cap x w2 hlen (hg.kept h) (hr.kept h) (hq.kept h)).mono (by rintro e w3 ⟨rfl, hk3⟩; exact ⟨rfl, h.trans hk3, KeptX.of hk3⟩)⟩).mono ?_
  rintro e w' ⟨rfl, hk, _⟩
  exact ⟨by rw [allF_plain (fun x : Wh => x.1 == 0 || placeG gs x)], hk⟩
end
end Go.Proofs.YtiijfocdjcjlaaaGreat
