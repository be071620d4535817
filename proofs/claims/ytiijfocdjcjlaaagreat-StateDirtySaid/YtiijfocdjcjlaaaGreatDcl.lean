/- state.step at clean. -/
import Derived.Test.YtiijfocdjcjlaaaGreatDrt
namespace Go.Proofs.YtiijfocdjcjlaaaGreat
open Go.RowKit Go.ChangeMaps Go.MapKept
set_option linter.unusedVariables false
set_option linter.unusedSimpArgs false
set_option maxRecDepth 100000
set_option maxHeartbeats 1000000
def memB (l : List Int) (x : Int) : Bool := l.contains x
theorem clean1 (x : Int) (l : List Int) (vi : Value) (rb : Nat) (w : World) (hlen : l.length ≤ 4096) (hc : w.cell? ⟨rb, 9, none⟩ = some vi) (hm : RSl oneV 1 w vi l) :
    Calls Tryz.prog 92 #[.int .i64 x, .pointer (some ⟨rb, 0, none⟩)] w fun e w' => e = .returned (.bool (memB l x)) ∧ Kept w w' := by
  have hC := sl_Contains_i x l vi w hlen hm
  obtain ⟨b, hb⟩ : ∃ b, b = memB l x := ⟨_, rfl⟩
  have hb2 : b = l.contains x := hb
  rw [← hb2] at hC
  rw [← hb]
  clear hb hb2
  have HC := Lib.hid hC; clear hC hm
  have hlt := World.block_lt_of_cell? _ _ hc
  go_enter Tryz.func92, Tryz.ntmps92
  go_wp2_with fail
  refine Calls.mono HC.out ?_
  rintro e w1 ⟨rfl, hk⟩
  have HK := Lib.hid hk; clear hk
  go_wp2
  go_ret
  exact ⟨rfl, HK.out⟩
def cleanL (d l : List Int) : List Int := d.filter fun x => !memB l x
theorem step_clean (wx : World) (s : St) (l : List Int) (vi : Value) (hlen : l.length ≤ 4096) (hm : RSl oneV 1 wx vi l) : StepC wx (rcClean vi) s 0 (dirtyS s (cleanL s.dirty l)) := by
  intro X b0 base b1 b2 b3 b4 sm sg sp sd raw w hkx hxb hO hX0 hX1 hX
  have hl0 := hO.le0; have hl1 := hO.le1; have hl2 := hO.le2; have hl3 := hO.le3; have hl4 := hO.le4; have hl5 := hO.le5
  obtain ⟨od, cd, rfl⟩ := hO.d.form
  have HO := Lib.hid hO; have HX := Lib.hid hX; have HM := Lib.hid hm; have HKX := Lib.hid hkx
  have HL := Lib.hid (show (stC s sm sg sp (.slice od s.dirty.length cd)).length = 136 from stv_len (plv_len hO.plug))
  clear hO hX hm hkx
  go_enter Tryz.func37, Tryz.ntmps37
  go_wp2_with (refine stop_at (o := ⟨some 3, _, _, _, _, _⟩) ?_)
  refine Stop.mk ?_
  refine wpList_box_rowS rfl _ _ rfl (rcClean vi) rfl ?_
  intro w1 hz1 hs1 hk1
  obtain ⟨rb, hrb⟩ : ∃ rb, rb = w.heap.size := ⟨_, rfl⟩
  rw [← hrb] at hz1 ⊢
  have hr4 : b4 ≤ rb := by omega
  have c0 : w1.cell? ⟨rb, 0, none⟩ = some (.int .i64 6) := (Cells.of_block hz1.out) 0 (by show 0 < 142; decide)
  have c9 : w1.cell? ⟨rb, 9, none⟩ = some vi := (Cells.of_block hz1.out) 9 (by show 9 < 142; decide)
  have HK1 := Lib.hid hk1
  have HX1 := Lib.hid (hk1.block HX.out)
  have c4 : w1.cell? ⟨X, 4, none⟩ = some (.slice od s.dirty.length cd) := (stv_cells (Cells.of_block HX1.out)).2.2.2.2
  have HC9 := Lib.hid c9
  have hdel := del_i (fun x => memB l x) s.dirty (.slice od s.dirty.length cd) b3 b4 92 #[] #[.pointer (some ⟨rb, 0, none⟩)] w1 HO.out.ldi (HO.out.d.kept hk1) (fun _ _ => rfl)
    (fun x W hb => clean1 x l vi rb W hlen (hb.cell (by show ¬ (b3 ≤ rb ∧ rb < b4); omega) HC9.out) (HM.out.kept (But.to_kept (HKX.out.trans hk1) hb (fun i hi => by omega))))
  have HDEL := Lib.hid hdel
  clear hz1 hs1 hk1 hrb hdel c9
  go_wp2_with fail
  refine Calls.mono HDEL.out ?_
  rintro e w2 ⟨v2, rfl, ho2', hb2⟩
  have ho2 : Own 3 oneV 1 w2 b3 b4 v2 (cleanL s.dirty l) := ho2'
  clear ho2'
  obtain ⟨od2, cd2, rfl⟩ := ho2.form
  have HO2 := Lib.hid ho2; have HB2 := Lib.hid hb2
  have HX2 := Lib.hid (hb2.blk (k := X) (by show ¬ (b3 ≤ X ∧ X < b4); omega) HX1.out)
  clear ho2 hb2 HDEL c0 c4
  go_wp2_with (refine stop_at (o := ⟨none, .store _ _ _, _, _, _, _⟩) ?_)
  refine Stop.mk ?_
  refine wpList_set_cell rfl _ _ rfl size_intsT X 4 rfl (.slice od2 _ cd2) rfl rfl rfl _ _ HX2.out (by rw [HL.out]; decide) ?_
  intro w6 hw6
  rw [stC_set4 s (dirtyS s (cleanL s.dirty l)) sm sg sp _ _ rfl rfl] at hw6
  have hb6 : But (fun k => k = X) w2 w6 := But.wrote hw6 rfl
  have HW6 := Lib.hid hw6.blk
  have HALL : Hid (But (fun k => k = X ∨ (base ≤ k ∧ k < b4)) w w6) := Lib.hid (((But.kept (S := fun k => k = X ∨ (base ≤ k ∧ k < b4)) HK1.out).trans (HB2.out.mono fun k hk => by omega)).trans (hb6.mono fun k hk => .inl hk))
  have h := HO.out
  have hdl : (cleanL s.dirty l).length ≤ 4096 := Nat.le_trans (List.length_filter_le _ _) h.ldi
  have HREST : Hid (∀ (α : Type) (E : TypeId) (enc : α → List Value) (n lo hi : Nat) (v : Value) (q : List α) W', hi ≤ b3 → base ≤ lo → But (fun k => b0 ≤ k ∧ k < base) w6 W' → Own E enc n w lo hi v q → Own E enc n W' lo hi v q) := Lib.hid (fun α E enc n lo hi v q W' h3 hl hb ho => by
    have a1 := ho.kept HK1.out
    have a2 := a1.but HB2.out (fun k hk => .inr (by omega))
    have a5 := a2.but hb6 (fun k hk => .inl (by omega))
    exact a5.but hb (fun k hk => .inl (by omega)))
  have HST : Hid (∀ W', But (fun k => b0 ≤ k ∧ k < base) w6 W' → StM W' (dirtyS s (cleanL s.dirty l)) sm sg sp (.slice od2 (cleanL s.dirty l).length cd2) raw) := Lib.hid fun W' hbW =>
    { ms := (HREST.out _ _ _ _ _ _ _ _ W' (by omega) (by omega) hbW h.m).rsl trip_len
      gs := (HREST.out _ _ _ _ _ _ _ _ W' (by omega) (by omega) hbW h.g).rsl grw_len
      rel := h.ext W' ((HALL.out.mono fun k hk => by omega).trans (hbW.mono fun k hk => by omega))
      mp := (HREST.out _ _ _ _ _ _ _ _ W' (by omega) (by omega) hbW h.p).rsl trip_len
      dirty := ((HO2.out.but hb6 (fun k hk => .inl (by omega))).but hbW (fun k hk => .inl (by omega))).rsl oneV_len
      plug := h.plug
      lms := h.lms
      lgs := h.lgs
      lmp := h.lmp
      ldi := hdl }
  clear hw6 hb6 h
  go_wp2
  go_ret
  exact ⟨rfl, fun _ => ⟨_, _, _, _, _, HW6.out, HST.out⟩, HALL.out⟩
end Go.Proofs.YtiijfocdjcjlaaaGreat
