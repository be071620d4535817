/- extent: Clone (gen_excl.py). -/
import Derived.Test.YtglplhmclfekfaaDoorRvj
import Derived.Test.YtglplhmclfekfaaDoorMrg
namespace Go.Proofs.YtglplhmclfekfaaDoor
open Go.RowKit Go.ChangeMaps Go.MapKept
set_option linter.unusedVariables false
set_option linter.unusedSimpArgs false

theorem But.growX {S : Nat → Prop} {a w w' : World} {r : Nat} (h : But S a w) (hg : w.grownBy w' (some r)) (hr : a.heap.size ≤ r) : But S a w' :=
  ⟨hg.os.trans h.os, hg.tape.trans h.tape, hg.output.trans h.output, Nat.le_trans h.size hg.size, fun k hk hn => (hg.block k (Nat.lt_of_lt_of_le hk h.size) (by intro e; injection e with e; omega)).trans (h.block k hk hn)⟩
/-- of the members that have come: their bits' new places -/
structure CopX (W : World) (E : XT) (done : Int → Bool) (bl : Int → Nat) (S0 : Nat) : Prop where
  row : ∀ d n s, done d = true → E d = some (n, s) → BMap W (bl d) n s
  lo : ∀ d, done d = true → E d ≠ none → S0 ≤ bl d
  inj : ∀ d d', done d = true → done d' = true → E d ≠ none → E d' ≠ none → bl d = bl d' → d = d'
def copX (E : XT) (done : Int → Bool) (bl : Int → Nat) (d : Int) : Option Value := if done d then (E d).map fun _ => ptrV (bl d) else none
section
variable {W W' : World} {E : XT} {done : Int → Bool} {bl : Int → Nat} {S0 : Nat}
theorem CopX.lt (h : CopX W E done bl S0) {d : Int} (hd : done d = true) (hn : E d ≠ none) : bl d < W.heap.size := by
  cases hg : E d with
  | none => exact absurd hg hn
  | some x => obtain ⟨n, s⟩ := x; exact (h.row d n s hd hg).lt
theorem CopX.same (h : CopX W E done bl S0) (hs : ∀ d, done d = true → E d ≠ none → W'.heap[bl d]? = W.heap[bl d]?) : CopX W' E done bl S0 :=
  ⟨fun d n s hd hl => (h.row d n s hd hl).same (hs d hd (by rw [hl]; simp)), h.lo, h.inj⟩
theorem CopX.kept (h : CopX W E done bl S0) (hk : Kept W W') : CopX W' E done bl S0 := h.same fun d hd hn => hk.block_eq (h.lt hd hn)
/-- one more has come -/
theorem CopX.more (h : CopX W E done bl S0) (hk : Kept W W') {d : Int} {n : Nat} {s : Nat → Bool} (hn : E d = some (n, s)) (hd : done d = false) {g1 : Nat} (hb : BMap W' g1 n s) (hg : W.heap.size ≤ g1) (h0 : S0 ≤ W.heap.size) :
    CopX W' E (fun x => done x || x == d) (fun x => if x = d then g1 else bl x) S0 := by
  have old : ∀ x, (done x || x == d) = true → x ≠ d → done x = true := fun x hx hne => by
    rw [beq_eq_false_iff_ne.2 hne, Bool.or_false] at hx; exact hx
  refine ⟨fun x n' s' hx hl => ?_, fun x hx hl => ?_, fun x y hx hy hl1 hl2 e => ?_⟩
  · show BMap W' (if x = d then g1 else bl x) n' s'
    by_cases e : x = d
    · subst e
      rw [hn] at hl; injection hl with hl; injection hl with hl1 hl2; subst hl1; subst hl2
      rw [if_pos rfl]; exact hb
    · rw [if_neg e]; exact (h.row x n' s' (old x hx e) hl).kept hk
  · show S0 ≤ if x = d then g1 else bl x
    split
    · omega
    · rename_i e; exact h.lo x (old x hx e) hl
  · replace e : (if x = d then g1 else bl x) = (if y = d then g1 else bl y) := e
    split at e <;> split at e
    · rename_i a b; rw [a, b]
    · rename_i a b
      have := h.lt (old y hy b) hl2; omega
    · rename_i a b
      have := h.lt (old x hx a) hl1; omega
    · rename_i a b
      exact h.inj x y (old x hx a) (old y hy b) hl1 hl2 e
theorem copX_more {d : Int} {x : Nat × (Nat → Bool)} (hn : E d = some x) {g1 : Nat} :
    upd (copX E done bl) d (ptrV g1) = copX E (fun x => done x || x == d) (fun x => if x = d then g1 else bl x) := by
  funext y
  unfold upd copX
  by_cases e : y = d
  · subst e
    simp only [if_true, beq_self_eq_true, Bool.or_true, hn, Option.map_some]
  · simp only [if_neg e, beq_eq_false_iff_ne.2 e, Bool.or_false]
theorem copX_none : copX E (fun _ => false) bl = fun _ => none := rfl
theorem copX_all (h : ∀ d x, E d = some x → done d = true) : copX E done bl = fun d => (E d).map fun _ => ptrV (bl d) := by
  funext d
  unfold copX
  cases hg : E d with
  | none => simp
  | some x => rw [if_pos (h d x hg)]
end
section
variable {w : World} {q : Nat} {S : Nat → Prop} {E : XT}
set_option maxHeartbeats 2000000
set_option maxRecDepth 100000
theorem ext_Clone (H : XAt w q S E) : Calls Tryd.prog 18 #[.pointer (some ⟨q, 0, none⟩)] w fun e w' => ∃ q' S', e = .returned (.pointer (some ⟨q', 0, none⟩)) ∧ XAt w' q' S' E ∧ Kept w w' ∧ (∀ k, S' k → w.heap.size ≤ k) := by
  obtain ⟨g, blk, H⟩ := H
  have HT := Lib.hid H
  clear H
  go_enter Tryd.func18, Tryd.ntmps18
  go_wp2_with fail
  refine Calls.mono (ext_New w) ?_
  rintro e w3 ⟨q2, S2, rfl, hx, hk3, hlo⟩
  obtain ⟨g2, bl2, hx⟩ := hx
  have hne := hx.qg
  have HB3 := Lib.hid hx.top
  obtain ⟨m2, hm2⟩ := hx.gm
  have HI3 : Hid (IMap w3 g2 m2 (fun _ => none)) := Lib.hid hm2
  have HK3 := Lib.hid hk3
  have hq2 := hlo _ hx.sp
  have hg2 := hlo _ hx.sg
  have hq2l := hx.slt _ hx.sp
  have hg2l := hx.slt _ hx.sg
  have H3 := HT.out.same HK3.out
  have c0 := H3.c0
  have HT3 := Lib.hid H3
  obtain ⟨mg, hmg⟩ := HT3.out.gm
  have hgl := HT.out.slt _ HT.out.sg
  clear H3 hx hm2 hk3 hlo
  go_wp2_with (refine stop_at (o := ⟨some 11, _, _, _, _, _⟩) ?_)
  refine Stop.mk ?_
  refine wpList_range_imap _ rfl _ 49 rfl 3 52 Tryd.underlying49 g mg _ rfl hmg ?_
  intro w4 hr4 hk4 hs4
  obtain ⟨r, hr⟩ : ∃ r, r = w3.heap.size := ⟨_, rfl⟩
  rw [← hr] at hr4 hq2l hg2l ⊢
  have HR4 := Lib.hid hr4
  have HU4 := Lib.hid (But.kept (S := fun k => k = g2) hk4)
  have HI4 := Lib.hid (HI3.out.kept hk4)
  have HRS := Lib.hid hr
  clear hr4 hk4 hs4 hmg c0 hr
  go_wp2
  go_frame
  go_loopw [12] (fun _ wr => ∃ (done : Int → Bool) (bl : Int → Nat) (m : Nat), Hid (IRange wr g mg r (fun d => (E d).map fun _ => ptrV (blk d)) done) ∧ Hid (IMap wr g2 m (copX E done bl)) ∧ Hid (CopX wr E done bl r) ∧ Hid (But (fun k => k = g2) w3 wr)) (fun _ wr => wr.rangeLeft g r)
  case atStart => exact ⟨fun _ => false, fun _ => 0, _, HR4, Lib.hid (by rw [copX_none]; exact HI4.out), Lib.hid ⟨(fun d n s h => by cases h), (fun d h => by cases h), (fun d d' h => by cases h)⟩, HU4⟩
  case round =>
    clear HR4 HI4 HU4
    obtain ⟨done, bl, m, HR, HI, HC, HU⟩ := hrel
    go_wp2_with (refine stop_at (o := ⟨some 12, _, _, _, _, _⟩) ?_)
    refine Stop.mk ?_
    refine wpList_next_imap _ rfl _ rfl g mg r _ _ rfl HR.out ?_ ?_
    · intro hall
      have hall' : ∀ d x, E d = some x → done d = true := fun d x hn => hall d _ (by rw [hn]; rfl)
      have hi := HI.out
      rw [copX_all hall'] at hi
      have hlt := HU.out.size
      have hkw : Kept w _ := But.to_kept HK3.out HU.out (fun i hi => by rw [hi]; exact hg2)
      have htop := HU.out.blk hne HB3.out
      have hsz : r ≤ _ := Nat.le_trans (Nat.le_of_eq HRS.out) hlt
      have HFIN := Lib.hid (show XAt _ q2 (fun k => k = q2 ∨ k = g2 ∨ ∃ d, E d ≠ none ∧ k = bl d) E from
        ⟨g2, bl, htop, ⟨_, hi⟩, (fun d n s hl => HC.out.row d n s (hall' d _ hl) hl), (fun d hn => .inr (.inr ⟨d, hn, rfl⟩)), (fun d d' h1 h2 e => by
          cases hg1 : E d with
          | none => exact absurd hg1 h1
          | some l1 =>
            cases hg2' : E d' with
            | none => exact absurd hg2' h2
            | some l2 => exact HC.out.inj d d' (hall' d l1 hg1) (hall' d' l2 hg2') h1 h2 e), .inl rfl, .inr (.inl rfl), fun k hk => by
          rcases hk with rfl | rfl | ⟨d, hn, rfl⟩
          · omega
          · omega
          · cases hg1 : E d with
            | none => exact absurd hg1 hn
            | some l1 => exact HC.out.lt (hall' d l1 hg1) hn⟩)
      have HLO := Lib.hid (show ∀ k, (k = q2 ∨ k = g2 ∨ ∃ d, E d ≠ none ∧ k = bl d) → w.heap.size ≤ k from fun k hk => by
        rcases hk with rfl | rfl | ⟨d, hn, rfl⟩
        · omega
        · omega
        · cases hg1 : E d with
          | none => exact absurd hg1 hn
          | some l1 => have := HC.out.lo d (hall' d l1 hg1) hn; omega)
      have HKW := Lib.hid hkw
      clear hall hall' hi hlt hkw htop hsz HI HC HU HR
      go_wp2
      go_ret
      exact ⟨_, _, rfl, HFIN.out, HKW.out, HLO.out⟩
    · intro d v w5 hfn hdn hr5 hlt5 hg5 hs5 hen
      rw [Option.map_eq_some_iff] at hfn
      obtain ⟨⟨n, s⟩, hgn, rfl⟩ := hfn
      have hr3 : w3.heap.size ≤ r := Nat.le_of_eq HRS.out.symm
      have HR5 := Lib.hid hr5
      have HLT5 := Lib.hid hlt5
      have HGN := Lib.hid hgn
      have HDN := Lib.hid hdn
      have hu5 := HU.out.growX hg5 hr3
      have HU5 := Lib.hid hu5
      have HC5 := Lib.hid (HC.out.same fun d' hd hn => hg5.block _ (HC.out.lt hd hn) (by intro e; injection e with e; obtain ⟨_, _, _, _, _, _, _, _, _, _, h6, _⟩ := HR.out; cases hgg : E d' with | none => exact hn hgg | some l0 => obtain ⟨n0, s0⟩ := l0; obtain ⟨_, _, ws, _, this, _⟩ := HC.out.row d' n0 s0 hd hgg; rw [e, h6] at this; cases this))
      have HI5 := Lib.hid (HI.out.same (hg5.block _ HI.out.lt (by intro e; injection e with e; omega)))
      have H5 := HT3.out.but (R := fun k => k = g2) hu5 (fun k hk e => by have := HT.out.slt k hk; omega)
      have hrow := H5.row d n s hgn
      have cp := hu5.cell (p := ⟨q2, 0, none⟩) (show ¬ (q2 = g2) from hne) (cell_of_row _ _ 0 _ _ _ HB3.out : w3.cell? ⟨q2, 0, none⟩ = some (.map (some g2)))
      have HCP := Lib.hid cp
      have HSC := Lib.hid (fun (W : World) (hk : Kept w5 W) => bits_Clone (hrow.kept hk))
      unfold ptrV at hen ⊢
      clear hdn hr5 hlt5 hg5 hs5 hgn hu5 H5 hrow cp HU HC HI HR
      go_upto_region 5 with fail
      have hS : w5.drew.cell? ⟨q2, 0, none⟩ = some (.map (some g2)) := by simpa using HCP.out
      refine wp_region_calm ?_
      refine wp_region_E (fun W => W.cell? ⟨q2, 0, none⟩ = some (.map (some g2))) 100 (by kernel_rfl) ?_
      refine wpAnyE_take (i := 0) (v := ?_) (listed' := #[true, false, false, false, false, false, false, false]) (by rfl) (by kernel_rfl) (by kernel_rfl) calm_put hS (by rfl) ?_ ?_
      rotate_left
      · intro W hW; clear hW; go_simp; try (with_reducible rfl)
      simp only [Act.put, List.getElem_toArray, List.getElem_cons_succ, List.getElem_cons_zero, List.setIfInBounds_toArray, List.set_cons_zero, List.set_cons_succ]
      refine wpAnyE_take (i := 1) (v := ?_) (listed' := #[true, true, false, false, false, false, false, false]) (by rfl) (by kernel_rfl) (by kernel_rfl) calm_put hS (by rfl) ?_ ?_
      rotate_left
      · intro W hW; clear hW; go_simp; try (with_reducible rfl)
      simp only [Act.put, List.getElem_toArray, List.getElem_cons_succ, List.getElem_cons_zero, List.setIfInBounds_toArray, List.set_cons_zero, List.set_cons_succ]
      refine wpAnyE_take (i := 2) (v := ?_) (listed' := #[true, true, true, false, false, false, false, false]) (by rfl) (by kernel_rfl) (by kernel_rfl) calm_put hS (by rfl) ?_ ?_
      rotate_left
      · intro W hW; clear hW; go_simp; try (with_reducible rfl)
      simp only [Act.put, List.getElem_toArray, List.getElem_cons_succ, List.getElem_cons_zero, List.setIfInBounds_toArray, List.set_cons_zero, List.set_cons_succ]
      refine wpAnyE_take (i := 3) (v := ?_) (listed' := #[true, true, true, true, false, false, false, false]) (by rfl) (by kernel_rfl) (by kernel_rfl) calm_put hS (by rfl) ?_ ?_
      rotate_left
      · intro W hW; go_simp; try (with_reducible rfl)
      simp only [Act.put, List.getElem_toArray, List.getElem_cons_succ, List.getElem_cons_zero, List.setIfInBounds_toArray, List.set_cons_zero, List.set_cons_succ]
      refine wpAnyE_take (i := 4) (v := ?_) (listed' := #[true, true, true, true, true, false, false, false]) (by rfl) (by kernel_rfl) (by kernel_rfl) calm_put hS (by rfl) ?_ ?_
      rotate_left
      · intro W hW; clear hW; go_simp; try (with_reducible rfl)
      simp only [Act.put, List.getElem_toArray, List.getElem_cons_succ, List.getElem_cons_zero, List.setIfInBounds_toArray, List.set_cons_zero, List.set_cons_succ]
      refine wpAnyE_take (i := 5) (v := ?_) (listed' := #[true, true, true, true, true, true, false, false]) (by rfl) (by kernel_rfl) (by kernel_rfl) calm_put hS (by rfl) ?_ ?_
      rotate_left
      · intro W hW; clear hW; go_simp; try (with_reducible rfl)
      simp only [Act.put, List.getElem_toArray, List.getElem_cons_succ, List.getElem_cons_zero, List.setIfInBounds_toArray, List.set_cons_zero, List.set_cons_succ]
      refine wpAnyE_one (i := 6) (listed' := #[true, true, true, true, true, true, true, false]) (by rfl) (by kernel_rfl) (by kernel_rfl) (by rfl) (fun K hK => ?_)
      simp only [Act.put, List.getElem_toArray, List.getElem_cons_succ, List.getElem_cons_zero, List.setIfInBounds_toArray, List.set_cons_zero, List.set_cons_succ]
      go_wp2_with fail
      refine Calls.mono (HSC.out _ (Kept.refl w5).drew) ?_
      rintro e w6 ⟨rfl, hb6, hk6⟩
      have hk56 : Kept w5 w6 := (Kept.refl w5).drew.trans hk6
      obtain ⟨g1, hg1⟩ : ∃ g1, g1 = w5.drew.heap.size := ⟨_, rfl⟩
      rw [← hg1] at hb6 ⊢
      have hgg : w5.heap.size ≤ g1 := by rw [hg1]; exact Nat.le_refl _
      have HB6 := Lib.hid hb6
      have HI6 := Lib.hid (HI5.out.kept hk56)
      clear hS
      have hS := hk56.cell' HCP.out
      clear hb6 hk6 hg1
      refine hK _ _ (fun _ => hS) ?_; clear hK K
      refine wpAnyE_one (i := 7) (listed' := #[true, true, true, true, true, true, true, true]) (by rfl) (by kernel_rfl) (by kernel_rfl) (by rfl) (fun K hK => ?_)
      simp only [Act.put, List.getElem_toArray, List.getElem_cons_succ, List.getElem_cons_zero, List.setIfInBounds_toArray, List.set_cons_zero, List.set_cons_succ]
      refine wp_update_im _ _ _ (by rfl) Tryd.underlying49 Tryd.underlying3 (by rfl) d (by rfl) (ptrV g1) (by rfl) HI6.out ?_
      intro o' hi7
      rw [copX_more HGN.out] at hi7
      have hbt := But.block1 w6 g2 o'
      have hS := hbt.cell (p := ⟨q2, 0, none⟩) (show ¬ (q2 = g2) from hne) hS
      refine hK _ _ (fun _ => hS) ?_; clear hK K
      refine wpAnyE_done (by kernel_rfl) ?_ _
      refine calm_normal ?_
      have HU7 := Lib.hid ((HU5.out.trans' (But.kept (S := fun k => k = g2) hk56) fun i hi => .inl hi).trans' hbt fun i hi => .inl hi)
      have hcm := HC5.out.more hk56 HGN.out HDN.out HB6.out hgg (Nat.le_trans (Nat.le_of_eq HRS.out) HU5.out.size)
      have HC7 := Lib.hid (hcm.same fun x hd hx => hbt.block _ (hcm.lt hd hx) (fun e => by have := hcm.lo x hd hx; omega))
      have hr7 := (HR5.out.kept hk56).same (hbt.block _ (HR5.out.kept hk56).map.lt (fun e => by omega)) (hbt.block _ (HR5.out.kept hk56).lt (fun e => by omega))
      have HL7 := Lib.hid (((HR5.out.kept hk56).left_same (hbt.block _ (HR5.out.kept hk56).map.lt (fun e => by omega)) (hbt.block _ (HR5.out.kept hk56).lt (fun e => by omega))).trans (HR5.out.left_same (hk56.block_eq HR5.out.map.lt) (hk56.block_eq HR5.out.lt)))
      have HR7 := Lib.hid hr7
      have HI7 := Lib.hid hi7
      generalize ChangeMaps.setBlock w6 g2 o' = w7 at *
      clear hS hbt hcm hr7 hi7 HI5 HR5 HC5 HU5 HI6 HSC HCP
      go_frame
      go_wp2
      go_roundw
      case rel => exact ⟨_, _, _, HR7, HI7, HC7, HU7⟩
      case measure => exact Nat.lt_of_le_of_lt (Nat.le_of_eq HL7.out) HLT5.out
end
end Go.Proofs.YtglplhmclfekfaaDoor
