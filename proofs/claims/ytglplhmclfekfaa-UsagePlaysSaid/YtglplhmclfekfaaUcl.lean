/- usage: Clone (gen_ucl.py). -/
import Derived.Test.YtglplhmclfekfaaUdr
import Derived.Test.YtglplhmclfekfaaMpl
namespace Go.Proofs.Ytglplhmclfekfaa
open Go.RowKit Go.ChangeMaps Go.MapKept Go.Shelf
set_option linter.unusedVariables false
set_option linter.unusedSimpArgs false

theorem maps_Clone {w : World} {b m : Nat} {f : Int → Option Value} (h : IMap w b m f) :
    Calls Try.prog 76 #[.map (some b)] w fun e w' => e = .returned (.map (some w.heap.size)) ∧ IMap w' w.heap.size m f ∧ Kept w w' ∧ w'.heap.size = w.heap.size + 1 := by
  obtain ⟨es, c, hb, h2⟩ := h
  refine (AnyW.maps_Clone Try.mclL b es c w hb).mono fun e w' ⟨he, hw⟩ => ⟨he, ?_, ?_, ?_⟩
  · rw [hw]; exact ⟨es, c, heap_alloc_new w _, h2⟩
  · rw [hw]; exact (Kept.refl w).alloc _
  · rw [hw]; simp
/-- of the groups that have come: their slots' new places -/
structure Cop (W : World) (T : Tab) (done : Int → Bool) (bl : Blk) (S0 : Nat) : Prop where
  row : ∀ n l, done n = true → T.g n = some l → W.heap[bl.b n]? = some (.cells (ints l ++ bl.j n).toArray 3 (0, 0))
  lo : ∀ n, done n = true → T.g n ≠ none → S0 ≤ bl.b n
  inj : ∀ n n', done n = true → done n' = true → T.g n ≠ none → T.g n' ≠ none → bl.b n = bl.b n' → n = n'
def copG (T : Tab) (done : Int → Bool) (bl : Blk) (n : Int) : Option Value := if done n then (T.g n).map (slV (bl.b n) (bl.j n).length) else none
section
variable {W W' : World} {T : Tab} {done : Int → Bool} {bl : Blk} {S0 : Nat}
theorem Cop.lt (h : Cop W T done bl S0) {n : Int} (hd : done n = true) (hn : T.g n ≠ none) : bl.b n < W.heap.size := by
  cases hg : T.g n with
  | none => exact absurd hg hn
  | some l => exact (Array.getElem?_eq_some_iff.1 (h.row n l hd hg)).1
theorem Cop.same (h : Cop W T done bl S0) (hs : ∀ n, done n = true → T.g n ≠ none → W'.heap[bl.b n]? = W.heap[bl.b n]?) : Cop W' T done bl S0 :=
  ⟨fun n l hd hl => (hs n hd (by rw [hl]; simp)).trans (h.row n l hd hl), h.lo, h.inj⟩
theorem Cop.kept (h : Cop W T done bl S0) (hk : Kept W W') : Cop W' T done bl S0 := h.same fun n hd hn => hk.block_eq (h.lt hd hn)
/-- one more has come -/
theorem Cop.more (h : Cop W T done bl S0) (hk : Kept W W') {n : Int} {l : List Int} (hn : T.g n = some l) (hd : done n = false) {g1 : Nat} {rest : List Value} (hb : W'.heap[g1]? = some (.cells (ints l ++ rest).toArray 3 (0, 0))) (hg : W.heap.size ≤ g1) (h0 : S0 ≤ W.heap.size) :
    Cop W' T (fun x => done x || x == n) ⟨fun x => if x = n then g1 else bl.b x, fun x => if x = n then rest else bl.j x⟩ S0 := by
  have old : ∀ x, (done x || x == n) = true → x ≠ n → done x = true := fun x hx hne => by
    rw [beq_eq_false_iff_ne.2 hne, Bool.or_false] at hx; exact hx
  refine ⟨fun x lx hx hl => ?_, fun x hx hl => ?_, fun x y hx hy hl1 hl2 e => ?_⟩
  · show W'.heap[if x = n then g1 else bl.b x]? = some (.cells (ints lx ++ (if x = n then rest else bl.j x)).toArray 3 (0, 0))
    by_cases e : x = n
    · subst e
      rw [hn] at hl; injection hl with hl; subst hl
      rw [if_pos rfl, if_pos rfl]; exact hb
    · rw [if_neg e, if_neg e]; exact hk.block (h.row x lx (old x hx e) hl)
  · show S0 ≤ if x = n then g1 else bl.b x
    split
    · omega
    · rename_i e; exact h.lo x (old x hx e) hl
  · replace e : (if x = n then g1 else bl.b x) = (if y = n then g1 else bl.b y) := e
    split at e <;> split at e
    · rename_i a b; rw [a, b]
    · rename_i a b
      have := h.lt (old y hy b) hl2; omega
    · rename_i a b
      have := h.lt (old x hx a) hl1; omega
    · rename_i a b
      exact h.inj x y (old x hx a) (old y hy b) hl1 hl2 e
theorem copG_more {n : Int} {l : List Int} (hn : T.g n = some l) {g1 cap : Nat} {rest : List Value} (hc : l.length + rest.length = cap) :
    upd (copG T done bl) n (.slice (some ⟨g1, 0, none⟩) l.length cap) = copG T (fun x => done x || x == n) ⟨fun x => if x = n then g1 else bl.b x, fun x => if x = n then rest else bl.j x⟩ := by
  funext x
  unfold upd copG
  by_cases e : x = n
  · subst e
    simp only [if_true, beq_self_eq_true, Bool.or_true, hn, Option.map_some, slV, hc]
  · simp only [if_neg e, beq_eq_false_iff_ne.2 e, Bool.or_false]
theorem copG_none : copG T (fun _ => false) bl = fun _ => none := rfl
/-- all have come -/
theorem copG_all (h : ∀ n l, T.g n = some l → done n = true) : copG T done bl = fun n => (T.g n).map (slV (bl.b n) (bl.j n).length) := by
  funext n
  unfold copG
  cases hg : T.g n with
  | none => simp
  | some l => rw [if_pos (h n l hg)]
end
section
variable {w : World} {p : Nat} {S : Nat → Prop} {T : Tab}
set_option maxHeartbeats 2000000
set_option maxRecDepth 100000
theorem tab_Clone (H : TabAt w p S T) (hlen : ∀ n l, T.g n = some l → 0 < l.length ∧ l.length ≤ 4096) :
    Calls Try.prog 24 #[.pointer (some ⟨p, 0, none⟩)] w fun e w' => ∃ p' S', e = .returned (.pointer (some ⟨p', 0, none⟩)) ∧ TabAt w' p' S' T ∧ Kept w w' ∧ (∀ k, S' k → w.heap.size ≤ k) := by
  have HL := Lib.hid hlen; clear hlen
  obtain ⟨g, h, blk, H⟩ := H
  have HT := Lib.hid H
  have hmm := @run_makeMap Try.prog
  have hk1 := (Kept.refl w).alloc (Obj.map #[] 0)
  have H1 := H.same hk1
  have c1 := H1.c1
  obtain ⟨mh, hmh⟩ := H1.fm
  have HMH := Lib.hid hmh
  have HI1 := Lib.hid (IMap.made w)
  have HK1 := Lib.hid hk1
  have hs1 : (w.alloc (Obj.map #[] 0)).heap.size = w.heap.size + 1 := by simp
  clear H H1 hmh hk1
  go_enter Try.func24, Try.ntmps24
  go_wp2_with fail
  refine Calls.mono (maps_Clone HMH.out) ?_
  rintro e w2 ⟨rfl, hi2, hk2, hs2⟩
  rw [hs1] at hi2 hs2 ⊢
  have hi1 := HI1.out.kept hk2
  have hk12 := HK1.out.trans hk2
  have hk3 := (Kept.refl w2).alloc (Obj.cells #[.map (some w.heap.size), .map (some (w.heap.size + 1))] 121)
  have hb3 := heap_alloc_new w2 (Obj.cells #[.map (some w.heap.size), .map (some (w.heap.size + 1))] 121)
  have HK3 := Lib.hid (hk12.trans hk3)
  have HI3 := Lib.hid (hi1.kept hk3)
  have HH3 := Lib.hid (hi2.kept hk3)
  have HB3 := Lib.hid hb3
  have hs3 : (w2.alloc (Obj.cells #[.map (some w.heap.size), .map (some (w.heap.size + 1))] 121)).heap.size = w.heap.size + 3 := by simp [hs2]
  clear hmm c1 HMH HI1 HK1 hs1 hi2 hk2 hi1 hk12 hk3 hb3
  go_upto_region 2 with fail
  generalize w2.alloc (Obj.cells #[.map (some w.heap.size), .map (some (w.heap.size + 1))] 121) = w3 at *
  rw [hs2] at HB3
  have hab : w.heap.size + 1 + 1 = w.heap.size + 2 := rfl
  rw [hab] at HB3 ⊢
  obtain ⟨g2, hg2⟩ : ∃ g2, g2 = w.heap.size := ⟨_, rfl⟩
  rw [← hg2] at HI3 HH3 HB3 hs3 ⊢
  have hge : w.heap.size ≤ g2 := by omega
  have HG2 := Lib.hid hg2
  clear hs2 hg2
  have H3 := HT.out.same HK3.out
  have c0 := H3.c0
  have HT3 := Lib.hid H3
  obtain ⟨mg, hmg⟩ := HT3.out.gm
  clear H3
  go_wp2_with (refine stop_at (o := ⟨some 18, _, _, _, _, _⟩) ?_)
  refine Stop.mk ?_
  refine wpList_range_imap _ rfl _ 118 rfl 3 56 Try.underlying118 g mg _ rfl hmg ?_
  intro w4 hr4 hk4 hs4
  rw [hs3] at hr4 ⊢
  have HR4 := Lib.hid hr4
  have HU4 := Lib.hid (But.kept (S := fun k => k = g2) hk4)
  have HI4 := Lib.hid (HI3.out.kept hk4)
  clear hr4 hk4 hs4 hmg c0
  go_wp2
  go_frame
  go_loopw [19] (fun _ wr => ∃ (done : Int → Bool) (bl : Blk) (m : Nat), Hid (IRange wr g mg (g2 + 3) (fun n => (T.g n).map (slV (blk.b n) (blk.j n).length)) done) ∧ Hid (IMap wr g2 m (copG T done bl)) ∧ Hid (Cop wr T done bl (g2 + 3)) ∧ Hid (But (fun k => k = g2) w3 wr)) (fun _ wr => wr.rangeLeft g (g2 + 3))
  case atStart => exact ⟨fun _ => false, ⟨fun _ => 0, fun _ => []⟩, _, HR4, Lib.hid (by rw [copG_none]; exact HI4.out), Lib.hid ⟨(fun n l h => by cases h), (fun n h => by cases h), (fun n n' h => by cases h)⟩, HU4⟩
  case round =>
    clear HR4 HI4 HU4
    obtain ⟨done, bl, m, HR, HI, HC, HU⟩ := hrel
    go_wp2_with (refine stop_at (o := ⟨some 19, _, _, _, _, _⟩) ?_)
    refine Stop.mk ?_
    refine wpList_next_imap _ rfl _ rfl g mg (g2 + 3) _ _ rfl HR.out ?_ ?_
    · intro hall
      have hall' : ∀ n l, T.g n = some l → done n = true := fun n l hn => hall n _ (by rw [hn]; rfl)
      have hi := HI.out
      rw [copG_all hall'] at hi
      have hlt := HU.out.size
      have hne : g2 ≠ g2 + 1 ∧ g2 + 2 ≠ g2 := by omega
      have hkw : Kept w _ := But.to_kept HK3.out HU.out (fun i hi => by rw [hi]; exact hge)
      have htop := HU.out.blk hne.2 HB3.out
      have hfm := HU.out.imap hne.1.symm HH3.out
      have hsz : g2 + 3 ≤ _ := Nat.le_trans (Nat.le_of_eq hs3.symm) hlt
      have HFIN := Lib.hid (show TabAt _ (g2 + 2) (fun k => k = g2 + 2 ∨ k = g2 ∨ k = g2 + 1 ∨ ∃ n, T.g n ≠ none ∧ k = bl.b n) T from
        ⟨g2, g2 + 1, bl, htop, ⟨_, hi⟩, ⟨_, hfm⟩, fun n l hl => HC.out.row n l (hall' n l hl) hl, fun n hn => .inr (.inr (.inr ⟨n, hn, rfl⟩)), fun n n' h1 h2 e => by
          cases hg1 : T.g n with
          | none => exact absurd hg1 h1
          | some l1 =>
            cases hg2 : T.g n' with
            | none => exact absurd hg2 h2
            | some l2 => exact HC.out.inj n n' (hall' n l1 hg1) (hall' n' l2 hg2) h1 h2 e, hne.1, .inl rfl, .inr (.inl rfl), .inr (.inr (.inl rfl)), fun k hk => by
          rcases hk with rfl | rfl | rfl | ⟨n, hn, rfl⟩
          · omega
          · omega
          · omega
          · cases hg1 : T.g n with
            | none => exact absurd hg1 hn
            | some l1 => exact HC.out.lt (hall' n l1 hg1) hn⟩)
      have HLO := Lib.hid (show ∀ k, (k = g2 + 2 ∨ k = g2 ∨ k = g2 + 1 ∨ ∃ n, T.g n ≠ none ∧ k = bl.b n) → w.heap.size ≤ k from fun k hk => by
        rcases hk with rfl | rfl | rfl | ⟨n, hn, rfl⟩
        · omega
        · omega
        · omega
        · cases hg1 : T.g n with
          | none => exact absurd hg1 hn
          | some l1 => have := HC.out.lo n (hall' n l1 hg1) hn; omega)
      have HKW := Lib.hid hkw
      clear hall hall' hi hlt hne hkw htop hfm hsz HI HC HU HR
      go_wp2
      go_ret
      exact ⟨_, _, rfl, HFIN.out, HKW.out, HLO.out⟩
    · intro n v w5 hfn hdn hr5 hlt5 hg5 hs5 hen
      rw [Option.map_eq_some_iff] at hfn
      obtain ⟨l, hgn, rfl⟩ := hfn
      have hr3 : w3.heap.size ≤ g2 + 3 := Nat.le_of_eq hs3
      have HR5 := Lib.hid hr5
      have HLT5 := Lib.hid hlt5
      have HGN := Lib.hid hgn
      have HDN := Lib.hid hdn
      have hu5 := HU.out.grow hg5 hr3
      have HU5 := Lib.hid hu5
      have HC5 := Lib.hid (HC.out.same fun n hd hn => hg5.block _ (HC.out.lt hd hn) (by intro e; injection e with e; obtain ⟨_, _, _, _, _, _, _, _, _, _, h6, _⟩ := HR.out; cases hgg : T.g n with | none => exact hn hgg | some l0 => have := HC.out.row n l0 hd hgg; rw [e, h6] at this; cases this))
      have HI5 := Lib.hid (HI.out.same (hg5.block _ HI.out.lt (by intro e; injection e with e; omega)))
      have H5 := HT3.out.but (R := fun k => k = g2) hu5 (fun k hk e => by have := HT.out.slt k hk; omega)
      have hirow := H5.irow hgn
      have hlen := HL.out n l hgn
      have cp := hu5.cell (p := ⟨g2 + 2, 0, none⟩) (show ¬ (g2 + 2 = g2) by omega) (cell_of_row _ _ 0 _ _ _ HB3.out : w3.cell? ⟨g2 + 2, 0, none⟩ = some (.map (some g2)))
      have HCP := Lib.hid cp
      have HSC := Lib.hid (fun (W : World) (hk : Kept w5 W) => slices_Clone l (blk.b n) (l.length + (blk.j n).length) W hlen.1 hlen.2 (Nat.le_add_right _ _) (hirow.kept hk))
      unfold slV at hen ⊢
      clear hdn hr5 hlt5 hg5 hs5 hgn hu5 H5 hirow hlen cp HU HC HI HR
      go_upto_region 5 with fail
      have hS : w5.drew.cell? ⟨g2 + 2, 0, none⟩ = some (.map (some g2)) := by simpa using HCP.out
      refine wp_region_calm ?_
      refine wp_region_E (fun W => W.cell? ⟨g2 + 2, 0, none⟩ = some (.map (some g2))) 100 (by kernel_rfl) ?_
      refine wpAnyE_take (i := 0) (v := ?_) (listed' := #[true, false, false, false, false, false, false, false]) (by rfl) (by kernel_rfl) (by kernel_rfl) calm_put hS (by rfl) ?_ ?_
      rotate_left
      · intro W hW; clear hW; go_simp; try (with_reducible rfl)
      simp only [Act.put, List.getElem_toArray, List.getElem_cons_succ, List.getElem_cons_zero, List.setIfInBounds_toArray, List.set_cons_zero, List.set_cons_succ]
      refine wpAnyE_take (i := 1) (v := ?_) (listed' := #[true, true, false, false, false, false, false, false]) (by rfl) (by kernel_rfl) (by kernel_rfl) calm_put hS (by rfl) ?_ ?_
      rotate_left
      · intro W hW; clear hW; go_simp; try (with_reducible rfl)
      simp only [Act.put, List.getElem_toArray, List.getElem_cons_succ, List.getElem_cons_zero, List.setIfInBounds_toArray, List.set_cons_zero, List.set_cons_succ]
      refine wpAnyE_take (i := 2) (v := ?_) (listed' := #[true, true, true, false, false, false, false, false]) (by rfl) (by kernel_rfl) (by kernel_rfl) calm_put hS (by rfl) ?_ ?_
      rotate_left
      · intro W hW; clear hW; go_simp; try (with_reducible rfl)
      simp only [Act.put, List.getElem_toArray, List.getElem_cons_succ, List.getElem_cons_zero, List.setIfInBounds_toArray, List.set_cons_zero, List.set_cons_succ]
      refine wpAnyE_take (i := 3) (v := ?_) (listed' := #[true, true, true, true, false, false, false, false]) (by rfl) (by kernel_rfl) (by kernel_rfl) calm_put hS (by rfl) ?_ ?_
      rotate_left
      · intro W hW; go_simp; try (with_reducible rfl)
      simp only [Act.put, List.getElem_toArray, List.getElem_cons_succ, List.getElem_cons_zero, List.setIfInBounds_toArray, List.set_cons_zero, List.set_cons_succ]
      refine wpAnyE_take (i := 4) (v := ?_) (listed' := #[true, true, true, true, true, false, false, false]) (by rfl) (by kernel_rfl) (by kernel_rfl) calm_put hS (by rfl) ?_ ?_
      rotate_left
      · intro W hW; clear hW; go_simp; try (with_reducible rfl)
      simp only [Act.put, List.getElem_toArray, List.getElem_cons_succ, List.getElem_cons_zero, List.setIfInBounds_toArray, List.set_cons_zero, List.set_cons_succ]
      refine wpAnyE_take (i := 5) (v := ?_) (listed' := #[true, true, true, true, true, true, false, false]) (by rfl) (by kernel_rfl) (by kernel_rfl) calm_put hS (by rfl) ?_ ?_
      rotate_left
      · intro W hW; clear hW; go_simp; try (with_reducible rfl)
      simp only [Act.put, List.getElem_toArray, List.getElem_cons_succ, List.getElem_cons_zero, List.setIfInBounds_toArray, List.set_cons_zero, List.set_cons_succ]
      refine wpAnyE_one (i := 6) (listed' := #[true, true, true, true, true, true, true, false]) (by rfl) (by kernel_rfl) (by kernel_rfl) (by rfl) (fun K hK => ?_)
      simp only [Act.put, List.getElem_toArray, List.getElem_cons_succ, List.getElem_cons_zero, List.setIfInBounds_toArray, List.set_cons_zero, List.set_cons_succ]
      go_wp2_with fail
      refine Calls.mono (HSC.out _ (Kept.refl w5).drew) ?_
      rintro e w6 ⟨g1, cap, rest, rfl, hb6, hg6, hc6, _, hk6⟩
      have hk56 : Kept w5 w6 := (Kept.refl w5).drew.trans hk6
      have hgg : w5.heap.size ≤ g1 := hg6
      have HB6 := Lib.hid hb6
      have HC6 := Lib.hid hc6
      have HI6 := Lib.hid (HI5.out.kept hk56)
      clear hS
      have hS := hk56.cell' HCP.out
      clear hb6 hc6 hk6 hg6
      refine hK _ _ (fun _ => hS) ?_; clear hK K
      refine wpAnyE_one (i := 7) (listed' := #[true, true, true, true, true, true, true, true]) (by rfl) (by kernel_rfl) (by kernel_rfl) (by rfl) (fun K hK => ?_)
      simp only [Act.put, List.getElem_toArray, List.getElem_cons_succ, List.getElem_cons_zero, List.setIfInBounds_toArray, List.set_cons_zero, List.set_cons_succ]
      refine wp_update_im _ _ _ (by rfl) Try.underlying118 Try.underlying3 (by rfl) n (by rfl) (.slice (some ⟨g1, 0, none⟩) l.length cap) (by rfl) HI6.out ?_
      intro o' hi7
      rw [copG_more HGN.out HC6.out] at hi7
      have hbt := But.block1 w6 g2 o'
      have hS := hbt.cell (p := ⟨g2 + 2, 0, none⟩) (show ¬ (g2 + 2 = g2) by omega) hS
      refine hK _ _ (fun _ => hS) ?_; clear hK K
      refine wpAnyE_done (by kernel_rfl) ?_ _
      refine calm_normal ?_
      have HU7 := Lib.hid ((HU5.out.trans' (But.kept (S := fun k => k = g2) hk56) fun i hi => .inl hi).trans' hbt fun i hi => .inl hi)
      have hcm := HC5.out.more hk56 HGN.out HDN.out HB6.out hgg (Nat.le_trans (Nat.le_of_eq hs3.symm) HU5.out.size)
      have HC7 := Lib.hid (hcm.same fun x hd hx => hbt.block _ (hcm.lt hd hx) (fun e => by have := hcm.lo x hd hx; omega))
      have hr7 := (HR5.out.kept hk56).same (hbt.block _ (HR5.out.kept hk56).map.lt (fun e => by have := HT.out.slt g HT.out.sg; omega)) (hbt.block _ (HR5.out.kept hk56).lt (fun e => by omega))
      have HL7 := Lib.hid (((HR5.out.kept hk56).left_same (hbt.block _ (HR5.out.kept hk56).map.lt (fun e => by have := HT.out.slt g HT.out.sg; omega)) (hbt.block _ (HR5.out.kept hk56).lt (fun e => by omega))).trans (HR5.out.left_same (hk56.block_eq HR5.out.map.lt) (hk56.block_eq HR5.out.lt)))
      have HR7 := Lib.hid hr7
      have HI7 := Lib.hid hi7
      generalize ChangeMaps.setBlock w6 g2 o' = w7 at *
      clear hS hbt hcm hr7 hi7 HI5 HR5 HC5 HU5 HI6 HSC HCP
      go_frame
      go_wp2
      go_roundw
      case rel => exact ⟨_, _, _, HR7, HI7, HC7, HU7⟩
      case measure => exact Nat.lt_of_le_of_lt (Nat.le_of_eq HL7.out) HLT5.out
end
end Go.Proofs.Ytglplhmclfekfaa
