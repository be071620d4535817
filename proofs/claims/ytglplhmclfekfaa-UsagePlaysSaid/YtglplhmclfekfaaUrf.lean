/- ref14: Drop. -/
import Derived.Test.YtglplhmclfekfaaUre
namespace Go.Proofs.Ytglplhmclfekfaa
open Go.RowKit
set_option linter.unusedVariables false
set_option linter.unusedSimpArgs false

def dropI (T : Tab) (n : Int) : Int × Tab := match T.sz n with | some _ => (0, T.drop n) | none => (8, T)
abbrev UG.but (G : UG) (n : Int) : UG := G.filter fun p => decide (p.1 ≠ n)
section
variable {G : UG} {n : Int} {k : Nat}
theorem UG.but_keep (hk : k < G.length) (h : G[k].1 ≠ n) : UG.but (G.take (k + 1)) n = UG.but (G.take k) n ++ [G[k]] := by
  unfold UG.but
  rw [List.take_add_one, List.getElem?_eq_getElem hk, List.filter_append]
  simp only [Option.toList_some, List.filter_cons, List.filter_nil, decide_eq_true h, if_true]
theorem UG.but_skip (hk : k < G.length) (h : G[k].1 = n) : UG.but (G.take (k + 1)) n = UG.but (G.take k) n := by
  unfold UG.but
  rw [List.take_add_one, List.getElem?_eq_getElem hk, List.filter_append]
  have h2 : decide (G[k].1 ≠ n) = false := decide_eq_false fun h' => h' h
  simp only [Option.toList_some, List.filter_cons, List.filter_nil, h2]
  simp
theorem UG.but_le (k : Nat) : (UG.but (G.take k) n).length ≤ k := Nat.le_trans (List.length_filter_le _ _) (by rw [List.length_take]; omega)
theorem UG.but_len : (UG.but G n).length ≤ G.length := List.length_filter_le _ _
end
theorem cells2 {w : World} {b off : Nat} {x y : Value} (h0 : w.cell? ⟨b, off, none⟩ = some x) (h1 : w.cell? ⟨b, off + 1, none⟩ = some y) : Cells w b off [x, y] := fun j hj => by
  rcases j with _ | _ | j
  · exact h0
  · exact h1
  · simp at hj; omega
section
variable {w W W' : World} {q c : Nat} {G G' : UG} {L L' : UL} {T T' : Tab} {vg vl vg' vl' : Value}
theorem Tab.Ok.size_pos (h : T.Ok) {n : Int} {k : Nat} (hz : T.sz n = some k) : 0 < szI T n := by
  have := (h.size hz).1
  unfold szI; rw [hz]; show (0 : Int) < (k : Int); omega
set_option maxHeartbeats 2000000
set_option maxRecDepth 100000
theorem ur_Drop (h : UX w q G L T c vg vl) (hc : c < 10000) (n : Int) : Calls Try.prog 78 #[.pointer (some ⟨q, 0, none⟩), .int .i64 n] w fun e w' => e = .returned (.int .i64 (dropI T n).1) ∧ ∃ G' L' vg' vl', UX w' q G' L' (dropI T n).2 (c + 1) vg' vl' ∧ But (InU q vg vl) w w' ∧ ∀ b, InU q vg' vl' b → InU q vg vl b ∨ w.heap.size ≤ b := by
  have hst : ∃ G' L' vg' vl', UX w q G' L' T (c + 1) vg' vl' ∧ But (InU q vg vl) w w ∧ ∀ b, InU q vg' vl' b → InU q vg vl b ∨ w.heap.size ≤ b := ⟨G, L, vg, vl, ⟨h.ud, h.ur, h.ok, by have := h.gl; omega, by have := h.ll; omega⟩, But.refl _ _, fun b hb => .inl hb⟩
  have HST := Lib.hid hst
  have HS := Lib.hid (ur_Slots h (by omega) n)
  cases hz : T.sz n with
  | none =>
    have HP : Hid (dropI T n = (8, T)) := Lib.hid (by unfold dropI; rw [hz])
    rw [szI_none hz] at HS
    clear h hst hz
    go_enter Try.func78, Try.ntmps78
    go_wp2_with fail
    refine Calls.mono HS.out ?_
    rintro e w1 ⟨rfl, rfl⟩
    go_wp2
    go_ret
    rw [HP.out]
    exact ⟨rfl, HST.out⟩
  | some z =>
    have HP : Hid (dropI T n = (0, T.drop n)) := Lib.hid (by unfold dropI; rw [hz])
    have hpos := h.ok.size_pos hz
    have HUR : Hid (UR (UG.but G n) (L.wout n (-1) (-1)) (T.drop n)) := Lib.hid (h.ur.drop (n := n))
    have HOK := Lib.hid (h.ok.drop n)
    have c0 := h.ud.c0
    obtain ⟨ao, cap, hv⟩ := h.ud.formG
    rw [hv] at c0
    have HV := Lib.hid hv
    have hgl := h.gl
    have H := Lib.hid h
    generalize szI T n = sz at *
    have hne : (sz == 0) = false := by simp; omega
    have HKA := Lib.hid ((Kept.refl w).alloc (Obj.cells #[] 172))
    have HOA := Lib.hid (own_made (sz := 2) (heap_alloc_new w (Obj.cells #[] 172)))
    clear h hst hz hv HST
    go_enter Try.func78, Try.ntmps78
    go_wp2_with fail
    refine Calls.mono HS.out ?_
    rintro e w1 ⟨rfl, rfl⟩
    clear HS
    go_wp2
    go_loopw [5, 6] (fun vv i wr => ∃ (v : Value) (k : Nat), v = vv ∧ k ≤ G.length ∧ i = .int .i64 k ∧ Hid (wr.ownsRow 0 172 2 v (UG.but (G.take k) n).length (gV (UG.but (G.take k) n))) ∧ Hid (Kept w wr) ∧ Hid (∀ B, v.ownBlock = some B → w.heap.size ≤ B)) (fun _ i _ => G.length - (intOf i).toNat)
    case atStart => exact ⟨_, 0, rfl, Nat.zero_le _, rfl, HOA, HKA, Lib.hid (fun B hB => by simp [Value.ownBlock] at hB; omega)⟩
    case round =>
      clear HOA HKA
      obtain ⟨v, k, rfl, hk, rfl, HO, HK, HN⟩ := hrel
      have c0r := HK.out.cell' c0
      by_cases hlt : k < G.length
      · obtain ⟨g, cap', hv', c1, c2⟩ := (H.out.ud.kept HK.out).atG hlt
        rw [HV.out] at hv'
        injection hv' with ha _ hcap
        subst ha
        clear hcap
        have HCS := Lib.hid (cells2 c1 c2)
        have HKEEP := Lib.hid (fun h => UG.but_keep (n := n) hlt h)
        have HSKIP := Lib.hid (fun h => UG.but_skip (n := n) hlt h)
        have HLE := Lib.hid (UG.but_le (G := G) (n := n) k)
        generalize G[k] = x at *
        obtain ⟨x1, x2⟩ := x
        simp only at HCS HKEEP HSKIP c1 c2
        generalize UG.but (G.take k) n = Gk at *
        by_cases hx : x1 = n
        · have HO2 : Hid (wr.ownsRow 0 172 2 v (UG.but (G.take (k + 1)) n).length (gV (UG.but (G.take (k + 1)) n))) := Lib.hid (by rw [HSKIP.out hx]; exact HO.out)
          subst hx
          clear HKEEP HSKIP HO
          go_wp2
          go_roundw
          case rel => exact ⟨_, k + 1, rfl, hlt, by go_num, HO2, HK, HN⟩
          case measure => simp [intOf]; omega
        · have k1 : (x1 == n) = false := by simpa using hx
          have HKEEP2 := Lib.hid (HKEEP.out hx)
          have hk4 := (Kept.refl wr).alloc (Obj.cells #[Value.int .i64 x1, .int .i64 x2] 172)
          have hb4 := heap_alloc_new wr (Obj.cells #[Value.int .i64 x1, .int .i64 x2] 172)
          have HO4 := Lib.hid (own_same HO.out fun g' hg' => hk4.block_eq (own_lt HO.out hg'))
          have hll := HLE.out
          obtain ⟨v', w5, hrun, hown, hgrw⟩ := own_append ty_grps HO4.out (by omega) (by decide) [Value.int .i64 x1, .int .i64 x2] rfl (b := wr.heap.size) (fun j u hu => by rw [cell_of_row _ _ j _ _ _ hb4]; simpa using hu) (by intro u hu; simp at hu; rcases hu with rfl | rfl <;> rfl) 122
          obtain ⟨hk5, hn5⟩ := hgrw.kept (HK.out.trans hk4) HN.out
          have HK5 := Lib.hid hk5
          have HN5 := Lib.hid hn5
          have HOWN : Hid (w5.ownsRow 0 172 2 v' (UG.but (G.take (k + 1)) n).length (gV (UG.but (G.take (k + 1)) n))) := Lib.hid (by rw [HKEEP2.out, gV_app, List.length_append]; exact hown)
          have HRUN := Lib.hid hrun
          clear hk4 hb4 HO4 hrun hown hgrw hk5 hn5 hll hx HKEEP HSKIP HKEEP2
          go_wp2_with (refine stop_at (o := ⟨some 38, _, _, _, _, _⟩) ?_)
          refine Stop.mk ?_
          refine wpList_load_agg rfl _ rfl ty_grp g (k * 2) rfl _ HCS.out rfl ?_
          go_wp2_with (refine stop_at (o := ⟨some 40, _, _, _, _, _⟩) ?_)
          refine Stop.mk ?_
          refine wpList_plain rfl fun K hK => ?_
          refine wp_append_runU rfl rfl rfl HRUN.out ?_
          refine hK _ _ ?_
          clear hK K HRUN
          go_wp2
          go_roundw
          case rel => exact ⟨_, k + 1, rfl, hlt, by go_num, HOWN, HK5, HN5⟩
          case measure => simp [intOf]; omega
      · have hkk : k = G.length := by omega
        subst hkk
        rw [List.take_length] at HO
        obtain ⟨ao2, cap2, hv2⟩ := own_form HO.out
        have HV2 := Lib.hid hv2
        have HD2 := Lib.hid (H.out.ud.kept HK.out)
        have HT2 := Lib.hid (show wr.heap[q]? = some (.cells [vg, vl].toArray 125 (0, 0)) from HD2.out.top)
        have hglen := UG.but_len (G := G) (n := n)
        generalize UG.but G n = Gn at *
        clear hv2
        go_wp2_with (refine stop_at (o := ⟨none, .store _ _ _, _, _, _, _⟩) ?_)
        refine Stop.mk ?_
        refine wpList_set_cell rfl _ _ rfl size_grps q 0 rfl v rfl (by rw [HV2.out]; rfl) (by rw [HV2.out]; rfl) [vg, vl] _ HT2.out (by simp) ?_
        intro w3 hw3
        have hw3 : Wrote wr w3 q [v, vl] 125 := hw3
        have ht := UD.turn (G' := Gn) (L' := L) H.out.ud (But.kept HK.out) HO.out HD2.out.lr (fun B hB => .inr (HN.out B hB)) (fun B hB => .inl hB) hw3
        have HR := Lib.hid ht
        clear ht hw3 HD2 HT2 c0r c0
        have hll := H.out.ll
        go_wp2_with fail
        refine Calls.mono (ur_without HR.out.1 (by omega) n (-1) (-1)) ?_
        rintro e w4 ⟨v4, rfl, ho4, hk4, hn4⟩
        have hwl := UL.wout_len L n (-1) (-1)
        generalize UL.wout L n (-1) (-1) = L1 at *
        obtain ⟨ao', cap', hv'⟩ := own_form ho4
        have HV' := Lib.hid hv'
        have HK4 := Lib.hid hk4
        have HN4 := Lib.hid hn4
        have HOWN := Lib.hid ho4
        have HD4 := Lib.hid (HR.out.1.kept hk4)
        have HT4 := Lib.hid (show w4.heap[q]? = some (.cells [v, vl].toArray 125 (0, 0)) from HD4.out.top)
        clear hk4 hn4 ho4 hv'
        go_wp2_with (refine stop_at (o := ⟨none, .store _ _ _, _, _, _, _⟩) ?_)
        refine Stop.mk ?_
        refine wpList_set_cell rfl _ _ rfl size_livs q 1 rfl v4 rfl (by rw [HV'.out]; rfl) (by rw [HV'.out]; rfl) [v, vl] _ HT4.out (by simp) ?_
        intro w6 hw6
        have hw6 : Wrote w4 w6 q [v, v4] 125 := hw6
        have ht := UD.turn (G' := Gn) (L' := L1) HR.out.1 (But.kept HK4.out) HD4.out.gr HOWN.out (fun B hB => .inl hB) (fun B hB => .inr (HN4.out B hB)) hw6
        have HR2 := Lib.hid ht
        clear ht hw6
        have hsz := HR.out.2.1.size
        go_wp2
        go_ret
        rw [HP.out]
        refine ⟨rfl, Gn, L1, v, v4, ⟨HR2.out.1, HUR.out, HOK.out, by omega, by omega⟩, HR.out.2.1.trans' HR2.out.2.1 (fun b hb => HR.out.2.2 b hb), fun b hb => ?_⟩
        rcases HR2.out.2.2 b hb with h1 | h1
        · exact HR.out.2.2 b h1
        · exact .inr (Nat.le_trans hsz h1)
end
end Go.Proofs.Ytglplhmclfekfaa
