/- ref14: Open. -/
import Derived.Test.YtglplhmclfekfaaUrd
namespace Go.Proofs.Ytglplhmclfekfaa
open Go.RowKit
set_option linter.unusedVariables false
set_option linter.unusedSimpArgs false

/-- a table's Open, whole -/
def openI (T : Tab) (n z : Int) : Int × Tab := if n < 0 ∨ z < 1 ∨ 4096 < z then (1, T) else match T.sz n with | some _ => (9, T) | none => (0, T.open_ n z.toNat)
theorem openI_bad {T : Tab} {n z : Int} (h : n < 0 ∨ z < 1 ∨ 4096 < z) : openI T n z = (1, T) := by unfold openI; rw [if_pos h]
theorem openI_some {T : Tab} {n z : Int} (h : ¬ (n < 0 ∨ z < 1 ∨ 4096 < z)) {k : Nat} (hz : T.sz n = some k) : openI T n z = (9, T) := by unfold openI; rw [if_neg h, hz]
theorem openI_none {T : Tab} {n z : Int} (h : ¬ (n < 0 ∨ z < 1 ∨ 4096 < z)) (hz : T.sz n = none) : openI T n z = (0, T.open_ n z.toNat) := by unfold openI; rw [if_neg h, hz]
theorem Tab.sz_none {T : Tab} {n : Int} : T.sz n = none ↔ T.g n = none := by unfold Tab.sz; cases T.g n <;> simp
theorem Tab.Ok.size {T : Tab} (h : T.Ok) {n : Int} {k : Nat} (hz : T.sz n = some k) : 0 < k ∧ k ≤ 4096 := by
  unfold Tab.sz at hz
  cases hg : T.g n with
  | none => rw [hg] at hz; cases hz
  | some l => rw [hg] at hz; injection hz with hz; rw [← hz]; exact h.len n l hg
section
variable {w W W' : World} {q c : Nat} {G G' : UG} {L L' : UL} {T T' : Tab} {vg vl vg' vl' : Value}
set_option maxHeartbeats 2000000
set_option maxRecDepth 100000
theorem ur_Open_arg (q : Nat) (n z : Int) (w : World) (h : n < 0 ∨ z < 1 ∨ 4096 < z) :
    Calls Try.prog 77 #[.pointer (some ⟨q, 0, none⟩), .int .i64 n, .int .i64 z] w fun e w' => e = .returned (.int .i64 1) ∧ w = w' := by
  have h' : n < 0 ∨ (0 ≤ n ∧ z < 1) ∨ (0 ≤ n ∧ 1 ≤ z ∧ 4096 < z) := by omega
  clear h
  rcases h' with h1 | ⟨h1, h2⟩ | ⟨h1, h2, h3⟩
  all_goals
    go_enter Try.func77, Try.ntmps77
    go_wp2
    go_ret
    exact ⟨rfl, rfl⟩
theorem ur_Open (h : UX w q G L T c vg vl) (hc : c < 10000) (n z : Int) (hn1 : n ≤ 9223372036854775807) : Calls Try.prog 77 #[.pointer (some ⟨q, 0, none⟩), .int .i64 n, .int .i64 z] w fun e w' => e = .returned (.int .i64 (openI T n z).1) ∧ ∃ G' L' vg' vl', UX w' q G' L' (openI T n z).2 (c + 1) vg' vl' ∧ But (InU q vg vl) w w' ∧ ∀ b, InU q vg' vl' b → InU q vg vl b ∨ w.heap.size ≤ b := by
  have hst : ∃ G' L' vg' vl', UX w q G' L' T (c + 1) vg' vl' ∧ But (InU q vg vl) w w ∧ ∀ b, InU q vg' vl' b → InU q vg vl b ∨ w.heap.size ≤ b := ⟨G, L, vg, vl, ⟨h.ud, h.ur, h.ok, by have := h.gl; omega, by have := h.ll; omega⟩, But.refl _ _, fun b hb => .inl hb⟩
  by_cases hbad : n < 0 ∨ z < 1 ∨ 4096 < z
  · rw [openI_bad hbad]
    exact (ur_Open_arg q n z w hbad).mono fun e w' ⟨he, hw⟩ => ⟨he, hw ▸ hst⟩
  · have HST := Lib.hid hst
    have HS := Lib.hid (ur_Slots h (by omega) n)
    have hr : 0 ≤ n ∧ 1 ≤ z ∧ z ≤ 4096 := by omega
    cases hz : T.sz n with
    | some k =>
      have HP := Lib.hid (openI_some hbad hz)
      have hk := (h.ok.size hz).1
      have e1 : szI T n = (k : Int) := by unfold szI; rw [hz]
      rw [e1] at HS
      obtain ⟨h0, h1, h2⟩ := hr
      clear h hst hbad hz e1
      go_enter Try.func77, Try.ntmps77
      go_wp2_with fail
      refine Calls.mono HS.out ?_
      rintro e w1 ⟨rfl, rfl⟩
      go_wp2
      go_ret
      rw [HP.out]
      exact ⟨rfl, HST.out⟩
    | none =>
      have HP := Lib.hid (openI_none hbad hz)
      rw [szI_none hz] at HS
      have hg := Tab.sz_none.1 hz
      obtain ⟨h0, h1, h2⟩ := hr
      have HUR := Lib.hid (h.ur.open_ (N := z.toNat) hg h0 hn1)
      have HOK := Lib.hid (h.ok.open_ hg (by omega : 1 ≤ z.toNat) (by omega))
      rw [Int.toNat_of_nonneg (by omega : 0 ≤ z)] at HUR
      have hgl := h.gl
      have c0 := h.ud.c0
      obtain ⟨ao2, cap2, hv2⟩ := h.ud.formG
      have hk4 := (Kept.refl w).alloc (Obj.cells #[Value.int .i64 n, .int .i64 z] 172)
      have hb4 := heap_alloc_new w (Obj.cells #[Value.int .i64 n, .int .i64 z] 172)
      have hd4 := h.ud.kept hk4
      obtain ⟨v', w5, hrun, hown, hgrw⟩ := own_append ty_grps hd4.gr (by omega) (by decide) [Value.int .i64 n, .int .i64 z] rfl (b := w.heap.size) (fun j u hu => by rw [cell_of_row _ _ j _ _ _ hb4]; simpa using hu) (by intro u hu; simp at hu; rcases hu with rfl | rfl <;> rfl) 122
      obtain ⟨ao', cap', hv'⟩ := own_form hown
      have hbut : But (fun k => vg.ownBlock = some k ∨ vl.ownBlock = some k) w w5 := by
        rcases hgrw with ⟨_, hb⟩ | ⟨_, _, _, _, hb⟩
        · exact (But.kept hk4).trans' hb fun i hi => .inl (.inl hi)
        · exact But.kept (hk4.trans hb)
      have hgn : ∀ B, v'.ownBlock = some B → vg.ownBlock = some B ∨ w.heap.size ≤ B := fun B hB => by
        rcases hgrw with ⟨he, _⟩ | ⟨g, hg', hge, _⟩
        · exact .inl (he ▸ hB)
        · rw [hg'] at hB; injection hB with hB; subst hB; exact .inr (Nat.le_trans hk4.size hge)
      have hlw : w5.ownsRow 0 175 3 vl L.length (lV L) := by
        refine own_same hd4.lr fun B hB => ?_
        refine hgrw.blk (own_lt hd4.lr hB) fun e => ?_
        obtain ⟨c1, hc1⟩ := own_typeU hd4.lr hB
        obtain ⟨c2, hc2⟩ := own_typeU hd4.gr e
        rw [hc1] at hc2
        injection hc2 with hc2; injection hc2 with _ h2
        exact absurd h2 (by decide)
      have htop : w5.heap[q]? = some (.cells [vg, vl].toArray 125 (0, 0)) := (hgrw.blk (hd4.lt (.inl rfl)) hd4.ne.1).trans hd4.top
      have HV' := Lib.hid hv'
      have HBUT := Lib.hid hbut
      have HGN := Lib.hid hgn
      have HLW := Lib.hid hlw
      have HOWN : Hid (w5.ownsRow 0 172 2 v' (G ++ [(n, z)]).length (gV (G ++ [(n, z)]))) := Lib.hid (by rw [gV_app, List.length_append]; exact hown)
      rw [hv2] at hrun c0
      have HV2 := Lib.hid hv2
      have HRUN := Lib.hid hrun
      have HT5 := Lib.hid htop
      have H := Lib.hid h
      clear h hst hbad hz hg hk4 hb4 hd4 hrun hown hgrw hv' hbut hgn hlw htop hv2 HST
      go_enter Try.func77, Try.ntmps77
      go_wp2_with fail
      refine Calls.mono HS.out ?_
      rintro e w1 ⟨rfl, rfl⟩
      go_wp2_with (refine stop_at (o := ⟨some 30, _, _, _, _, _⟩) ?_)
      refine Stop.mk ?_
      refine wpList_plain rfl fun K hK => ?_
      refine wp_append_runU rfl rfl rfl HRUN.out ?_
      refine hK _ _ ?_
      clear hK K HRUN
      go_wp2_with (refine stop_at (o := ⟨none, .store _ _ _, _, _, _, _⟩) ?_)
      refine Stop.mk ?_
      refine wpList_set_cell rfl _ _ rfl size_grps q 0 rfl v' rfl (by rw [HV'.out]; rfl) (by rw [HV'.out]; rfl) [vg, vl] _ HT5.out (by simp) ?_
      intro w6 hw6
      have hw6 : Wrote w5 w6 q [v', vl] 125 := hw6
      have ht := UD.turn (G' := G ++ [(n, z)]) (L' := L) H.out.ud HBUT.out HOWN.out HLW.out HGN.out (fun B hB => .inl hB) hw6
      have HR := Lib.hid ht
      clear ht hw6
      go_wp2
      go_ret
      rw [HP.out]
      exact ⟨rfl, _, L, v', vl, ⟨HR.out.1, HUR.out, HOK.out, by rw [List.length_append]; simp; omega, by have := H.out.ll; omega⟩, HR.out.2.1, HR.out.2.2⟩
end
end Go.Proofs.Ytglplhmclfekfaa
