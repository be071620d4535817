/- ref14: Put, Clear. -/
import Derived.Test.YtglplhmclfekfaaUrc
namespace Go.Proofs.Ytglplhmclfekfaa
open Go.RowKit
set_option linter.unusedVariables false
set_option linter.unusedSimpArgs false

theorem size_livs : (Try.prog.info? 123).map (·.size) = some 1 := by kernel_rfl
theorem size_grps : (Try.prog.info? 122).map (·.size) = some 1 := by kernel_rfl
section
variable {w W W' : World} {q c : Nat} {G G' : UG} {L L' : UL} {T T' : Tab} {vg vl vg' vl' : Value}
theorem UD.ne (h : UD w q G L vg vl) : vg.ownBlock ≠ some q ∧ vl.ownBlock ≠ some q := by
  constructor
  · intro e
    obtain ⟨cur, hc⟩ := own_typeU h.gr e
    rw [h.top] at hc
    injection hc with hc; injection hc with _ h2
    exact absurd h2 (by decide)
  · intro e
    obtain ⟨cur, hc⟩ := own_typeU h.lr e
    rw [h.top] at hc
    injection hc with hc; injection hc with _ h2
    exact absurd h2 (by decide)
/-- one or both of its slices turn -/
theorem UD.turn (h : UD w q G L vg vl) (hb : But (fun k => vg.ownBlock = some k ∨ vl.ownBlock = some k) w W) (hg : W.ownsRow 0 172 2 vg' G'.length (gV G')) (hl : W.ownsRow 0 175 3 vl' L'.length (lV L'))
    (hgn : ∀ B, vg'.ownBlock = some B → vg.ownBlock = some B ∨ w.heap.size ≤ B) (hln : ∀ B, vl'.ownBlock = some B → vl.ownBlock = some B ∨ w.heap.size ≤ B) (hw : Wrote W W' q [vg', vl'] 125) :
    UD W' q G' L' vg' vl' ∧ But (InU q vg vl) w W' ∧ ∀ b, InU q vg' vl' b → InU q vg vl b ∨ w.heap.size ≤ b := by
  have hq := h.lt (b := q) (.inl rfl)
  have hne := h.ne
  have h1 : ∀ B, vg'.ownBlock = some B → B ≠ q := fun B hB e => by
    rcases hgn B hB with h' | h'
    · exact hne.1 (e ▸ h')
    · omega
  have h2 : ∀ B, vl'.ownBlock = some B → B ≠ q := fun B hB e => by
    rcases hln B hB with h' | h'
    · exact hne.2 (e ▸ h')
    · omega
  refine ⟨⟨hw.blk, own_same hg fun B hB => hw.oth B (h1 B hB), own_same hl fun B hB => hw.oth B (h2 B hB)⟩, ?_, fun b hb' => ?_⟩
  · refine But.trans' (hb.mono fun k hk => .inr hk) (But.wrote (S := InU q vg vl) hw (.inl rfl)) fun k hk => .inl hk
  · rcases hb' with h' | h' | h'
    · exact .inl (.inl h')
    · exact (hgn b h').imp (fun h => .inr (.inl h)) id
    · exact (hln b h').imp (fun h => .inr (.inr h)) id
/-- a table's Put, whole -/
def putI (T : Tab) (n s b : Int) : Int × Tab := if inI T n s ≠ 0 then (inI T n s, T) else if b < 0 then (1, T) else if (blkI T n s).2 then (9, T) else (0, T.put n s.toNat b)
def clearI (T : Tab) (n s : Int) : Int × Tab := if inI T n s ≠ 0 then (inI T n s, T) else if (blkI T n s).2 then (0, T.clear n s.toNat (blkI T n s).1) else (9, T)
theorem inI_zero {n s : Int} (h : inI T n s = 0) : ∃ l, T.g n = some l ∧ 0 ≤ s ∧ s < l.length := by
  unfold inI Tab.sz at h
  cases hg : T.g n with
  | none => rw [hg] at h; simp at h
  | some l =>
    rw [hg] at h
    simp only [Option.map_some] at h
    by_cases hc : s < 0 ∨ (l.length : Int) ≤ s
    · rw [if_pos hc] at h; omega
    · exact ⟨l, rfl, by omega, by omega⟩
theorem blkI_dead {n s : Int} (h : inI T n s = 0) (hb : (blkI T n s).2 = false) : T.slot n s.toNat = some (-1) := by
  obtain ⟨l, hl, h0, h1⟩ := inI_zero h
  have hi : s.toNat < l.length := by omega
  have hs : T.slot n s.toNat = some l[s.toNat] := by rw [Tab.slot_of hl, List.getElem?_eq_getElem hi]
  unfold blkI at hb
  rw [if_pos h0, hs] at hb
  simp only at hb
  split at hb
  · rename_i e; rw [hs, e]
  · cases hb
theorem blkI_live {n s : Int} (hb : (blkI T n s).2 = true) : 0 ≤ s ∧ T.slot n s.toNat = some (blkI T n s).1 ∧ (blkI T n s).1 ≠ -1 := by
  unfold blkI at hb ⊢
  split at hb
  · rename_i h0
    rw [if_pos h0]
    split at hb
    · rename_i b hs
      split at hb
      · cases hb
      · rename_i hb1
        rw [hs]; simp [hb1, h0]
    · cases hb
  · cases hb
set_option maxHeartbeats 2000000
set_option maxRecDepth 100000
theorem ur_Put (h : UX w q G L T c vg vl) (hc : c < 10000) (n s b : Int) : Calls Try.prog 79 #[.pointer (some ⟨q, 0, none⟩), .int .i64 n, .int .i64 s, .int .i64 b] w fun e w' => e = .returned (.int .i64 (putI T n s b).1) ∧ ∃ G' L' vg' vl', UX w' q G' L' (putI T n s b).2 (c + 1) vg' vl' ∧ But (InU q vg vl) w w' ∧ ∀ b, InU q vg' vl' b → InU q vg vl b ∨ w.heap.size ≤ b := by
  have HI := Lib.hid (ur_in h (by omega) n s)
  have hst : ∃ G' L' vg' vl', UX w q G' L' T (c + 1) vg' vl' ∧ But (InU q vg vl) w w ∧ ∀ b, InU q vg' vl' b → InU q vg vl b ∨ w.heap.size ≤ b := ⟨G, L, vg, vl, ⟨h.ud, h.ur, h.ok, by have := h.gl; omega, by have := h.ll; omega⟩, But.refl _ _, fun b hb => .inl hb⟩
  have HST := Lib.hid hst
  by_cases hi : inI T n s = 0
  · rw [hi] at HI
    by_cases hb : b < 0
    · have HP : Hid (putI T n s b = (1, T)) := Lib.hid (by unfold putI; rw [if_neg (by simp [hi]), if_pos hb])
      clear h hst hi
      go_enter Try.func79, Try.ntmps79
      go_wp2_with fail
      refine Calls.mono HI.out ?_
      rintro e w1 ⟨rfl, rfl⟩
      go_wp2
      go_ret
      rw [HP.out]
      exact ⟨rfl, HST.out⟩
    · have HB := Lib.hid (ur_Block h (by omega) n s)
      cases hd : (blkI T n s).2 with
      | true =>
        have HP : Hid (putI T n s b = (9, T)) := Lib.hid (by unfold putI; rw [if_neg (by simp [hi]), if_neg hb, if_pos hd])
        rw [hd] at HB
        clear h hst hi hd
        go_enter Try.func79, Try.ntmps79
        go_wp2_with fail
        refine Calls.mono HI.out ?_
        rintro e w1 ⟨rfl, rfl⟩
        go_wp2_with fail
        refine Calls.mono HB.out ?_
        rintro e w1 ⟨rfl, rfl⟩
        go_wp2
        go_ret
        rw [HP.out]
        exact ⟨rfl, HST.out⟩
      | false =>
        have HP : Hid (putI T n s b = (0, T.put n s.toNat b)) := Lib.hid (by unfold putI; rw [if_neg (by simp [hi]), if_neg hb, if_neg (by simp [hd])])
        have hsl := blkI_dead hi hd
        have h0 : 0 ≤ s := by obtain ⟨_, _, h0, _⟩ := inI_zero hi; exact h0
        have HUR := Lib.hid (h.ur.put h.ok hsl (by omega : 0 ≤ b))
        rw [Int.toNat_of_nonneg h0] at HUR
        have HOK := Lib.hid (h.ok.put hsl (by omega : 0 ≤ b))
        have hll := h.ll
        have HW := Lib.hid (ur_without h.ud (by omega) (-1) (-1) b)
        have H := Lib.hid h
        rw [hd] at HB
        clear h hst hi hd hsl h0 HST
        have hwl := UL.wout_len L (-1) (-1) b
        generalize UL.wout L (-1) (-1) b = L1 at *
        go_enter Try.func79, Try.ntmps79
        go_wp2_with fail
        refine Calls.mono HI.out ?_
        rintro e w1 ⟨rfl, rfl⟩
        go_wp2_with fail
        refine Calls.mono HB.out ?_
        rintro e w1 ⟨rfl, rfl⟩
        go_wp2_with fail
        refine Calls.mono HW.out ?_
        rintro e w2 ⟨v, rfl, ho2, hk2, hn2⟩
        have hk4 := (Kept.refl w2).alloc (Obj.cells #[Value.int .i64 n, .int .i64 s, .int .i64 b] 175)
        have hb4 := heap_alloc_new w2 (Obj.cells #[Value.int .i64 n, .int .i64 s, .int .i64 b] 175)
        have ho4 := own_same ho2 fun g' hg' => hk4.block_eq (own_lt ho2 hg')
        obtain ⟨ao2, cap2, hv2⟩ := own_form ho2
        obtain ⟨v', w5, hrun, hown, hgrw⟩ := own_append ty_livs ho4 (by omega) (by decide) [Value.int .i64 n, .int .i64 s, .int .i64 b] rfl (b := w2.heap.size) (fun j u hu => by rw [cell_of_row _ _ j _ _ _ hb4]; simpa using hu) (by intro u hu; simp at hu; rcases hu with rfl | rfl | rfl <;> rfl) 123
        obtain ⟨hk5, hn5⟩ := hgrw.kept (hk2.trans hk4) hn2
        subst hv2
        obtain ⟨ao', cap', hv'⟩ := own_form hown
        have HV' := Lib.hid hv'
        have HK5 := Lib.hid hk5
        have HN5 := Lib.hid hn5
        have HOWN : Hid (w5.ownsRow 0 175 3 v' (L1 ++ [(n, s, b)]).length (lV (L1 ++ [(n, s, b)]))) := Lib.hid (by rw [lV_app, List.length_append]; exact hown)
        have HRUN := Lib.hid hrun
        have HD5 := Lib.hid (H.out.ud.kept hk5)
        have HT5 := Lib.hid (show w5.heap[q]? = some (.cells [vg, vl].toArray 125 (0, 0)) from HD5.out.top)
        clear hk2 hn2 ho2 hk4 hb4 ho4 hrun hown hgrw hk5 hn5 hv' HI HB HW
        go_wp2_with (refine stop_at (o := ⟨some 38, _, _, _, _, _⟩) ?_)
        refine Stop.mk ?_
        refine wpList_plain rfl fun K hK => ?_
        refine wp_append_runU rfl rfl rfl HRUN.out ?_
        refine hK _ _ ?_
        clear hK K HRUN
        go_wp2_with (refine stop_at (o := ⟨none, .store _ _ _, _, _, _, _⟩) ?_)
        refine Stop.mk ?_
        refine wpList_set_cell rfl _ _ rfl size_livs q 1 rfl v' rfl (by rw [HV'.out]; rfl) (by rw [HV'.out]; rfl) [vg, vl] _ HT5.out (by simp) ?_
        intro w6 hw6
        have hw6 : Wrote w5 w6 q [vg, v'] 125 := hw6
        have ht := UD.turn (G' := G) (L' := L1 ++ [(n, s, b)]) H.out.ud (But.kept HK5.out) HD5.out.gr HOWN.out (fun B hB => .inl hB) (fun B hB => .inr (HN5.out B hB)) hw6
        have HR := Lib.hid ht
        clear ht hw6
        go_wp2
        go_ret
        rw [HP.out]
        exact ⟨rfl, G, _, vg, v', ⟨HR.out.1, HUR.out, HOK.out, by have := H.out.gl; omega, by rw [List.length_append]; simp; omega⟩, HR.out.2.1, HR.out.2.2⟩
  · have HP : Hid (putI T n s b = (inI T n s, T)) := Lib.hid (by unfold putI; rw [if_pos hi])
    have hx : (inI T n s == 0) = false := by simpa using hi
    generalize inI T n s = x at *
    clear h hst hi
    go_enter Try.func79, Try.ntmps79
    go_wp2_with fail
    refine Calls.mono HI.out ?_
    rintro e w1 ⟨rfl, rfl⟩
    go_wp2
    go_ret
    rw [HP.out]
    exact ⟨rfl, HST.out⟩
theorem ur_Clear (h : UX w q G L T c vg vl) (hc : c < 10000) (n s : Int) : Calls Try.prog 80 #[.pointer (some ⟨q, 0, none⟩), .int .i64 n, .int .i64 s] w fun e w' => e = .returned (.int .i64 (clearI T n s).1) ∧ ∃ G' L' vg' vl', UX w' q G' L' (clearI T n s).2 (c + 1) vg' vl' ∧ But (InU q vg vl) w w' ∧ ∀ b, InU q vg' vl' b → InU q vg vl b ∨ w.heap.size ≤ b := by
  have HI := Lib.hid (ur_in h (by omega) n s)
  have hst : ∃ G' L' vg' vl', UX w q G' L' T (c + 1) vg' vl' ∧ But (InU q vg vl) w w ∧ ∀ b, InU q vg' vl' b → InU q vg vl b ∨ w.heap.size ≤ b := ⟨G, L, vg, vl, ⟨h.ud, h.ur, h.ok, by have := h.gl; omega, by have := h.ll; omega⟩, But.refl _ _, fun b hb => .inl hb⟩
  have HST := Lib.hid hst
  by_cases hi : inI T n s = 0
  · rw [hi] at HI
    have HB := Lib.hid (ur_Block h (by omega) n s)
    cases hd : (blkI T n s).2 with
    | false =>
      have HP : Hid (clearI T n s = (9, T)) := Lib.hid (by unfold clearI; rw [if_neg (by simp [hi]), if_neg (by simp [hd])])
      rw [hd] at HB
      clear h hst hi hd
      go_enter Try.func80, Try.ntmps80
      go_wp2_with fail
      refine Calls.mono HI.out ?_
      rintro e w1 ⟨rfl, rfl⟩
      go_wp2_with fail
      refine Calls.mono HB.out ?_
      rintro e w1 ⟨rfl, rfl⟩
      go_wp2
      go_ret
      rw [HP.out]
      exact ⟨rfl, HST.out⟩
    | true =>
      have HP : Hid (clearI T n s = (0, T.clear n s.toNat (blkI T n s).1)) := Lib.hid (by unfold clearI; rw [if_neg (by simp [hi]), if_pos hd])
      obtain ⟨h0, hsl, hb1⟩ := blkI_live hd
      have HUR := Lib.hid (h.ur.clear h.ok hsl hb1)
      rw [Int.toNat_of_nonneg h0] at HUR
      have HOK := Lib.hid (h.ok.clear hsl hb1)
      have hll := h.ll
      have HW := Lib.hid (ur_without h.ud (by omega) n s (-1))
      have H := Lib.hid h
      rw [hd] at HB
      clear h hst hi hd hsl h0 hb1 HST
      have hwl := UL.wout_len L n s (-1)
      generalize UL.wout L n s (-1) = L1 at *
      go_enter Try.func80, Try.ntmps80
      go_wp2_with fail
      refine Calls.mono HI.out ?_
      rintro e w1 ⟨rfl, rfl⟩
      go_wp2_with fail
      refine Calls.mono HB.out ?_
      rintro e w1 ⟨rfl, rfl⟩
      go_wp2_with fail
      refine Calls.mono HW.out ?_
      rintro e w2 ⟨v, rfl, ho2, hk2, hn2⟩
      obtain ⟨ao', cap', hv'⟩ := own_form ho2
      have HV' := Lib.hid hv'
      have HK2 := Lib.hid hk2
      have HN2 := Lib.hid hn2
      have HOWN := Lib.hid ho2
      have HD2 := Lib.hid (H.out.ud.kept hk2)
      have HT2 := Lib.hid (show w2.heap[q]? = some (.cells [vg, vl].toArray 125 (0, 0)) from HD2.out.top)
      clear hk2 hn2 ho2 hv' HI HB HW
      go_wp2_with (refine stop_at (o := ⟨none, .store _ _ _, _, _, _, _⟩) ?_)
      refine Stop.mk ?_
      refine wpList_set_cell rfl _ _ rfl size_livs q 1 rfl v rfl (by rw [HV'.out]; rfl) (by rw [HV'.out]; rfl) [vg, vl] _ HT2.out (by simp) ?_
      intro w6 hw6
      have hw6 : Wrote w2 w6 q [vg, v] 125 := hw6
      have ht := UD.turn (G' := G) (L' := L1) H.out.ud (But.kept HK2.out) HD2.out.gr HOWN.out (fun B hB => .inl hB) (fun B hB => .inr (HN2.out B hB)) hw6
      have HR := Lib.hid ht
      clear ht hw6
      go_wp2
      go_ret
      rw [HP.out]
      exact ⟨rfl, G, _, vg, v, ⟨HR.out.1, HUR.out, HOK.out, by have := H.out.gl; omega, by omega⟩, HR.out.2.1, HR.out.2.2⟩
  · have HP : Hid (clearI T n s = (inI T n s, T)) := Lib.hid (by unfold clearI; rw [if_pos hi])
    have hx : (inI T n s == 0) = false := by simpa using hi
    generalize inI T n s = x at *
    clear h hst hi
    go_enter Try.func80, Try.ntmps80
    go_wp2_with fail
    refine Calls.mono HI.out ?_
    rintro e w1 ⟨rfl, rfl⟩
    go_wp2
    go_ret
    rw [HP.out]
    exact ⟨rfl, HST.out⟩
end
end Go.Proofs.Ytglplhmclfekfaa
