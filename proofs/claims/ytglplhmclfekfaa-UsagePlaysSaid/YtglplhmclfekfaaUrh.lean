/- ref14: Blocks, Hole, Emptiest. -/
import Derived.Test.YtglplhmclfekfaaUrg
namespace Go.Proofs.Ytglplhmclfekfaa
open Go.RowKit
set_option linter.unusedVariables false
set_option linter.unusedSimpArgs false

/-- a group's blocks -/
def blksI (T : Tab) (n : Int) : List Int := match T.g n with | some l => liveL l | none => []
def holeI (T : Tab) (n : Int) : Int × Bool := match T.g n with | some l => if idxI l (-1) = -1 then (0, false) else (idxI l (-1), true) | none => (0, false)
section
variable {T : Tab} {n : Int} {l : List Int}
theorem szI_some (h : T.g n = some l) : szI T n = (l.length : Int) := by unfold szI; rw [Tab.sz_some h]
theorem szI_not (h : T.g n = none) : szI T n = 0 := by unfold szI; rw [Tab.sz_none.2 h]
theorem blksI_some (h : T.g n = some l) : blksI T n = liveL l := by unfold blksI; rw [h]
theorem blksI_none (h : T.g n = none) : blksI T n = [] := by unfold blksI; rw [h]
theorem blkI_at (h : T.g n = some l) {k : Nat} (hk : k < l.length) : blkI T n k = if l[k] = -1 then (0, false) else (l[k], true) := by
  unfold blkI
  rw [if_pos (by omega), Int.toNat_natCast, Tab.slot_of h, List.getElem?_eq_getElem hk]
theorem blksI_len : (blksI T n).length = cntG T n := by unfold blksI cntG; cases T.g n <;> rfl
end
section
variable {w : World} {q c : Nat} {G : UG} {L : UL} {T : Tab} {vg vl : Value}
set_option maxHeartbeats 2000000
set_option maxRecDepth 100000
theorem ur_Blocks (h : UX w q G L T c vg vl) (hc : c ≤ 1000) (n : Int) :
    Calls Try.prog 84 #[.pointer (some ⟨q, 0, none⟩), .int .i64 n] w fun e w' => ∃ x : Value, e = .returned x ∧ w'.ownsRow w.heap.size 3 1 x (blksI T n).length (ints (blksI T n)) ∧ Kept w w' := by
  have HS := Lib.hid (fun (W : World) (hk : Kept w W) => ur_Slots (h.kept hk) (by omega) n)
  have HB := Lib.hid (fun (W : World) (hk : Kept w W) (i : Nat) => ur_Block (h.kept hk) (by omega) n i)
  have hok := h.ok
  have hk1 := (Kept.refl w).alloc (Obj.cells #[] 3)
  have hb1 := heap_alloc_new w (Obj.cells #[] 3)
  have HO1 : Hid ((w.alloc (Obj.cells #[] 3)).ownsRow 0 3 1 (.slice (some ⟨w.heap.size, 0, none⟩) 0 0) 0 (ints [])) := Lib.hid (own_made hb1)
  have HK1 := Lib.hid hk1
  clear h hk1 hb1
  cases hg : T.g n with
  | none =>
    rw [szI_not hg] at HS
    rw [blksI_none hg]
    clear hg hok
    go_enter Try.func84, Try.ntmps84
    go_wp2
    go_loopw [5, 6] (fun v i wr => i = .int .i64 0 ∧ v = .slice (some ⟨w.heap.size, 0, none⟩) 0 0 ∧ wr = w.alloc (Obj.cells #[] 3)) (fun _ i _ => (intOf i).toNat)
    case atStart => exact ⟨rfl, rfl, rfl⟩
    case round =>
      obtain ⟨rfl, rfl, rfl⟩ := hrel
      go_wp2_with fail
      refine Calls.mono (HS.out _ HK1.out) ?_
      rintro e w1 ⟨rfl, rfl⟩
      go_wp2
      go_ret
      exact ⟨_, rfl, own_ge HO1.out (fun B hB => by simp [Value.ownBlock] at hB; omega), HK1.out⟩
  | some l =>
    have hlen := (hok.len n l hg).2
    rw [szI_some hg] at HS
    rw [blksI_some hg]
    have HAT := Lib.hid (fun k (hk : k < l.length) => blkI_at hg hk)
    clear hok hg
    go_enter Try.func84, Try.ntmps84
    go_wp2
    go_loopw [5, 6] (fun vv i wr => ∃ (v : Value) (k : Nat), v = vv ∧ k ≤ l.length ∧ i = .int .i64 k ∧ Hid (wr.ownsRow 0 3 1 v (liveL (l.take k)).length (ints (liveL (l.take k)))) ∧ Hid (Kept w wr) ∧ Hid (∀ B, v.ownBlock = some B → w.heap.size ≤ B)) (fun _ i _ => l.length - (intOf i).toNat)
    case atStart => exact ⟨_, 0, rfl, Nat.zero_le _, rfl, HO1, HK1, Lib.hid (fun B hB => by simp [Value.ownBlock] at hB; omega)⟩
    case round =>
      clear HO1 HK1
      obtain ⟨v, k, rfl, hk, rfl, HO, HK, HN⟩ := hrel
      go_wp2_with fail
      refine Calls.mono (HS.out _ HK.out) ?_
      rintro e w1 ⟨rfl, rfl⟩
      by_cases hlt : k < l.length
      · have hB := HB.out _ HK.out k
        rw [HAT.out k hlt] at hB
        have hts : l.take (k + 1) = l.take k ++ [l[k]] := List.take_succ_eq_append_getElem hlt
        have hll : (liveL (l.take k)).length ≤ k := Nat.le_trans (List.length_filter_le _ _) (by rw [List.length_take]; omega)
        by_cases hx : l[k] = -1
        · rw [if_pos hx] at hB
          have HO2 : Hid (wr.ownsRow 0 3 1 v (liveL (l.take (k + 1))).length (ints (liveL (l.take (k + 1))))) := Lib.hid (by rw [hts, hx, liveL_snoc_dead]; exact HO.out)
          have HB2 := Lib.hid hB
          clear hB hts hx HO
          go_wp2_with fail
          refine Calls.mono HB2.out ?_
          rintro e w2 ⟨rfl, rfl⟩
          go_wp2
          go_roundw
          case rel => exact ⟨_, k + 1, rfl, hlt, by go_num, HO2, HK, HN⟩
          case measure => simp [intOf]; omega
        · rw [if_neg hx] at hB
          have HB2 := Lib.hid hB
          have hsn : liveL (l.take (k + 1)) = liveL (l.take k) ++ [l[k]] := by rw [hts, liveL_snoc _ _ hx]
          generalize l[k] = b at *
          have hk4 := (Kept.refl wr).alloc (Obj.cells #[Value.int .i64 b] 3)
          have hb4 := heap_alloc_new wr (Obj.cells #[Value.int .i64 b] 3)
          have HO4 := Lib.hid (own_same HO.out fun g' hg' => hk4.block_eq (own_lt HO.out hg'))
          obtain ⟨v', w5, hrun, hown, hgrw⟩ := own_append ty_ints HO4.out (by omega) (by decide) [Value.int .i64 b] rfl (b := wr.heap.size) (fun j u hu => by rw [cell_of_row _ _ j _ _ _ hb4]; simpa using hu) (by intro u hu; simp at hu; rcases hu with rfl; rfl) 56
          obtain ⟨hk5, hn5⟩ := hgrw.kept (HK.out.trans hk4) HN.out
          have HK5 := Lib.hid hk5
          have HN5 := Lib.hid hn5
          have HOWN : Hid (w5.ownsRow 0 3 1 v' (liveL (l.take (k + 1))).length (ints (liveL (l.take (k + 1))))) := Lib.hid (by rw [hsn]; simpa [ints] using hown)
          have HRUN := Lib.hid hrun
          clear hk4 hb4 HO4 hrun hown hgrw hk5 hn5 hB hsn hts hx
          go_wp2_with fail
          refine Calls.mono HB2.out ?_
          rintro e w2 ⟨rfl, rfl⟩
          go_wp2_with (refine stop_at (o := ⟨some 28, _, _, _, _, _⟩) ?_)
          refine Stop.mk ?_
          refine wpList_plain rfl fun K hK => ?_
          refine wp_append_runU rfl rfl rfl HRUN.out ?_
          refine hK _ _ ?_
          clear hK K HRUN
          go_wp2
          go_roundw
          case rel => exact ⟨_, k + 1, rfl, hlt, by go_num, HOWN, HK5, HN5⟩
          case measure => simp [intOf]; omega
      · have hkk : k = l.length := by omega
        subst hkk
        rw [List.take_length] at HO
        go_wp2
        go_ret
        exact ⟨_, rfl, own_ge HO.out HN.out, HK.out⟩
theorem ur_Hole (h : UX w q G L T c vg vl) (hc : c ≤ 1000) (n : Int) :
    Calls Try.prog 81 #[.pointer (some ⟨q, 0, none⟩), .int .i64 n] w fun e w' => e = .returned (.tuple #[.int .i64 (holeI T n).1, .bool (holeI T n).2]) ∧ w = w' := by
  have HS := Lib.hid (ur_Slots h (by omega) n)
  have HB := Lib.hid (fun (i : Nat) => ur_Block h (by omega) n i)
  have hok := h.ok
  clear h
  cases hg : T.g n with
  | none =>
    have HE : Hid (holeI T n = (0, false)) := Lib.hid (by unfold holeI; rw [hg])
    rw [szI_not hg] at HS
    clear hg hok
    go_enter Try.func81, Try.ntmps81
    go_wp2
    go_loopw [6] (fun i wr => i = .int .i64 0 ∧ wr = w) (fun i _ => (intOf i).toNat)
    case atStart => exact ⟨rfl, rfl⟩
    case round =>
      obtain ⟨rfl, rfl⟩ := hrel
      go_wp2_with fail
      refine Calls.mono HS.out ?_
      rintro e w1 ⟨rfl, rfl⟩
      go_wp2
      go_ret2
      exact ⟨by rw [HE.out]; rfl, rfl⟩
  | some l =>
    have hlen := (hok.len n l hg).2
    rw [szI_some hg] at HS
    have HAT := Lib.hid (fun k (hk : k < l.length) => blkI_at hg hk)
    have HE : Hid (holeI T n = if idxI l (-1) = -1 then (0, false) else (idxI l (-1), true)) := Lib.hid (by unfold holeI; rw [hg])
    clear hok hg
    go_enter Try.func81, Try.ntmps81
    go_wp2
    go_loopw [6] (fun i wr => ∃ k : Nat, k ≤ l.length ∧ i = .int .i64 k ∧ Hid (∀ i (h : i < l.length), i < k → l[i] ≠ -1) ∧ w = wr) (fun i _ => l.length - (intOf i).toNat)
    case atStart => exact ⟨0, Nat.zero_le _, rfl, Lib.hid (fun i h hi => by omega), rfl⟩
    case round =>
      obtain ⟨k, hk, rfl, HL, rfl⟩ := hrel
      go_wp2_with fail
      refine Calls.mono HS.out ?_
      rintro e w1 ⟨rfl, rfl⟩
      by_cases hlt : k < l.length
      · have hB := HB.out k
        rw [HAT.out k hlt] at hB
        by_cases hx : l[k] = -1
        · rw [if_pos hx] at hB
          have HI := Lib.hid (idxI_hit hlt HL.out hx)
          have HB2 := Lib.hid hB
          clear hB hx
          go_wp2_with fail
          refine Calls.mono HB2.out ?_
          rintro e w2 ⟨rfl, rfl⟩
          go_wp2
          go_ret2
          exact ⟨by rw [HE.out, HI.out, if_neg (by omega)]; rfl, rfl⟩
        · rw [if_neg hx] at hB
          have HB2 := Lib.hid hB
          have HL2 : Hid (∀ i (h : i < l.length), i < k + 1 → l[i] ≠ -1) := Lib.hid fun i h hi => by
            by_cases e : i = k
            · subst e; exact hx
            · exact HL.out i h (by omega)
          generalize l[k] = b at *
          clear hB hx HL
          go_wp2_with fail
          refine Calls.mono HB2.out ?_
          rintro e w2 ⟨rfl, rfl⟩
          go_wp2
          go_roundw
          case rel => exact ⟨k + 1, hlt, by go_num, HL2, trivial⟩
          case measure => simp [intOf]; omega
      · have hkk : k = l.length := by omega
        have HI := Lib.hid (idxI_miss (l := l) (x := -1) (fun i h => HL.out i h (by omega)))
        subst hkk
        clear HL
        go_wp2
        go_ret2
        exact ⟨by rw [HE.out, HI.out, if_pos rfl]; rfl, rfl⟩
end
end Go.Proofs.Ytglplhmclfekfaa
