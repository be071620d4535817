/- usage.Table: each call whole, in the words of the document. -/
import Derived.Test.YtglplhmclfekfaaUrj
import Derived.Test.YtglplhmclfekfaaUdr
namespace Go.Proofs.Ytglplhmclfekfaa
open Go.RowKit Go.ChangeMaps Go.MapKept
set_option linter.unusedVariables false
set_option linter.unusedSimpArgs false

/-- a list of numbers that is read -/
def CSl (w : World) (v : Value) (l : List Int) : Prop := ∃ oa cap, v = .slice oa l.length cap ∧ ∀ k (hk : k < l.length), ∃ b, oa = some ⟨b, 0, none⟩ ∧ w.cell? ⟨b, k, none⟩ = some (.int .i64 l[k])
theorem CSl.kept {w w' : World} {v : Value} {l : List Int} (h : CSl w v l) (hk : Kept w w') : CSl w' v l := by
  obtain ⟨oa, cap, e, h3⟩ := h
  exact ⟨oa, cap, e, fun k hk' => by obtain ⟨b, hb, hc⟩ := h3 k hk'; exact ⟨b, hb, hk.cell' hc⟩⟩
theorem CSl.nil (w : World) : CSl w (.slice none 0 0) [] := ⟨none, 0, rfl, fun k hk => by cases hk⟩
theorem CSl.own {w : World} {base n : Nat} {v : Value} {l : List Int} (h : w.ownsRow base 3 1 v n (ints l)) (hn : n = l.length) : CSl w v l := by
  subst hn
  obtain ⟨ao, cap, hv⟩ := own_form h
  refine ⟨ao, cap, hv, fun k hk => ?_⟩
  obtain ⟨g, cap', hv', _, _, hc⟩ := own_cell h (by omega)
  rw [hv] at hv'
  injection hv' with ha
  exact ⟨g, ha, hc k _ (by simp [ints, hk])⟩
theorem CSl.row {w : World} {g cap : Nat} {l : List Int} {junk : List Value} (h : w.heap[g]? = some (.cells (ints l ++ junk).toArray 3 (0, 0))) : CSl w (.slice (some ⟨g, 0, none⟩) l.length cap) l :=
  ⟨_, _, rfl, fun k hk => ⟨g, rfl, by rw [cell_of_row _ _ _ _ _ _ h, List.getElem?_toArray, List.getElem?_append_left (by simpa [ints] using hk)]; simp [ints, hk]⟩⟩
section
set_option maxHeartbeats 1000000
set_option maxRecDepth 100000
theorem slices_Index_nil (x : Int) (w : World) : Calls Try.prog 127 #[.slice none 0 0, .int .i64 x] w fun e w' => e = .returned (.int .i64 (-1)) ∧ w = w' := by
  go_enter Try.func127, Try.ntmps127
  go_wp2
  go_loopw [8] (fun i wr => i = .int .i64 0 ∧ wr = w) (fun i _ => (intOf i).toNat)
  case atStart => exact ⟨rfl, rfl⟩
  case round =>
    obtain ⟨rfl, rfl⟩ := hrel
    go_wp2
    go_ret
    exact ⟨rfl, rfl⟩
theorem slices_Clone_nil (w : World) : Calls Try.prog 65 #[.slice none 0 0] w fun e w' => e = .returned (.slice none 0 0) ∧ w = w' := by
  have e1 := eq_nil
  go_enter Try.func65, Try.ntmps65
  go_wp2
  go_ret
  exact ⟨rfl, rfl⟩
theorem slices_IndexFunc_nil (f : Value) (w : World) : Calls Try.prog 135 #[.slice none 0 0, f] w fun e w' => e = .returned (.int .i64 (-1)) ∧ w = w' := by
  go_enter Try.func135, Try.ntmps135
  go_wp2
  go_loopw [8] (fun i wr => i = .int .i64 0 ∧ wr = w) (fun i _ => (intOf i).toNat)
  case atStart => exact ⟨rfl, rfl⟩
  case round =>
    obtain ⟨rfl, rfl⟩ := hrel
    go_wp2
    go_ret
    exact ⟨rfl, rfl⟩
theorem slices_DeleteFunc_nil (f : Value) (w : World) : Calls Try.prog 95 #[.slice none 0 0, f] w fun e w' => e = .returned (.slice none 0 0) ∧ w = w' := by
  go_enter Try.func95, Try.ntmps95
  go_wp2_with fail
  refine Calls.mono (slices_IndexFunc_nil f w) ?_
  rintro e w1 ⟨rfl, rfl⟩
  go_wp2
  go_ret
  exact ⟨rfl, rfl⟩
variable {w : World} {p : Nat} {S : Nat → Prop} {T : Tab}
theorem tab_Blocks_none (H : TabAt w p S T) (n : Int) (hn : T.g n = none) :
    Calls Try.prog 34 #[.pointer (some ⟨p, 0, none⟩), .int .i64 n] w fun e w' => e = .returned (.slice none 0 0) ∧ w = w' := by
  obtain ⟨g, h, blk, H⟩ := H
  have c0 := H.c0
  have HN := Lib.hid hn; clear hn
  go_enter Try.func34, Try.ntmps34
  go_wp2_with (first
    | (at_lookup; refine wpList_look_none H HN.out rfl _ _ rfl rfl rfl ?_)
    | (go_at_call 65; refine (slices_Clone_nil _).mono ?_; rintro e w1 ⟨rfl, rfl⟩)
    | (go_at_call 95; refine (slices_DeleteFunc_nil _ _).mono ?_; rintro e w2 ⟨rfl, rfl⟩))
  go_ret
  exact ⟨rfl, rfl⟩
theorem tab_Count_none (H : TabAt w p S T) (n : Int) (hn : T.g n = none) :
    Calls Try.prog 33 #[.pointer (some ⟨p, 0, none⟩), .int .i64 n] w fun e w' => e = .returned (.int .i64 0) ∧ w = w' := by
  go_enter Try.func33, Try.ntmps33
  go_wp2_with (go_at_call 34; refine (tab_Blocks_none H n hn).mono ?_; rintro e w1 ⟨rfl, rfl⟩)
  go_ret
  exact ⟨rfl, rfl⟩
theorem tab_Hole_nog (H : TabAt w p S T) (n : Int) (hn : T.g n = none) :
    Calls Try.prog 72 #[.pointer (some ⟨p, 0, none⟩), .int .i64 n] w fun e w' => e = .returned (.tuple #[.int .i64 0, .bool false]) ∧ w = w' := by
  obtain ⟨g, h, blk, H⟩ := H
  have c0 := H.c0
  have HN := Lib.hid hn; clear hn
  go_enter Try.func72, Try.ntmps72
  go_wp2_with (first
    | (at_lookup; refine wpList_look_none H HN.out rfl _ _ rfl rfl rfl ?_)
    | (go_at_call 127; refine (slices_Index_nil _ _).mono ?_; rintro e w1 ⟨rfl, rfl⟩))
  go_ret2
  exact ⟨rfl, rfl⟩
theorem tab_Slots_nog (H : TabAt w p S T) (n : Int) (hn : T.g n = none) :
    Calls Try.prog 30 #[.pointer (some ⟨p, 0, none⟩), .int .i64 n] w fun e w' => e = .returned (.int .i64 0) ∧ w = w' := by
  obtain ⟨g, h, blk, H⟩ := H
  have c0 := H.c0
  have HN := Lib.hid hn; clear hn
  go_enter Try.func30, Try.ntmps30
  go_wp2_with (at_lookup; refine wpList_look_none H HN.out rfl _ _ rfl rfl rfl ?_)
  go_ret
  exact ⟨rfl, rfl⟩
/-- where 'in' says no -/
theorem tab_inX (H : TabAt w p S T) (n s : Int) : Calls Try.prog 90 #[.pointer (some ⟨p, 0, none⟩), .int .i64 n, .int .i64 s] w fun e w' => e = .returned (.int .i64 (inI T n s)) ∧ w = w' := by
  unfold inI Tab.sz
  cases hg : T.g n with
  | none => exact tab_in_none H n s hg
  | some l =>
    simp only [Option.map_some]
    by_cases hc : s < 0 ∨ (l.length : Int) ≤ s
    · rw [if_pos hc]; exact tab_in_out H n s hg hc
    · rw [if_neg hc]; exact tab_in_ok H n s hg (by omega) (by omega)
theorem tab_Put_no (H : TabAt w p S T) (n s b : Int) (hi : inI T n s ≠ 0) :
    Calls Try.prog 28 #[.pointer (some ⟨p, 0, none⟩), .int .i64 n, .int .i64 s, .int .i64 b] w fun e w' => e = .returned (.int .i64 (inI T n s)) ∧ w = w' := by
  have HI := Lib.hid (tab_inX H n s)
  have hx : (inI T n s == 0) = false := by simpa using hi
  generalize inI T n s = x at *
  clear H hi
  go_enter Try.func28, Try.ntmps28
  go_wp2_with (go_at_call 90; refine HI.out.mono ?_; rintro e w' ⟨rfl, rfl⟩)
  go_ret
  exact ⟨rfl, rfl⟩
theorem tab_Put_neg (H : TabAt w p S T) (n s b : Int) (hi : inI T n s = 0) (hb : b < 0) :
    Calls Try.prog 28 #[.pointer (some ⟨p, 0, none⟩), .int .i64 n, .int .i64 s, .int .i64 b] w fun e w' => e = .returned (.int .i64 1) ∧ w = w' := by
  have HI := Lib.hid (tab_inX H n s)
  rw [hi] at HI
  clear H hi
  go_enter Try.func28, Try.ntmps28
  go_wp2_with (go_at_call 90; refine HI.out.mono ?_; rintro e w' ⟨rfl, rfl⟩)
  go_ret
  exact ⟨rfl, rfl⟩
theorem tab_Clear_no (H : TabAt w p S T) (n s : Int) (hi : inI T n s ≠ 0) :
    Calls Try.prog 75 #[.pointer (some ⟨p, 0, none⟩), .int .i64 n, .int .i64 s] w fun e w' => e = .returned (.int .i64 (inI T n s)) ∧ w = w' := by
  have HI := Lib.hid (tab_inX H n s)
  have hx : (inI T n s == 0) = false := by simpa using hi
  generalize inI T n s = x at *
  clear H hi
  go_enter Try.func75, Try.ntmps75
  go_wp2_with (go_at_call 90; refine HI.out.mono ?_; rintro e w' ⟨rfl, rfl⟩)
  go_ret
  exact ⟨rfl, rfl⟩
theorem tab_Block_no (H : TabAt w p S T) (n s : Int) (hi : inI T n s ≠ 0) :
    Calls Try.prog 74 #[.pointer (some ⟨p, 0, none⟩), .int .i64 n, .int .i64 s] w fun e w' => e = .returned (.tuple #[.int .i64 0, .bool false]) ∧ w = w' := by
  have HI := Lib.hid (tab_inX H n s)
  have hx : (inI T n s == 0) = false := by simpa using hi
  have hx2 : (inI T n s != 0) = true := by simpa using hi
  generalize inI T n s = x at *
  clear H hi
  go_enter Try.func74, Try.ntmps74
  go_wp2_with (go_at_call 90; refine HI.out.mono ?_; rintro e w' ⟨rfl, rfl⟩)
  go_ret2
  exact ⟨rfl, rfl⟩
theorem tab_Open_arg (q : Nat) (n z : Int) (w : World) (h : n < 0 ∨ z < 1 ∨ 4096 < z) :
    Calls Try.prog 27 #[.pointer (some ⟨q, 0, none⟩), .int .i64 n, .int .i64 z] w fun e w' => e = .returned (.int .i64 1) ∧ w = w' := by
  have h' : n < 0 ∨ (0 ≤ n ∧ z < 1) ∨ (0 ≤ n ∧ 1 ≤ z ∧ 4096 < z) := by omega
  clear h
  rcases h' with h1 | ⟨h1, h2⟩ | ⟨h1, h2, h3⟩
  all_goals
    go_enter Try.func27, Try.ntmps27
    go_wp2
    go_ret
    exact ⟨rfl, rfl⟩
theorem tab_Open_state (H : TabAt w p S T) (n z : Int) (h0 : 0 ≤ n) (h1 : 1 ≤ z) (h2 : z ≤ 4096) {l : List Int} (hn : T.g n = some l) :
    Calls Try.prog 27 #[.pointer (some ⟨p, 0, none⟩), .int .i64 n, .int .i64 z] w fun e w' => e = .returned (.int .i64 9) ∧ w = w' := by
  obtain ⟨g, h, blk, H⟩ := H
  have c0 := H.c0
  have HN := Lib.hid hn; clear hn
  have e1 := ne_nil
  go_enter Try.func27, Try.ntmps27
  go_wp2_with (at_lookup; refine wpList_look_some H HN.out rfl _ _ rfl rfl rfl ?_)
  go_ret
  exact ⟨rfl, rfl⟩
end
section
variable {w0 W W' : World} {R : Nat → Prop} {p : Nat} {T T' : Tab}
theorem Own.stays (h : Own w0 R W p T) {w' : World} (hw : W = w') : Own w0 R w' p T ∧ SameR R W w' := by subst hw; exact ⟨h, SameR.refl _ _⟩
theorem own_OpenX (h : Own w0 R W p T) (n z : Int) : Calls Try.prog 27 #[.pointer (some ⟨p, 0, none⟩), .int .i64 n, .int .i64 z] W fun e w' => e = .returned (.int .i64 (openI T n z).1) ∧ Own w0 R w' p (openI T n z).2 ∧ SameR R W w' := by
  by_cases hb : n < 0 ∨ z < 1 ∨ 4096 < z
  · rw [openI_bad hb]
    exact (tab_Open_arg p n z W hb).mono fun e w' ⟨he, hw⟩ => ⟨he, h.stays hw⟩
  · cases hz : T.sz n with
    | some k =>
      rw [openI_some hb hz]
      have H := h
      obtain ⟨S, h1, _⟩ := h
      unfold Tab.sz at hz
      cases hg : T.g n with
      | none => rw [hg] at hz; cases hz
      | some l => exact (tab_Open_state h1 n z (by omega) (by omega) (by omega) hg).mono fun e w' ⟨he, hw⟩ => ⟨he, H.stays hw⟩
    | none =>
      rw [openI_none hb hz]
      obtain ⟨N, rfl⟩ : ∃ N : Nat, z = (N : Int) := ⟨z.toNat, by omega⟩
      rw [Int.toNat_natCast]
      exact own_Open h n N (by omega) (by omega) (by omega) (Tab.sz_none.1 hz)
theorem own_PutX (h : Own w0 R W p T) (ok : T.Ok) (n s b : Int) : Calls Try.prog 28 #[.pointer (some ⟨p, 0, none⟩), .int .i64 n, .int .i64 s, .int .i64 b] W fun e w' => e = .returned (.int .i64 (putI T n s b).1) ∧ Own w0 R w' p (putI T n s b).2 ∧ SameR R W w' := by
  unfold putI
  have H := h
  obtain ⟨S, h1, _⟩ := h
  by_cases hi : inI T n s = 0
  · rw [if_neg (by simp [hi])]
    by_cases hb : b < 0
    · rw [if_pos hb]
      exact (tab_Put_neg h1 n s b hi hb).mono fun e w' ⟨he, hw⟩ => ⟨he, H.stays hw⟩
    · rw [if_neg hb]
      have h0 : 0 ≤ s := by obtain ⟨_, _, h0, _⟩ := inI_zero hi; exact h0
      obtain ⟨i, rfl⟩ : ∃ i : Nat, s = (i : Int) := ⟨s.toNat, by omega⟩
      cases hd : (blkI T n i).2 with
      | true =>
        rw [if_pos rfl]
        obtain ⟨_, hs, hx⟩ := blkI_live hd
        rw [Int.toNat_natCast] at hs
        exact (own_Put_live H ok n b i hs hx (by omega)).mono fun e w' ⟨he, hw⟩ => ⟨he, H.stays hw⟩
      | false =>
        rw [if_neg (by simp)]
        have hs := blkI_dead hi hd
        rw [Int.toNat_natCast] at hs ⊢
        exact own_Put H ok n b i hs (by omega)
  · rw [if_pos hi]
    exact (tab_Put_no h1 n s b hi).mono fun e w' ⟨he, hw⟩ => ⟨he, H.stays hw⟩
theorem own_ClearX (h : Own w0 R W p T) (ok : T.Ok) (n s : Int) : Calls Try.prog 75 #[.pointer (some ⟨p, 0, none⟩), .int .i64 n, .int .i64 s] W fun e w' => e = .returned (.int .i64 (clearI T n s).1) ∧ Own w0 R w' p (clearI T n s).2 ∧ SameR R W w' := by
  unfold clearI
  have H := h
  obtain ⟨S, h1, _⟩ := h
  by_cases hi : inI T n s = 0
  · rw [if_neg (by simp [hi])]
    have h0 : 0 ≤ s := by obtain ⟨_, _, h0, _⟩ := inI_zero hi; exact h0
    obtain ⟨i, rfl⟩ : ∃ i : Nat, s = (i : Int) := ⟨s.toNat, by omega⟩
    cases hd : (blkI T n i).2 with
    | true =>
      rw [if_pos rfl]
      obtain ⟨_, hs, hx⟩ := blkI_live hd
      rw [Int.toNat_natCast] at hs ⊢
      exact own_Clear H ok n i hs hx
    | false =>
      rw [if_neg (by simp)]
      have hs := blkI_dead hi hd
      rw [Int.toNat_natCast] at hs
      exact (own_Clear_dead H ok n i hs).mono fun e w' ⟨he, hw⟩ => ⟨he, H.stays hw⟩
  · rw [if_pos hi]
    exact (tab_Clear_no h1 n s hi).mono fun e w' ⟨he, hw⟩ => ⟨he, H.stays hw⟩
theorem own_DropX (h : Own w0 R W p T) (n : Int) : Calls Try.prog 29 #[.pointer (some ⟨p, 0, none⟩), .int .i64 n] W fun e w' => e = .returned (.int .i64 (dropI T n).1) ∧ Own w0 R w' p (dropI T n).2 ∧ SameR R W w' := by
  unfold dropI Tab.sz
  cases hg : T.g n with
  | none => exact (own_Drop_none h n hg).mono fun e w' ⟨he, k1, k2, _⟩ => ⟨he, k1, k2⟩
  | some l => exact own_Drop h n hg
theorem tab_BlockX {S : Nat → Prop} (h1 : TabAt W p S T) (ok : T.Ok) (n s : Int) : Calls Try.prog 74 #[.pointer (some ⟨p, 0, none⟩), .int .i64 n, .int .i64 s] W fun e w' => e = .returned (.tuple #[.int .i64 (blkI T n s).1, .bool (blkI T n s).2]) ∧ W = w' := by
  by_cases hi : inI T n s = 0
  · obtain ⟨l, hl, h0, hlt⟩ := inI_zero hi
    obtain ⟨i, rfl⟩ : ∃ i : Nat, s = (i : Int) := ⟨s.toNat, by omega⟩
    have hil : i < l.length := by omega
    rw [blkI_at hl hil]
    split
    · rename_i hx; exact tab_Block_dead h1 n hl hil hx (ok.len _ _ hl).2
    · rename_i hx; exact tab_Block_live h1 n _ hl hil rfl hx (ok.len _ _ hl).2
  · have hb : blkI T n s = (0, false) := by
      unfold blkI
      split
      · rename_i h0
        split
        · rename_i b hs
          exfalso
          obtain ⟨l, hl, hlt, _⟩ := Tab.slot_some hs
          apply hi
          unfold inI
          rw [Tab.sz_some hl]
          simp only
          rw [if_neg (by omega)]
        · rfl
      · rfl
    rw [hb]
    exact tab_Block_no h1 n s hi
theorem tab_HoleX {S : Nat → Prop} (h1 : TabAt W p S T) (ok : T.Ok) (n : Int) : Calls Try.prog 72 #[.pointer (some ⟨p, 0, none⟩), .int .i64 n] W fun e w' => e = .returned (.tuple #[.int .i64 (holeI T n).1, .bool (holeI T n).2]) ∧ W = w' := by
  unfold holeI
  cases hg : T.g n with
  | none => exact tab_Hole_nog h1 n hg
  | some l =>
    simp only
    rcases idxI_cases l (-1) with ⟨h, _⟩ | ⟨k, hk, h, _⟩
    · rw [h, if_pos rfl]; exact tab_Hole_none h1 n hg (ok.len _ _ hg).2 h
    · rw [h, if_neg (by omega)]; exact tab_Hole_some h1 n hg (ok.len _ _ hg).2 h
theorem tab_SlotsX {S : Nat → Prop} (h1 : TabAt W p S T) (n : Int) : Calls Try.prog 30 #[.pointer (some ⟨p, 0, none⟩), .int .i64 n] W fun e w' => e = .returned (.int .i64 (szI T n)) ∧ W = w' := by
  cases hg : T.g n with
  | none => rw [szI_not hg]; exact tab_Slots_nog h1 n hg
  | some l => rw [szI_some hg]; exact tab_Slots h1 n hg
theorem tab_CountX {S : Nat → Prop} (h1 : TabAt W p S T) (ok : T.Ok) (n : Int) : Calls Try.prog 33 #[.pointer (some ⟨p, 0, none⟩), .int .i64 n] W fun e w' => e = .returned (.int .i64 (cntG T n)) ∧ Kept W w' := by
  cases hg : T.g n with
  | none =>
    have : cntG T n = 0 := by unfold cntG; rw [hg]
    rw [this]
    exact (tab_Count_none h1 n hg).mono fun e w' ⟨he, hw⟩ => ⟨he, hw ▸ Kept.refl _⟩
  | some l => rw [cntG_some hg]; exact tab_Count h1 n hg (ok.len _ _ hg).1 (ok.len _ _ hg).2
theorem tab_BlocksX {S : Nat → Prop} (h1 : TabAt W p S T) (ok : T.Ok) (n : Int) : Calls Try.prog 34 #[.pointer (some ⟨p, 0, none⟩), .int .i64 n] W fun e w' => ∃ x, e = .returned x ∧ CSl w' x (blksI T n) ∧ Kept W w' := by
  cases hg : T.g n with
  | none => rw [blksI_none hg]; exact (tab_Blocks_none h1 n hg).mono fun e w' ⟨he, hw⟩ => ⟨_, he, CSl.nil _, hw ▸ Kept.refl _⟩
  | some l =>
    rw [blksI_some hg]
    exact (tab_Blocks h1 n hg (ok.len _ _ hg).1 (ok.len _ _ hg).2).mono fun e w' ⟨g, cap, junk, he, hb, _, hk⟩ => ⟨_, he, CSl.row hb, hk⟩
end
end Go.Proofs.Ytglplhmclfekfaa
