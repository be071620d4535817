/- Blocks, Count, Hole; slices.Repeat at one int; Open. -/
import Derived.Test.YtglplhmclfekfaaUsf
import Derived.Test.YtglplhmclfekfaaText
namespace Go.Proofs.Ytglplhmclfekfaa
open Go.RowKit Go.ChangeMaps Go.MapKept
set_option linter.unusedVariables false
set_option linter.unusedSimpArgs false

section
variable {w : World} {p : Nat} {S : Nat → Prop} {T : Tab}
set_option maxHeartbeats 1000000
set_option maxRecDepth 100000
theorem TabD.irow {g h : Nat} {blk : Blk} (H : TabD w p S T g h blk) {n : Int} {l : List Int} (hn : T.g n = some l) : IRow w (blk.b n) l := by
  have := H.row n l hn
  exact IRow.of_block this
theorem tab_Blocks (H : TabAt w p S T) (n : Int) {l : List Int} (hn : T.g n = some l) (h0 : 0 < l.length) (hl : l.length ≤ 4096) :
    Calls Try.prog 34 #[.pointer (some ⟨p, 0, none⟩), .int .i64 n] w fun e w' => ∃ g cap junk, e = .returned (.slice (some ⟨g, 0, none⟩) (liveL l).length cap) ∧ w'.heap[g]? = some (.cells (ints (liveL l) ++ junk).toArray 3 (0, 0)) ∧ w.heap.size ≤ g ∧ Kept w w' := by
  obtain ⟨g, h, blk, H⟩ := H
  have c0 := H.c0
  have hrow := Lib.hid (H.irow hn)
  have HN := Lib.hid hn; clear hn
  go_enter Try.func34, Try.ntmps34
  go_wp2_with (first
    | (at_lookup; refine wpList_look_some H HN.out rfl _ _ rfl rfl rfl ?_)
    | (go_at_call 65; refine (slices_Clone l _ _ _ h0 hl (Nat.le_add_right _ _) hrow.out).mono ?_; rintro e w1 ⟨g1, cap, rest, rfl, hb1, hg1, hc1, hm1, hk1⟩; have HB1 := Lib.hid hb1; clear hb1; have HC1 := Lib.hid hc1; clear hc1)
    | (go_at_call 95; refine (slices_DeleteFunc l _ _ _ _ hl HC1.out hm1 HB1.out).mono ?_; rintro e w2 ⟨junk, rfl, hb2, hbt⟩; have HB2 := Lib.hid hb2; clear hb2))
  go_ret
  exact ⟨g1, cap, junk, rfl, HB2.out, hg1, But.to_kept hk1 hbt (fun i e => by rw [e]; exact hg1)⟩
theorem tab_Count (H : TabAt w p S T) (n : Int) {l : List Int} (hn : T.g n = some l) (h0 : 0 < l.length) (hl : l.length ≤ 4096) :
    Calls Try.prog 33 #[.pointer (some ⟨p, 0, none⟩), .int .i64 n] w fun e w' => e = .returned (.int .i64 (liveL l).length) ∧ Kept w w' := by
  go_enter Try.func33, Try.ntmps33
  go_wp2_with (go_at_call 34; refine (tab_Blocks H n hn h0 hl).mono ?_; rintro e w1 ⟨g1, cap, rest, rfl, _, _, hk1⟩)
  go_ret
  exact ⟨rfl, hk1⟩
theorem tab_Hole_some (H : TabAt w p S T) (n : Int) {l : List Int} (hn : T.g n = some l) (hl : l.length ≤ 4096) {k : Nat} (hk : idxI l (-1) = ((k : Nat) : Int)) :
    Calls Try.prog 72 #[.pointer (some ⟨p, 0, none⟩), .int .i64 n] w fun e w' => e = .returned (.tuple #[.int .i64 k, .bool true]) ∧ w = w' := by
  obtain ⟨g, h, blk, H⟩ := H
  have c0 := H.c0
  have hI := slices_Index l (-1) (blk.b n) (l.length + (blk.j n).length) w hl (H.irow hn)
  rw [hk] at hI
  have HI := Lib.hid hI; clear hI
  have HN := Lib.hid hn; clear hn
  clear hk
  have hm : max (k : Int) 0 = k := by omega
  go_enter Try.func72, Try.ntmps72
  go_wp2_with (first
    | (at_lookup; refine wpList_look_some H HN.out rfl _ _ rfl rfl rfl ?_)
    | (go_at_call 127; refine HI.out.mono ?_; rintro e w1 ⟨rfl, rfl⟩))
  go_ret2
  refine ⟨ret_eq ?_, rfl⟩
  simp
  first | done | omega
theorem tab_Hole_none (H : TabAt w p S T) (n : Int) {l : List Int} (hn : T.g n = some l) (hl : l.length ≤ 4096) (hk : idxI l (-1) = -1) :
    Calls Try.prog 72 #[.pointer (some ⟨p, 0, none⟩), .int .i64 n] w fun e w' => e = .returned (.tuple #[.int .i64 0, .bool false]) ∧ w = w' := by
  obtain ⟨g, h, blk, H⟩ := H
  have c0 := H.c0
  have hI := slices_Index l (-1) (blk.b n) (l.length + (blk.j n).length) w hl (H.irow hn)
  rw [hk] at hI
  have HI := Lib.hid hI; clear hI
  have HN := Lib.hid hn; clear hn
  clear hk
  go_enter Try.func72, Try.ntmps72
  go_wp2_with (first
    | (at_lookup; refine wpList_look_some H HN.out rfl _ _ rfl rfl rfl ?_)
    | (go_at_call 127; refine HI.out.mono ?_; rintro e w1 ⟨rfl, rfl⟩))
  go_ret2
  exact ⟨rfl, rfl⟩

theorem bits_Mul64 (n : Nat) (w : World) (h : n ≤ 4096) : Calls Try.prog 160 #[.int .u64 1, .int .u64 n] w fun e w' => e = .returned (.tuple #[.int .u64 0, .int .u64 n]) ∧ w = w' := by
  have a1 : bits .and .u64 (n : Int) 4294967295 = n := by rw [and_low32 _ (by omega) (by omega)]; omega
  have a2 : bits .and .u64 1 4294967295 = 1 := by decide
  have a3 : bits .and .u64 0 4294967295 = 0 := by decide
  have hd : (n : Int) / 4294967296 = 0 := by omega
  go_enter Try.func160, Try.ntmps160
  go_wp2
  go_ret2
  refine ⟨ret_eq ?_, rfl⟩
  simp [a1, hd]
theorem bits_Mul (n : Nat) (w : World) (h : n ≤ 4096) : Calls Try.prog 131 #[.int .u64 1, .int .u64 n] w fun e w' => e = .returned (.tuple #[.int .u64 0, .int .u64 n]) ∧ w = w' := by
  go_enter Try.func131, Try.ntmps131
  go_wp2_with (go_at_call 160; refine (bits_Mul64 n _ h).mono ?_; rintro e w1 ⟨rfl, rfl⟩)
  go_ret2
  exact ⟨rfl, rfl⟩
end
end Go.Proofs.Ytglplhmclfekfaa
