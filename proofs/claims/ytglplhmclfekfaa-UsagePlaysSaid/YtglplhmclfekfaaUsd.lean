/- usage.Table: Put that is refused, Clear, Block, Find, Slots. -/
import Derived.Test.YtglplhmclfekfaaUsc
namespace Go.Proofs.Ytglplhmclfekfaa
open Go.RowKit Go.ChangeMaps Go.MapKept
set_option linter.unusedVariables false
set_option linter.unusedSimpArgs false

def Tab.clear (T : Tab) (n : Int) (i : Nat) (b : Int) : Tab := (T.delF b).setG n i (-1)
section
variable {w : World} {p : Nat} {S : Nat → Prop} {T : Tab}
set_option maxHeartbeats 1000000
set_option maxRecDepth 100000
theorem tab_Put_out (H : TabAt w p S T) (n s b : Int) {l : List Int} (hn : T.g n = some l) (hs : s < 0 ∨ l.length ≤ s) :
    Calls Try.prog 28 #[.pointer (some ⟨p, 0, none⟩), .int .i64 n, .int .i64 s, .int .i64 b] w fun e w' => e = .returned (.int .i64 3) ∧ w = w' := by
  have HN := Lib.hid hn; clear hn
  have HS := Lib.hid hs; clear hs
  go_enter Try.func28, Try.ntmps28
  go_wp2_with (go_at_call 90; refine (tab_in_out H n _ HN.out HS.out).mono ?_; rintro e w' ⟨rfl, rfl⟩)
  go_ret
  exact ⟨rfl, rfl⟩
theorem tab_Put_live (H : TabAt w p S T) (n b : Int) {l : List Int} (hn : T.g n = some l) {i : Nat} (hi : i < l.length) (hd : l[i] ≠ -1) (hb : 0 ≤ b) (hlen : l.length ≤ 4096) :
    Calls Try.prog 28 #[.pointer (some ⟨p, 0, none⟩), .int .i64 n, .int .i64 i, .int .i64 b] w fun e w' => e = .returned (.int .i64 9) ∧ w = w' := by
  have HA := H
  obtain ⟨g, h, blk, H⟩ := H
  have c0 := H.c0
  have ci := H.cell hn hi
  have HN := Lib.hid hn; clear hn
  have hx : (l[i] != -1) = true := by simpa using hd
  clear hd
  generalize l[i] = x at *
  go_enter Try.func28, Try.ntmps28
  go_wp2_with (first
    | (go_at_call 90; refine (tab_in_ok HA n _ HN.out (by omega) (by omega)).mono ?_; rintro e w' ⟨rfl, rfl⟩)
    | (at_lookup; refine wpList_look_some H HN.out rfl _ _ rfl rfl rfl ?_))
  go_ret
  exact ⟨rfl, rfl⟩
theorem tab_Clear_out (H : TabAt w p S T) (n s : Int) {l : List Int} (hn : T.g n = some l) (hs : s < 0 ∨ l.length ≤ s) :
    Calls Try.prog 75 #[.pointer (some ⟨p, 0, none⟩), .int .i64 n, .int .i64 s] w fun e w' => e = .returned (.int .i64 3) ∧ w = w' := by
  have HN := Lib.hid hn; clear hn
  have HS := Lib.hid hs; clear hs
  go_enter Try.func75, Try.ntmps75
  go_wp2_with (go_at_call 90; refine (tab_in_out H n _ HN.out HS.out).mono ?_; rintro e w' ⟨rfl, rfl⟩)
  go_ret
  exact ⟨rfl, rfl⟩
theorem tab_Clear_dead (H : TabAt w p S T) (n : Int) {l : List Int} (hn : T.g n = some l) {i : Nat} (hi : i < l.length) (hd : l[i] = -1) (hlen : l.length ≤ 4096) :
    Calls Try.prog 75 #[.pointer (some ⟨p, 0, none⟩), .int .i64 n, .int .i64 i] w fun e w' => e = .returned (.int .i64 9) ∧ w = w' := by
  have HA := H
  obtain ⟨g, h, blk, H⟩ := H
  have c0 := H.c0
  have ci := H.cell hn hi
  rw [hd] at ci
  have HN := Lib.hid hn; clear hn
  clear hd
  go_enter Try.func75, Try.ntmps75
  go_wp2_with (first
    | (go_at_call 90; refine (tab_in_ok HA n _ HN.out (by omega) (by omega)).mono ?_; rintro e w' ⟨rfl, rfl⟩)
    | (at_lookup; refine wpList_look_some H HN.out rfl _ _ rfl rfl rfl ?_))
  go_ret
  exact ⟨rfl, rfl⟩
theorem tab_Clear_live (H : TabAt w p S T) (n b : Int) {l : List Int} (hn : T.g n = some l) {i : Nat} (hi : i < l.length) (hd : l[i] = b) (hb : b ≠ -1) (hf : T.f b = some (n, ((i : Nat) : Int))) (hlen : l.length ≤ 4096) :
    Calls Try.prog 75 #[.pointer (some ⟨p, 0, none⟩), .int .i64 n, .int .i64 i] w fun e w' => e = .returned (.int .i64 0) ∧ TabAt w' p S (T.clear n i b) ∧ But S w w' := by
  have HA := H
  obtain ⟨g, h, blk, H⟩ := H
  have c0 := H.c0
  have c1 := H.c1
  have ci := H.cell hn hi
  rw [hd] at ci
  have HN := Lib.hid hn; clear hn
  have HF := Lib.hid hf; clear hf
  have hx : (b == -1) = false := by simpa using hb
  clear hd hb
  go_enter Try.func75, Try.ntmps75
  go_wp2_with (first
    | (go_at_call 90; refine (tab_in_ok HA n _ HN.out (by omega) (by omega)).mono ?_; rintro e w' ⟨rfl, rfl⟩)
    | (at_lookup; refine wpList_look_some H HN.out rfl _ _ rfl rfl rfl ?_)
    | (at_lookup; refine wpList_find1 H b HF.out rfl _ _ rfl rfl rfl ?_)
    | (at_builtin; refine stop_at ?_)
    | (at_delete; refine stop_at ?_))
  refine Stop.mk ?_
  refine wpList_where_del H b rfl _ _ rfl rfl rfl ?_
  intro w1 H1 B1
  have HN1 : Hid ((T.delF b).g n = some l) := HN
  clear c0 c1 ci
  have c0 := H1.c0
  go_wp2_with (first
    | (at_lookup; refine wpList_look_some H1 HN1.out rfl _ _ rfl rfl rfl ?_)
    | (refine stop_at (o := ⟨none, .store _ _ _, _, _, _, _⟩) ?_))
  refine Stop.mk ?_
  refine wpList_slot H1 HN1.out hi (-1) rfl _ _ rfl rfl rfl ?_
  intro w2 H2 B2
  go_wp2
  go_ret
  exact ⟨rfl, ⟨g, h, blk, H2⟩, B1.trans B2⟩
theorem tab_Block_dead (H : TabAt w p S T) (n : Int) {l : List Int} (hn : T.g n = some l) {i : Nat} (hi : i < l.length) (hd : l[i] = -1) (hlen : l.length ≤ 4096) :
    Calls Try.prog 74 #[.pointer (some ⟨p, 0, none⟩), .int .i64 n, .int .i64 i] w fun e w' => e = .returned (.tuple #[.int .i64 0, .bool false]) ∧ w = w' := by
  have HA := H
  obtain ⟨g, h, blk, H⟩ := H
  have c0 := H.c0
  have ci := H.cell hn hi
  rw [hd] at ci
  have HN := Lib.hid hn; clear hn
  clear hd
  go_enter Try.func74, Try.ntmps74
  go_wp2_with (first
    | (go_at_call 90; refine (tab_in_ok HA n _ HN.out (by omega) (by omega)).mono ?_; rintro e w' ⟨rfl, rfl⟩)
    | (at_lookup; refine wpList_look_some H HN.out rfl _ _ rfl rfl rfl ?_))
  go_ret2
  exact ⟨rfl, rfl⟩
theorem tab_Block_live (H : TabAt w p S T) (n b : Int) {l : List Int} (hn : T.g n = some l) {i : Nat} (hi : i < l.length) (hd : l[i] = b) (hb : b ≠ -1) (hlen : l.length ≤ 4096) :
    Calls Try.prog 74 #[.pointer (some ⟨p, 0, none⟩), .int .i64 n, .int .i64 i] w fun e w' => e = .returned (.tuple #[.int .i64 b, .bool true]) ∧ w = w' := by
  have HA := H
  obtain ⟨g, h, blk, H⟩ := H
  have c0 := H.c0
  have ci := H.cell hn hi
  rw [hd] at ci
  have HN := Lib.hid hn; clear hn
  have hx : (b == -1) = false := by simpa using hb
  clear hd hb
  go_enter Try.func74, Try.ntmps74
  go_wp2_with (first
    | (go_at_call 90; refine (tab_in_ok HA n _ HN.out (by omega) (by omega)).mono ?_; rintro e w' ⟨rfl, rfl⟩)
    | (at_lookup; refine wpList_look_some H HN.out rfl _ _ rfl rfl rfl ?_))
  go_ret2
  exact ⟨rfl, rfl⟩
theorem tab_Slots (H : TabAt w p S T) (n : Int) {l : List Int} (hn : T.g n = some l) :
    Calls Try.prog 30 #[.pointer (some ⟨p, 0, none⟩), .int .i64 n] w fun e w' => e = .returned (.int .i64 l.length) ∧ w = w' := by
  obtain ⟨g, h, blk, H⟩ := H
  have c0 := H.c0
  have HN := Lib.hid hn; clear hn
  go_enter Try.func30, Try.ntmps30
  go_wp2_with (at_lookup; refine wpList_look_some H HN.out rfl _ _ rfl rfl rfl ?_)
  go_ret
  exact ⟨rfl, rfl⟩
def findV (s : Option (Int × Int)) : Value := match s with | none => .tuple #[.int .i64 0, .int .i64 0, .bool false] | some s => .tuple #[.int .i64 s.1, .int .i64 s.2, .bool true]
theorem tab_Find (H : TabAt w p S T) (b : Int) (r : Option (Int × Int)) (hr : T.f b = r) :
    Calls Try.prog 32 #[.pointer (some ⟨p, 0, none⟩), .int .i64 b] w fun e w' => e = .returned (findV r) ∧ Kept w w' := by
  obtain ⟨g, h, blk, H⟩ := H
  have c1 := H.c1
  have HR := Lib.hid hr; clear hr
  have hk : ∀ o n, Kept w ((w.alloc o).drewN n) := fun o n => ((Kept.refl w).alloc o).drewN n
  cases r with
  | none =>
    go_enter Try.func32, Try.ntmps32
    go_wp2_with (at_lookup; refine wpList_find H b rfl _ _ rfl rfl rfl (.tuple #[.agg #[.int .i64 0, .int .i64 0], .bool false]) (by rw [HR.out]) ?_)
    go_quiet (fail)
    go_wp2
    go_ret3
    exact ⟨rfl, hk _ _⟩
  | some s =>
    obtain ⟨x, y⟩ := s
    go_enter Try.func32, Try.ntmps32
    go_wp2_with (at_lookup; refine wpList_find H b rfl _ _ rfl rfl rfl (.tuple #[.agg #[.int .i64 x, .int .i64 y], .bool true]) (by rw [HR.out]) ?_)
    go_quiet (fail)
    go_wp2
    go_ret3
    exact ⟨rfl, hk _ _⟩
end
end Go.Proofs.Ytglplhmclfekfaa
