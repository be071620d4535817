/- extent.Map: Take. -/
import Derived.Test.YtglplhmclfekfaaDoorExa
namespace Go.Proofs.YtglplhmclfekfaaDoor
open Go.RowKit Go.ChangeMaps Go.MapKept
set_option linter.unusedVariables false
set_option linter.unusedSimpArgs false

def exV (d a : Int) : Value := .agg #[.int .i64 d, .int .i64 a]
def extV (d a e : Int) : Value := .tuple #[exV d a, .int .i64 e]
theorem But.wrote_new {S : Nat → Prop} {a w w1 : World} {g : Nat} {cs : List Value} {t : TypeId} (h : But S a w) (hw : Wrote w w1 g cs t) (hg : a.heap.size ≤ g) : But S a w1 :=
  ⟨hw.os.trans h.os, hw.tape.trans h.tape, hw.output.trans h.output, by rw [hw.size]; exact h.size, fun i hi hn => (hw.oth i (by omega)).trans (h.block i hi hn)⟩
theorem XAt.wrote_new {w w1 : World} {q : Nat} {S : Nat → Prop} {E : XT} {g : Nat} {cs : List Value} {t : TypeId} (h : XAt w q S E) (hw : Wrote w w1 g cs t) (hg : ¬ S g) : XAt w1 q S E := by
  obtain ⟨gg, blk, H⟩ := h
  exact ⟨gg, blk, H.but (R := fun k => k = g) (But.wrote hw rfl) fun k hk e => hg (e ▸ hk)⟩
theorem ty_ext : AggT Tryd.prog 33 2 := ⟨⟨_, Tryd.underlying33, rfl⟩, by kernel_rfl⟩
theorem zero_ext (w : World) : (zeroValue 33).run Tryd.prog w = .ok (.agg [Value.int .i64 0, .int .i64 0].toArray) w := by kernel_rfl
theorem results_ext {fn : Func} {p q : Tmp} (h : fn.results = #[.cell p 33, .tmp q]) (tmps : Array Value) (w : World) (b : Nat) (d a : Int)
    (hp : tmps.getD p undef = .pointer (some ⟨b, 0, none⟩)) (hc : Cells w b 0 [.int .i64 d, .int .i64 a]) :
    (results fn tmps).run Tryd.prog w = .ok (.tuple #[exV d a, tmps.getD q undef]) w := by
  have hp' : tmps[p]?.getD undef = .pointer (some ⟨b, 0, none⟩) := by simpa using hp
  have hd : ∃ d, Tryd.prog.underlying 33 = some d ∧ d.isRow = true := ⟨_, Tryd.underlying33, rfl⟩
  obtain ⟨dd, hd1, hd2⟩ := hd
  have hr := run_loadVar_mid (P := Tryd.prog) w b 0 33 _ dd (rangeAt_of_cells hc) hd1 hd2 (by kernel_rfl)
  simp [results, h, hp', asAddr, hr, exV]
def TakeR (E : XT) (d : Int) (v : Value) (E' : XT) : Prop :=
  (E d = none ∧ v = extV 0 0 8 ∧ E' = E) ∨ ∃ n s, E d = some (n, s) ∧ (((∀ j, j < n → s j = true) ∧ v = extV 0 0 4 ∧ E' = E) ∨ ∃ i : Nat, i < n ∧ s i = false ∧ (∀ j, j < i → s j = true) ∧ v = extV d (114 + (i : Int) * 8) 0 ∧ E' = E.set d n (setS s i true))
section
variable {w : World} {q : Nat} {S : Nat → Prop} {E : XT}
set_option maxHeartbeats 1000000
set_option maxRecDepth 100000
theorem ext_Take (H : XAt w q S E) (hT : DbAt w) (d : Int) : Calls Tryd.prog 11 #[.pointer (some ⟨q, 0, none⟩), .int .i64 d] w fun e w' => ∃ v E', e = .returned v ∧ TakeR E d v E' ∧ XAt w' q S E' ∧ But S w w' := by
  have HT := Lib.hid hT; clear hT
  obtain ⟨g, blk, H⟩ := H
  have HNS := Lib.hid (show ¬ S w.heap.size from fun h => by have := H.slt _ h; omega)
  cases hd : E d with
  | none =>
    have HD := Lib.hid hd; clear hd
    go_enter Tryd.func11, Tryd.ntmps11
    go_wp2_with (first
      | (refine wpList_alloc_abs rfl 33 rfl [Value.int .i64 0, .int .i64 0] zero_ext ?_; intro w1 hz1 hl1 hs1 hk1; have H1 := H.same hk1; have c0 := H1.c0)
      | (at_lookup; refine wpList_mem_none H1 HD.out rfl _ _ rfl rfl rfl ?_)
      | (refine wpList_store_agg (o := ⟨none, .store _ _ _, _, _, _, _⟩) rfl _ _ rfl ty_ext w.heap.size 0 rfl [Value.int .i64 0, .int .i64 0] rfl rfl (by simp [Value.oneCell']) [Value.int .i64 0, .int .i64 0] 33 hz1.out (by simp) ?_; intro w2 hw2))
    refine bodyPost_ret (results_ext rfl _ _ w.heap.size 0 0 rfl (hw2.all rfl).cells) rfl ?_
    exact ⟨_, E, rfl, .inl ⟨HD.out, rfl, rfl⟩, XAt.wrote_new ⟨g, blk, H1⟩ hw2 HNS.out, (But.kept hk1).wrote_new hw2 (Nat.le_refl _)⟩
  | some x =>
    obtain ⟨n, s⟩ := x
    have HD := Lib.hid hd; clear hd
    have hn := (H.row d n s HD.out).1
    have HDN := Lib.hid (show E d ≠ none by rw [HD.out]; simp)
    have HLT := Lib.hid (H.row d n s HD.out).lt
    go_enter Tryd.func11, Tryd.ntmps11
    go_wp2_with (first
      | (refine wpList_alloc_abs rfl 33 rfl [Value.int .i64 0, .int .i64 0] zero_ext ?_; intro w1 hz1 hl1 hs1 hk1; have H1 := H.same hk1; have c0 := H1.c0)
      | (at_lookup; refine wpList_mem_some H1 HD.out rfl _ _ rfl rfl rfl ?_)
      | (refine stop_at (o := ⟨some 20, _, _, _, _, _⟩) ?_))
    refine Stop.mk ?_
    go_wp2_with fail
    refine Calls.mono (bits_Take (H1.row d n s HD.out) (HT.out.kept hk1)) ?_
    rintro e w2 (⟨i, hi, hs, hl, rfl, hb2, hk2⟩ | ⟨hall, rfl, rfl⟩)
    · have HS := Lib.hid hs; clear hs
      have HL := Lib.hid hl; clear hl
      have H2 := H1.turn HD.out hb2 hk2
      have hz2 := hk2.blk (k := w.heap.size) (fun e => by have := HLT.out; omega) hz1.out
      have B2 : But S w w2 := (But.kept hk1).trans (hk2.mono fun k e => e ▸ H.own d HDN.out)
      clear hk2 hb2
      go_wp2_with (first
        | (go_at_call 22; refine Calls.mono (ext_Place (i : Int) (by omega) (by omega) _) ?_; rintro e w' ⟨rfl, rfl⟩)
        | (refine wpList_store_agg (o := ⟨none, .store _ _ _, _, _, _, _⟩) rfl _ _ rfl ty_ext w.heap.size 0 rfl [Value.int .i64 d, .int .i64 (114 + (i : Int) * 8)] rfl rfl (by simp [Value.oneCell']) [Value.int .i64 0, .int .i64 0] 33 hz2 (by simp) ?_; intro w3 hw3))
      refine bodyPost_ret (results_ext rfl _ _ w.heap.size d (114 + (i : Int) * 8) rfl (hw3.all rfl).cells) rfl ?_
      exact ⟨_, _, rfl, .inr ⟨n, s, HD.out, .inr ⟨i, hi, HS.out, HL.out, rfl, rfl⟩⟩, XAt.wrote_new ⟨g, blk, H2⟩ hw3 HNS.out, B2.wrote_new hw3 (Nat.le_refl _)⟩
    · have HL := Lib.hid hall; clear hall
      go_wp2_with (refine wpList_store_agg (o := ⟨none, .store _ _ _, _, _, _, _⟩) rfl _ _ rfl ty_ext w.heap.size 0 rfl [Value.int .i64 0, .int .i64 0] rfl rfl (by simp [Value.oneCell']) [Value.int .i64 0, .int .i64 0] 33 hz1.out (by simp) ?_; intro w3 hw3)
      refine bodyPost_ret (results_ext rfl _ _ w.heap.size 0 0 rfl (hw3.all rfl).cells) rfl ?_
      exact ⟨_, E, rfl, .inr ⟨n, s, HD.out, .inl ⟨HL.out, rfl, rfl⟩⟩, XAt.wrote_new ⟨g, blk, H1⟩ hw3 HNS.out, (But.kept hk1).wrote_new hw3 (Nat.le_refl _)⟩
end
end Go.Proofs.YtglplhmclfekfaaDoor
