/- PaG: several texts in one: Dks Dku Dkv Rey Dkw Dkx Dla. -/
import Derived.Test.YtpeclkhppgabfaaDoorPaF
import Derived.Test.YtpeclkhppgabfaaDoorPaD
import Derived.Test.YtpeclkhppgabfaaDoorPaB
import Derived.Laws.CopyOwn
import Derived.Deep.RegionLaw
import Derived.Deep.RegionHeld3
import Derived.Deep.DrawnRows
import Derived.Test.YtpeclkhppgabfaaDoorPaA
import Derived.ProofKit
import Derived.OpenShut
import Derived.ChangeOld
import Derived.Deep.Slices
import Derived.Deep.Fields
import Derived.Deep.DeepCutAuto
/- A disk.Bank: Add (gen_add.py). -/
namespace Go.Proofs.YtpeclkhppgabfaaDoor
open Go.RowKit
set_option linter.unusedVariables false
set_option linter.unusedSimpArgs false

theorem size_ptrs : (Tryd.prog.info? 87).map (·.size) = some 1 := by kernel_rfl
theorem wp_append_run {P : Program} {o : Oper} {a : Act} {w w' : World} {K : Act → World → Prop} {Q : Exit → Act → World → Prop} {s x : Operand} {t : TypeId} {v u v' : Value} (ho : o.op = .call { callee := .builtin .append, args := #[s, x], argTypes := #[t, t] }) (hs : a.eval s = v) (hx : a.eval x = u)
    (hr : (Builtin.append_ #[t, t] o.type #[v, u]).run P w = .ok v' w') (h : K (a.put o.dst v') w') : o.wp P a w K Q := by
  unfold Oper.wp execOp
  simp only [ho, resolve, invoke, builtin, Sem.run_bind, Sem.run_pure, Result.andThen_ok, List.map_toArray, List.map_cons, List.map_nil, hs, hx, hr]
  exact h
/-- One cell is set, in a drawn region. -/
theorem wp_set_cell {P : Program} {o : Oper} {a : Act} {w : World} {K : Act → World → Prop} {Q : Exit → Act → World → Prop} {T : Nat} (x y : Operand) (ho : o.op = .store T x y) (hT : (P.info? T).map (·.size) = some 1)
    (b off : Nat) (hx : a.eval x = .pointer (some ⟨b, off, none⟩)) (v : Value) (hy : a.eval y = v) (hv : v.cells = #[v]) (h1 : v.oneCell' = true)
    (cur : List Value) (t : TypeId) (hb : w.heap[b]? = some (.cells cur.toArray t (0, 0))) (hfit : off < cur.length)
    (h : ∀ w1, Wrote w w1 b (cur.set off v) t → K (a.put o.dst undef) w1) : o.wp P a w K Q := by
  have hst := run_storeCells_at P b off t [v] 0 cur.toArray w hb (by simp; omega) (by simpa using h1)
  cases hq : P.info? T with
  | none => simp [hq] at hT
  | some i =>
    have hi : i.size = 1 := by simpa [hq] using hT
    unfold Oper.wp execOp
    simp only [ho, hx, hy, Instr.storeAt, Instr.sureAddr, Sem.run_bind, Sem.run_pure, Result.andThen_ok, storeVar, sizeOf, typeInfo, run_program, hq, hv, hi, List.size_toArray, List.length_cons, List.length_nil, Nat.zero_add, ne_eq, not_true_eq_false, if_false, show (#[v] : Array Value).size = 1 from rfl, show (#[v] : Array Value) = [v].toArray from rfl, hst]
    refine h _ ⟨?_, ?_, ?_, rfl, rfl, rfl⟩
    · rw [setRow_heap w b _ _ t _ hb]
      simp [List.set_eq_take_append_cons_drop, hfit]
    · intro k hk; exact setRow_other w b k _ hk
    · simp
section
variable {w : World} {Y : Lay} {T : BankT}
set_option maxHeartbeats 1000000
set_option maxRecDepth 100000
theorem bank_Add (h : BankD w Y T) (hl : T.l.length < 32) (n : Nat) (hn1 : 1 ≤ n) (hn2 : n ≤ 4096) :
    Calls Tryd.prog 32 #[.pointer (some ⟨Y.A 0, 0, none⟩), .int .i64 (n : Int)] w fun e w' =>
      e = .returned (.tuple #[.int .i64 (T.l.length : Int), .int .i64 0]) ∧ ∃ Y' : Lay, BankD w' Y' (T.add n) ∧ Y'.A 0 = Y.A 0 ∧ (∀ b, Y'.In (T.l.length + 1) b → Y.In T.l.length b ∨ w.heap.size ≤ b) ∧ But (Y.In T.l.length) w w' := by
  obtain ⟨ao, cap, hli⟩ : ∃ ao cap, Y.list T.l.length = .slice ao T.l.length cap := by
    by_cases h0 : T.l.length = 0
    · exact ⟨none, 0, by simp [Lay.list, h0]⟩
    · exact ⟨some ⟨Y.A 1, 0, none⟩, Y.c, by simp [Lay.list, h0]⟩
  have b0 : w.cell? ⟨Y.A 0, 0, none⟩ = some (.slice ao T.l.length cap) := by
    rw [cell_of_row _ _ _ _ _ _ h.bank]; simp [bankVals, hli]
  have H := Lib.hid h
  have HLI := Lib.hid hli
  clear h hli
  go_enter Tryd.func32, Tryd.ntmps32
  go_upto_region 5 with fail
  have hS : w.drew.cell? ⟨Y.A 0, 0, none⟩ = some (.slice ao T.l.length cap) := b0
  refine wp_region_calm ?_
  refine wp_region_E (fun W => W.cell? ⟨Y.A 0, 0, none⟩ = some (.slice ao T.l.length cap)) 18 (by kernel_rfl) ?_
  refine wpAnyE_take (i := 0) (v := ?_) (listed' := #[true, false, false, false, false, false, false, false, false, false, false, false, false, false, false, false, false, false, false]) (by rfl) (by kernel_rfl) (by kernel_rfl) calm_put hS (by rfl) ?_ ?_
  rotate_left
  · intro W hW; clear hW; go_simp; try (with_reducible rfl)
  simp only [Act.put, List.getElem_toArray, List.getElem_cons_succ, List.getElem_cons_zero, List.setIfInBounds_toArray, List.set_cons_zero, List.set_cons_succ]
  refine wpAnyE_take (i := 1) (v := ?_) (listed' := #[true, true, false, false, false, false, false, false, false, false, false, false, false, false, false, false, false, false, false]) (by rfl) (by kernel_rfl) (by kernel_rfl) calm_put hS (by rfl) ?_ ?_
  rotate_left
  · intro W hW; clear hW; go_simp; try (with_reducible rfl)
  simp only [Act.put, List.getElem_toArray, List.getElem_cons_succ, List.getElem_cons_zero, List.setIfInBounds_toArray, List.set_cons_zero, List.set_cons_succ]
  refine wpAnyE_take (i := 2) (v := ?_) (listed' := #[true, true, true, false, false, false, false, false, false, false, false, false, false, false, false, false, false, false, false]) (by rfl) (by kernel_rfl) (by kernel_rfl) calm_put hS (by rfl) ?_ ?_
  rotate_left
  · intro W hW; clear hW; go_simp; try (with_reducible rfl)
  simp only [Act.put, List.getElem_toArray, List.getElem_cons_succ, List.getElem_cons_zero, List.setIfInBounds_toArray, List.set_cons_zero, List.set_cons_succ]
  refine wpAnyE_take (i := 3) (v := ?_) (listed' := #[true, true, true, true, false, false, false, false, false, false, false, false, false, false, false, false, false, false, false]) (by rfl) (by kernel_rfl) (by kernel_rfl) calm_put hS (by rfl) ?_ ?_
  rotate_left
  · intro W hW; clear hW; go_simp; try (with_reducible rfl)
  simp only [Act.put, List.getElem_toArray, List.getElem_cons_succ, List.getElem_cons_zero, List.setIfInBounds_toArray, List.set_cons_zero, List.set_cons_succ]
  refine wpAnyE_take (i := 4) (v := ?_) (listed' := #[true, true, true, true, true, false, false, false, false, false, false, false, false, false, false, false, false, false, false]) (by rfl) (by kernel_rfl) (by kernel_rfl) calm_put hS (by rfl) ?_ ?_
  rotate_left
  · intro W hW; have c0 := hW; go_simp; try (with_reducible rfl)
  simp only [Act.put, List.getElem_toArray, List.getElem_cons_succ, List.getElem_cons_zero, List.setIfInBounds_toArray, List.set_cons_zero, List.set_cons_succ]
  refine wpAnyE_take (i := 5) (v := ?_) (listed' := #[true, true, true, true, true, true, false, false, false, false, false, false, false, false, false, false, false, false, false]) (by rfl) (by kernel_rfl) (by kernel_rfl) calm_put hS (by rfl) ?_ ?_
  rotate_left
  · intro W hW; clear hW; go_simp; try (with_reducible rfl)
  simp only [Act.put, List.getElem_toArray, List.getElem_cons_succ, List.getElem_cons_zero, List.setIfInBounds_toArray, List.set_cons_zero, List.set_cons_succ]
  refine wpAnyE_take (i := 7) (v := ?_) (listed' := #[true, true, true, true, true, true, false, true, false, false, false, false, false, false, false, false, false, false, false]) (by rfl) (by kernel_rfl) (by kernel_rfl) calm_put hS (by rfl) ?_ ?_
  rotate_left
  · intro W hW; clear hW; go_simp; try (with_reducible rfl)
  simp only [Act.put, List.getElem_toArray, List.getElem_cons_succ, List.getElem_cons_zero, List.setIfInBounds_toArray, List.set_cons_zero, List.set_cons_succ]
  refine wpAnyE_take (i := 9) (v := ?_) (listed' := #[true, true, true, true, true, true, false, true, false, true, false, false, false, false, false, false, false, false, false]) (by rfl) (by kernel_rfl) (by kernel_rfl) calm_put hS (by rfl) ?_ ?_
  rotate_left
  · intro W hW; clear hW; go_simp; try (with_reducible rfl)
  simp only [Act.put, List.getElem_toArray, List.getElem_cons_succ, List.getElem_cons_zero, List.setIfInBounds_toArray, List.set_cons_zero, List.set_cons_succ]
  refine wpAnyE_makes (i := 6) (j := 8) (k := 10) (di := 26) (dj := 28) (dk := 30) (mi := 25) (mj := 27) (mk := 29) (n := n) (Li := #[true, true, true, true, true, true, true, true, false, true, false, false, false, false, false, false, false, false, false]) (Lj := #[true, true, true, true, true, true, false, true, true, true, false, false, false, false, false, false, false, false, false]) (Lk := #[true, true, true, true, true, true, false, true, false, true, true, false, false, false, false, false, false, false, false]) (Lij := #[true, true, true, true, true, true, true, true, true, true, false, false, false, false, false, false, false, false, false]) (Lik := #[true, true, true, true, true, true, true, true, false, true, true, false, false, false, false, false, false, false, false]) (Ljk := #[true, true, true, true, true, true, false, true, true, true, true, false, false, false, false, false, false, false, false]) (L3 := #[true, true, true, true, true, true, true, true, true, true, true, false, false, false, false, false, false, false, false]) rfl rfl rfl (by kernel_rfl) rfl rfl rfl (by kernel_rfl) (by kernel_rfl) (by kernel_rfl) rfl rfl rfl rfl rfl rfl (by kernel_rfl) (by kernel_rfl) (by kernel_rfl) rfl rfl rfl (makes_secs rfl rfl rfl hn2) (makes_secs rfl rfl rfl hn2) (makes_ints rfl rfl rfl hn2) (by omega) rfl rfl rfl (by decide) (fun w' hk => hk.cell' hS) ?_
  intro p q r w3 hp hq hr hpq hpr hqr bp bq br hk3
  simp only [Act.put, List.getElem_toArray, List.getElem_cons_succ, List.getElem_cons_zero, List.setIfInBounds_toArray, List.set_cons_zero, List.set_cons_succ]
  have hS3 : w3.cell? ⟨Y.A 0, 0, none⟩ = some (.slice ao T.l.length cap) := hk3.cell' hS
  obtain ⟨A, hA⟩ : ∃ A, A = Obj.cells #[Value.slice (some ⟨p, 0, none⟩) n n, .slice (some ⟨q, 0, none⟩) n n, .slice (some ⟨r, 0, none⟩) n n, .bool false, .int .i64 0] 86 := ⟨_, rfl⟩
  obtain ⟨B, hB⟩ : ∃ B, B = Obj.cells #[Value.pointer (some ⟨w3.heap.size, 0, none⟩)] 79 := ⟨_, rfl⟩
  obtain ⟨w5, hw5⟩ : ∃ w5, w5 = (w3.alloc A).alloc B := ⟨_, rfl⟩
  have hk5 : Kept w3 w5 := by rw [hw5]; exact ((Kept.refl w3).alloc _).alloc _
  have bm : w5.heap[w3.heap.size]? = some A := by rw [hw5]; exact ((Kept.refl (w3.alloc A)).alloc B).block (heap_alloc_new w3 A)
  have bb : w5.heap[w3.heap.size + 1]? = some B := by rw [hw5]; have := heap_alloc_new (w3.alloc A) B; rwa [World.size_alloc] at this
  have hs5 : w5.heap.size = w3.heap.size + 1 + 1 := by rw [hw5, World.size_alloc, World.size_alloc]
  rw [hB] at bb
  rw [hA] at bm
  subst hA hB
  have hk3' : Kept w w3 := ((Kept.refl w).drew).trans hk3
  have hsz3 := hk3'.size
  obtain ⟨g, c, row, w6, hrun, r1, r2, r3, r4, r5, r6, r7, r8⟩ := list_append (H.out.kept (hk3'.trans hk5)) hl bb 87
  have h01 : ¬ (T.l.length ≠ 0 ∧ Y.A 0 = Y.A 1) := fun h => by
    have := H.out.inj 0 1 (by omega) (by omega) (fun e => absurd e h.1) h.2
    omega
  have hS6 : w6.cell? ⟨Y.A 0, 0, none⟩ = some (.slice ao T.l.length cap) := r8.cell h01 (hk5.cell' hS3)
  have HB6 := Lib.hid (r8.blk h01 (((hk3'.trans hk5)).block H.out.bank))
  have hsp : p < w3.heap.size := (Array.getElem?_eq_some_iff.1 bp).1
  have hsq : q < w3.heap.size := (Array.getElem?_eq_some_iff.1 bq).1
  have hsr : r < w3.heap.size := (Array.getElem?_eq_some_iff.1 br).1
  have BP := Lib.hid (hk5.block bp); have BQ := Lib.hid (hk5.block bq); have BR := Lib.hid (hk5.block br); have BM := Lib.hid bm
  have R1 := Lib.hid r1; have R5 := Lib.hid r5; have R6 := Lib.hid r6; have R7 := Lib.hid r7; have R8 := Lib.hid r8
  have HK := Lib.hid (hk3'.trans hk5)
  clear bp bq br bm bb r1 r5 r6 r7 r8 hk3 hk3' hk5 b0
  change w.heap.size ≤ p at hp
  change w.heap.size ≤ q at hq
  change w.heap.size ≤ r at hr
  refine wpAnyE_take (i := 11) (v := ?_) (listed' := #[true, true, true, true, true, true, true, true, true, true, true, true, false, false, false, false, false, false, false]) (by rfl) (by kernel_rfl) (by kernel_rfl) calm_put hS3 (by rfl) ?_ ?_
  rotate_left
  · intro W hW; clear hW; go_simp; try (with_reducible rfl)
  simp only [Act.put, List.getElem_toArray, List.getElem_cons_succ, List.getElem_cons_zero, List.setIfInBounds_toArray, List.set_cons_zero, List.set_cons_succ]
  refine wpAnyE_take (i := 12) (v := ?_) (listed' := #[true, true, true, true, true, true, true, true, true, true, true, true, true, false, false, false, false, false, false]) (by rfl) (by kernel_rfl) (by kernel_rfl) calm_put hS3 (by rfl) ?_ ?_
  rotate_left
  · intro W hW; clear hW; go_simp; try (with_reducible rfl)
  simp only [Act.put, List.getElem_toArray, List.getElem_cons_succ, List.getElem_cons_zero, List.setIfInBounds_toArray, List.set_cons_zero, List.set_cons_succ]
  refine wpAnyE_one (i := 13) (listed' := #[true, true, true, true, true, true, true, true, true, true, true, true, true, true, false, false, false, false, false]) (by rfl) (by kernel_rfl) (by kernel_rfl) (by rfl) (fun K hK => ?_)
  simp only [Act.put, List.getElem_toArray, List.getElem_cons_succ, List.getElem_cons_zero, List.setIfInBounds_toArray, List.set_cons_zero, List.set_cons_succ]
  go_wp2
  refine hK _ _ (fun _ => ((Kept.refl _).alloc _).cell' hS3) ?_; clear hK K
  refine wpAnyE_one (i := 14) (listed' := #[true, true, true, true, true, true, true, true, true, true, true, true, true, true, true, false, false, false, false]) (by rfl) (by kernel_rfl) (by kernel_rfl) (by rfl) (fun K hK => ?_)
  simp only [Act.put, List.getElem_toArray, List.getElem_cons_succ, List.getElem_cons_zero, List.setIfInBounds_toArray, List.set_cons_zero, List.set_cons_succ]
  go_wp2
  refine hK _ _ (fun _ => (((Kept.refl _).alloc _).alloc _).cell' hS3) ?_; clear hK K
  rw [← hw5]
  refine wpAnyE_one (i := 15) (listed' := #[true, true, true, true, true, true, true, true, true, true, true, true, true, true, true, true, false, false, false]) (by rfl) (by kernel_rfl) (by kernel_rfl) (by rfl) (fun K hK => ?_)
  simp only [Act.put, List.getElem_toArray, List.getElem_cons_succ, List.getElem_cons_zero, List.setIfInBounds_toArray, List.set_cons_zero, List.set_cons_succ]
  refine wp_append_run rfl rfl rfl (by rw [HLI.out] at hrun; exact hrun) ?_
  refine hK _ _ (fun _ => hS6) ?_; clear hK K
  simp only [Act.put, List.getElem_toArray, List.getElem_cons_succ, List.getElem_cons_zero, List.setIfInBounds_toArray, List.set_cons_zero, List.set_cons_succ]
  refine wpAnyE_one (i := 16) (listed' := #[true, true, true, true, true, true, true, true, true, true, true, true, true, true, true, true, true, false, false]) (by rfl) (by kernel_rfl) (by kernel_rfl) (by rfl) (fun K hK => ?_)
  simp only [Act.put, List.getElem_toArray, List.getElem_cons_succ, List.getElem_cons_zero, List.setIfInBounds_toArray, List.set_cons_zero, List.set_cons_succ]
  go_wp2
  refine hK _ _ (fun _ => hS6) ?_; clear hK K
  refine wpAnyE_take (i := 17) (v := ?_) (listed' := #[true, true, true, true, true, true, true, true, true, true, true, true, true, true, true, true, true, true, false]) (by rfl) (by kernel_rfl) (by kernel_rfl) calm_put hS6 (by rfl) ?_ ?_
  rotate_left
  · intro W hW; clear hW; go_simp; try (with_reducible rfl)
  simp only [Act.put, List.getElem_toArray, List.getElem_cons_succ, List.getElem_cons_zero, List.setIfInBounds_toArray, List.set_cons_zero, List.set_cons_succ]
  refine wpAnyE_one (i := 18) (listed' := #[true, true, true, true, true, true, true, true, true, true, true, true, true, true, true, true, true, true, true]) (by rfl) (by kernel_rfl) (by kernel_rfl) (by rfl) (fun K hK => ?_)
  simp only [Act.put, List.getElem_toArray, List.getElem_cons_succ, List.getElem_cons_zero, List.setIfInBounds_toArray, List.set_cons_zero, List.set_cons_succ]
  refine wp_set_cell _ _ rfl size_ptrs (Y.A 0) 0 rfl (.slice (some ⟨g, 0, none⟩) (T.l.length + 1) c) rfl rfl rfl _ _ HB6.out (by simp [bankVals]) ?_
  intro w7 hw7
  refine hK _ _ (fun h => absurd rfl h) ?_; clear hK K
  simp only [Act.put, List.getElem_toArray, List.getElem_cons_succ, List.getElem_cons_zero, List.setIfInBounds_toArray, List.set_cons_zero, List.set_cons_succ]
  refine wpAnyE_done (by kernel_rfl) ?_ _
  refine calm_normal ?_
  have c7 : w7.cell? ⟨Y.A 0, 0, none⟩ = some (.slice (some ⟨g, 0, none⟩) (T.l.length + 1) c) := by
    rw [cell_of_row _ _ _ _ _ _ hw7.blk]; simp [bankVals]
  have HW7 := Lib.hid hw7
  clear hw7 hS hS3 hS6 hrun
  go_wp2
  go_ret2
  exact ⟨rfl, H.out.more HK.out hsz3 hp hq hr hpq hpr hqr (by omega) (by omega) (by omega) BM.out BP.out BQ.out BR.out R1.out r2 r3 r4 R5.out R6.out R7.out R8.out HW7.out⟩
end
end Go.Proofs.YtpeclkhppgabfaaDoor
/- A law's own disk.Bank: its calls, with what else the law has. -/
namespace Go.Proofs.YtpeclkhppgabfaaDoor
open Go.RowKit
set_option linter.unusedVariables false
set_option linter.unusedSimpArgs false

/-- Block q of W is a bank that reads as T, made since w0; the blocks that R names are none of its own. -/
def BK (w0 : World) (R : Nat → Prop) (W : World) (q : Nat) (T : BankT) : Prop := ∃ Y : Lay, Y.A 0 = q ∧ BO w0 R W Y T
/-- a bank of which one may make use -/
structure BankT.Use (T : BankT) : Prop where
  inv : T.Inv
  len : T.l.length ≠ 0
  clk : T.clock < 1000000000
  wri : T.writes < 1000000000
section
variable {w0 W W' : World} {R : Nat → Prop} {q : Nat} {T : BankT}
theorem BK.keeps (h : BK w0 R W q T) : Kept w0 W := by obtain ⟨_, _, h⟩ := h; exact h.keeps
theorem BK.kept (h : BK w0 R W q T) (hk : Kept W W') : BK w0 R W' q T ∧ SameR R W W' := by
  obtain ⟨Y, h0, h⟩ := h
  exact ⟨⟨Y, h0, (h.kept hk).1⟩, (h.kept hk).2⟩
theorem BK.less {R' : Nat → Prop} (h : BK w0 R W q T) (hr : ∀ k, R' k → R k) : BK w0 R' W q T := by
  obtain ⟨Y, h0, h⟩ := h
  exact ⟨Y, h0, h.less hr⟩
theorem BK.more (h : BK w0 R W q T) (hk : Kept W W') (B : Nat) (h1 : W.heap.size ≤ B) (h2 : B < W'.heap.size) : BK w0 (fun k => R k ∨ k = B) W' q T := by
  obtain ⟨Y, h0, h⟩ := h
  exact ⟨Y, h0, h.more hk B h1 h2⟩
theorem BK.wrote (h : BK w0 R W q T) {B : Nat} {cs : List Value} {t : TypeId} (hw : Wrote W W' B cs t) (hB : R B) (hb : w0.heap.size ≤ B) : BK w0 R W' q T := by
  obtain ⟨Y, h0, h⟩ := h
  exact ⟨Y, h0, h.wrote hw hB hb⟩
theorem BK.wrote_same {B : Nat} {cs : List Value} {t : TypeId} (hw : Wrote W W' B cs t) (hR : ∀ k, R k → k ≠ B) : SameR R W W' := fun k hk => hw.oth k (hR k hk)
theorem bk_New (w0 W : World) (R : Nat → Prop) (hk : Kept w0 W) (hR : ∀ k, R k → k < W.heap.size) : Calls Tryd.prog 31 #[] W fun e w' => ∃ q, e = .returned (.pointer (some ⟨q, 0, none⟩)) ∧ BK w0 R w' q BankT.zero ∧ Kept W w' :=
  (bank_New W).mono fun e w' ⟨Y, he, hd, h0, hk'⟩ => by
    have hin : ∀ b, Y.In BankT.zero.l.length b → b = W.heap.size := fun b ⟨i, hi, h1, hb⟩ => by
      have h2 := h1 rfl
      have hi : i < 2 := hi
      have : i = 0 := by omega
      rw [hb, this, h0]
    exact ⟨Y.A 0, he, ⟨Y, rfl, ⟨hd, hk.trans hk', fun b hb => by rw [hin b hb]; exact hk.size, fun k hk2 => ⟨Nat.lt_of_lt_of_le (hR k hk2) hk'.size, fun hi => by have := hin k hi; have := hR k hk2; omega⟩⟩⟩, hk'⟩
theorem bk_Add (h : BK w0 R W q T) (hl : T.l.length < 32) (n : Nat) (hn1 : 1 ≤ n) (hn2 : n ≤ 4096) :
    Calls Tryd.prog 32 #[.pointer (some ⟨q, 0, none⟩), .int .i64 (n : Int)] W fun e w' => e = .returned (.tuple #[.int .i64 (T.l.length : Int), .int .i64 0]) ∧ BK w0 R w' q (T.add n) ∧ SameR R W w' := by
  obtain ⟨Y, rfl, h⟩ := h
  refine (bank_Add h.d hl n hn1 hn2).mono ?_
  rintro e w' ⟨he, Y', hd, h0, hin, hb⟩
  have hk' : Kept w0 w' := But.to_kept h.keeps hb h.own
  refine ⟨he, ⟨Y', h0, ⟨hd, hk', fun b hb' => ?_, fun k hk => ⟨Nat.lt_of_lt_of_le (h.off k hk).1 hb.size, fun hi => ?_⟩⟩⟩, fun k hk => hb.block k (h.off k hk).1 (h.off k hk).2⟩
  · rw [BankT.add_len] at hb'
    rcases hin b hb' with h' | h'
    · exact h.own b h'
    · exact Nat.le_trans h.keeps.size h'
  · rw [BankT.add_len] at hi
    rcases hin k hi with h' | h'
    · exact (h.off k hk).2 h'
    · have := (h.off k hk).1; omega
theorem BO.of {Y : Lay} {T' : BankT} (h : BO w0 R W Y T) (hd : BankD W' Y T') (hl : T'.l.length = T.l.length) (hb : But (Y.In T.l.length) W W') : BK w0 R W' (Y.A 0) T' ∧ SameR R W W' := by
  obtain ⟨h1, h2⟩ := h.step hd hl hb
  exact ⟨⟨Y, rfl, h1⟩, h2⟩
theorem bk_Flush (h : BK w0 R W q T) (u : T.Use) (d : Int) : Calls Tryd.prog 57 #[.pointer (some ⟨q, 0, none⟩), .int .i64 d] W fun e w' => e = .returned (.int .i64 (T.flushC d).2) ∧ BK w0 R w' q (T.flushC d).1 ∧ SameR R W w' := by
  obtain ⟨Y, rfl, h⟩ := h
  refine (bank_Flush h.d u.inv.ok u.len d).mono ?_
  rintro e w' ⟨he, hd, hb⟩
  exact ⟨he, h.of hd (by unfold BankT.flushC; split; exact BankT.up_len _ _ _; rfl) hb⟩
theorem bk_Fail (h : BK w0 R W q T) (u : T.Use) (d : Int) : Calls Tryd.prog 22 #[.pointer (some ⟨q, 0, none⟩), .int .i64 d] W fun e w' => e = .returned (.int .i64 (T.failC d).2) ∧ BK w0 R w' q (T.failC d).1 ∧ SameR R W w' := by
  obtain ⟨Y, rfl, h⟩ := h
  refine (bank_Fail h.d u.inv.ok u.len d).mono ?_
  rintro e w' ⟨he, hd, hb⟩
  exact ⟨he, h.of hd (by unfold BankT.failC; split; rfl; exact BankT.up_len _ _ _) hb⟩
theorem bk_Write (h : BK w0 R W q T) (u : T.Use) (d a : Int) {s : List Int} (hs : s.length = 64) : Calls Tryd.prog 17 #[.pointer (some ⟨q, 0, none⟩), .agg #[.int .i64 d, .int .i64 a], .agg (u8s s).toArray] W fun e w' => e = .returned (.int .i64 (T.write d a s).2) ∧ BK w0 R w' q (T.write d a s).1 ∧ SameR R W w' := by
  obtain ⟨Y, rfl, h⟩ := h
  refine (bank_Write h.d u.inv u.len u.wri u.clk d a hs).mono ?_
  rintro e w' ⟨he, hd, hb⟩
  exact ⟨he, h.of hd (BankT.write_rest u.inv.ok d a s).1 hb⟩
theorem bk_Crash (h : BK w0 R W q T) (u : T.Use) (m : Int) (h0 : 0 ≤ m) (h1 : m < 18446744073709551616) : Calls Tryd.prog 20 #[.pointer (some ⟨q, 0, none⟩), .int .u64 m] W fun e w' => e = .returned (.tuple #[]) ∧ BK w0 R w' q (T.crash m) ∧ SameR R W w' := by
  obtain ⟨Y, rfl, h⟩ := h
  refine (bank_Crash h.d u.inv u.len m h0 h1).mono ?_
  rintro e w' ⟨he, hd, hb⟩
  exact ⟨he, h.of hd (BankT.crash_len _ _) hb⟩
theorem bk_Start (h : BK w0 R W q T) : Calls Tryd.prog 21 #[.pointer (some ⟨q, 0, none⟩)] W fun e w' => e = .returned (.tuple #[]) ∧ BK w0 R w' q T.start ∧ SameR R W w' := by
  obtain ⟨Y, rfl, h⟩ := h
  refine (bank_Start h.d).mono ?_
  rintro e w' ⟨he, hd, hb⟩
  exact ⟨he, h.of hd rfl hb⟩
theorem bk_Read (h : BK w0 R W q T) (u : T.Use) (d a : Int) : Calls Tryd.prog 58 #[.pointer (some ⟨q, 0, none⟩), .agg #[.int .i64 d, .int .i64 a]] W fun e w' => e = .returned (.tuple #[.agg (u8s (T.read d a).1).toArray, .int .i64 (T.read d a).2]) ∧ BK w0 R w' q T ∧ SameR R W w' ∧ Kept W w' := by
  obtain ⟨Y, rfl, h⟩ := h
  refine (bank_Read h.d u.inv.ok u.len d a).mono ?_
  rintro e w' ⟨he, hk⟩
  exact ⟨he, ⟨Y, rfl, (h.kept hk).1⟩, (h.kept hk).2, hk⟩
--
--
--
--
--
theorem bk_Up (h : BK w0 R W q T) : Calls Tryd.prog 19 #[.pointer (some ⟨q, 0, none⟩)] W fun e w' => e = .returned (.bool (!T.down)) ∧ W = w' := by
  obtain ⟨Y, rfl, h⟩ := h
  exact bank_Up h.d
--
--
--
--
--
--
theorem bk_Arm (h : BK w0 R W q T) (n m : Int) : Calls Tryd.prog 18 #[.pointer (some ⟨q, 0, none⟩), .int .i64 n, .int .u64 m] W fun e w' => e = .returned (.tuple #[]) ∧ BK w0 R w' q (T.arm n m) ∧ SameR R W w' := by
  obtain ⟨Y, rfl, h⟩ := h
  refine (bank_Arm h.d n m).mono ?_
  rintro e w' ⟨he, hd, hb⟩
  exact ⟨he, h.of hd rfl hb⟩
--
--
--
--
--
end
/-- the sector that law03 makes of a number -/
def secN (n : Int) : List Int := (n % 256) :: ((n / 256) % 256) :: (List.replicate 61 0 ++ [n % 256])
theorem secN_len (n : Int) : (secN n).length = 64 := by simp [secN]
theorem secN_byte (n : Int) : ∀ x ∈ secN n, IsByte x := by
  intro x hx
  simp only [secN, List.mem_cons, List.mem_append, List.mem_replicate, List.mem_singleton, List.mem_nil_iff, or_false] at hx
  unfold IsByte
  rcases hx with rfl | rfl | ⟨_, rfl⟩ | rfl <;> omega
end Go.Proofs.YtpeclkhppgabfaaDoor
/- law03: sector, laid. -/
namespace Go.Proofs.YtpeclkhppgabfaaDoor
open Go.RowKit
set_option linter.unusedVariables false
set_option linter.unusedSimpArgs false

theorem results_sec1 {fn : Func} {p : Tmp} (h : fn.results = #[.cell p 39]) (tmps : Array Value) (w : World) (b : Nat) (bs : List Int)
    (hp : tmps.getD p undef = .pointer (some ⟨b, 0, none⟩)) (hc : Cells w b 0 (u8s bs)) (hl : bs.length = 64) :
    (results fn tmps).run Tryd.prog w = .ok (secV bs) w := by
  obtain ⟨⟨d, hd1, hd2⟩, hs⟩ := ty_sec
  have hp' : tmps[p]?.getD undef = .pointer (some ⟨b, 0, none⟩) := by simpa using hp
  have hr := run_loadVar_mid (P := Tryd.prog) w b 0 39 (u8s bs) d (rangeAt_of_cells hc) hd1 hd2 (by rw [hs, u8s_length, hl])
  simp [results, h, hp', asAddr, hr, secV]
/-- a bank of k disks of eight sectors -/
def addN : Nat → BankT
  | 0 => BankT.zero
  | k + 1 => (addN k).add 8
theorem addN_len : ∀ k, (addN k).l.length = k
  | 0 => rfl
  | k + 1 => by rw [addN, BankT.add_len, addN_len k]
section
variable {w : World}
set_option maxHeartbeats 1000000
set_option maxRecDepth 100000
--
--
--
--
--
--
--
--
--
--
--
--
--
--
--
--
--
--
--
--
--
--
--
--
--
--
--
--
--
--
--
--
--
--
--
--
--
--
--
--
--
--
--
--
--
--
--
--
--
end
end Go.Proofs.YtpeclkhppgabfaaDoor
/- record.Tag.part walked. -/
namespace Go.Proofs.YtpeclkhppgabfaaDoor
open Go.RowKit
set_option linter.unusedVariables false
set_option linter.unusedSimpArgs false

theorem splice_u8sR (t : List Int) (h : t.length ≤ 64) : splice (u8s zeroB) 0 (u8s t) = u8s (t ++ List.replicate (64 - t.length) 0) := by
  have e : (u8s zeroB).drop t.length = u8s (List.replicate (64 - t.length) 0) := by
    rw [show u8s zeroB = List.replicate 64 (.int .u8 0) from by rw [u8s, zeroB, List.map_replicate], List.drop_replicate, u8s, List.map_replicate]
  rw [splice, List.take_zero, List.nil_append, Nat.zero_add, u8s_length, e, u8s_append]
theorem wp_copy_own {P : Program} {w : World} {o : Oper} {a : Act} {K : Act → World → Prop} {Q : Exit → Act → World → Prop} (d s : Operand) (dT sT : TypeId)
    (ho : o.op = .call { callee := .builtin .copy, args := #[d, s], argTypes := #[dT, sT] }) (elem : TypeId) (hu : P.underlying dT = some (.slice elem)) (hsz : (P.info? elem).map (·.size) = some 1)
    (g dLen dCap : Nat) (ad : Addr) (sLen sCap : Nat) (hd : a.eval d = .slice (some ⟨g, 0, none⟩) dLen dCap) (hs : a.eval s = .slice (some ad) sLen sCap)
    (cur : List Value) (t : TypeId) (hg : w.heap[g]? = some (.cells cur.toArray t (0, 0))) (cs : List Value) (hn : cs.length = Nat.min sLen dLen)
    (hsrc : ∀ j v, cs[j]? = some v → w.cell? (ad.add j) = some v) (hfit : cs.length ≤ cur.length) (h1 : ∀ v ∈ cs, v.oneCell' = true)
    (h : ∀ w1, Wrote w w1 g (splice cur 0 cs) t → K (a.put o.dst (goInt cs.length)) w1) : o.wp P a w K Q := by
  have hrun := run_copy_row (P := P) w dT sT o.type elem g 0 dLen dCap ad sLen sCap cur.toArray t cs hu hsz hg hn hsrc (by simpa using hfit) h1
  unfold Oper.wp
  simp [execOp, ho, resolve, invoke, builtin, hd, hs, hrun, Result.andThen]
  refine h _ ⟨?_, ?_, ?_, rfl, rfl, rfl⟩
  · rw [setRow_heap w g _ _ t _ hg]; simp [splice]
  · intro k hk; exact setRow_other w g k _ hk
  · simp
attribute [local go_sem ↓] Go.wp_at_zero Go.wp_at_succ
set_option maxHeartbeats 2000000 in
set_option maxRecDepth 100000 in
theorem record_part (t : Tag) (sv : Value) (b : List Int) (w : World) (hs : Src w 1 sv b.length (u8s b)) (hb : b.length ≤ 53) (hg : mayPut t.gen 4 = true) (hn : mayPut t.num 4 = true) (hl : t.len = b.length) :
    Calls Tryd.prog 56 #[t.val, sv] w fun e w' => e = .returned (secV (partB t.gen t.num t.part t.parts b)) ∧ Kept w w' := by
  obtain ⟨gen, num, pa, ps, le⟩ := t
  simp only at hg hn hl
  simp only [Tag.val]
  have HS := Lib.hid hs; clear hs
  have HG := Lib.hid hg; clear hg
  have HN := Lib.hid hn; clear hn
  have HB := Lib.hid hb; clear hb
  have HLn := Lib.hid hl; clear hl
  have k2 := ((Kept.refl w).alloc (Obj.cells #[.int .i64 gen, .int .i64 num, .int .i64 pa, .int .i64 ps, .int .i64 le] 74))
  go_enter Tryd.func56, Tryd.ntmps56
  go_wp2_with (first | (refine wpList_alloc_abs rfl 39 rfl (u8s zeroB) zero_sec ?_; intro w1 hz1 hs1 hn1 hk1; refine Hid.out ?_))
  refine Lib.hid ?_
  rw [World.size_alloc] at hz1 hs1 hn1
  have c1 := fun (k : Nat) (v : Value) (h : (w.alloc (Obj.cells #[.int .i64 gen, .int .i64 num, .int .i64 pa, .int .i64 ps, .int .i64 le] 74)).cell? ⟨w.heap.size, k, none⟩ = some v) => hk1.cell' h
  have c1g := c1 0 (.int .i64 gen) (by simp)
  have c1n := c1 1 (.int .i64 num) (by simp)
  have c1p := c1 2 (.int .i64 pa) (by simp)
  have c1s := c1 3 (.int .i64 ps) (by simp)
  have c1l := c1 4 (.int .i64 le) (by simp)
  clear c1
  have hs1w : w.heap.size < w1.heap.size := by omega
  have hk1w : Kept w w1 := k2.trans hk1
  have C2 := Lib.hid c1p; clear c1p
  have C3 := Lib.hid c1s; clear c1s
  have C4 := Lib.hid c1l; clear c1l
  go_wp2
  go_region_held3 (fun w' => w'.cell? ⟨w.heap.size, 0, none⟩ = some (.int .i64 gen) ∧ w'.cell? ⟨w.heap.size, 1, none⟩ = some (.int .i64 num))
    (go_keep)
    (first
      | (go_at_call 68; have _g := hown1; refine (pack_Put sv1 _ num 4 _ (Src.of_app (.inl hown1)) (by simp [beBytes_length]) HN.out).mono ?_; rintro e w4 ⟨sv2, rfl, hown2, hk4⟩; have k34 := hk4; have s4 : w.heap.size < w4.heap.size := (by have := hk4.size; omega); have d2 := hk4.cell' d0; have d3 := hk4.cell' d1)
      | (go_at_call 68; with_reducible refine (pack_Put (.slice none 0 0) [] gen 4 _ Src.nil (by simp) HG.out).mono ?_; rintro e w3 ⟨sv1, rfl, hown1, hk3⟩; have k13 : Kept w1 w3 := (Kept.refl w1).drew.trans hk3; have s3 : w.heap.size < w3.heap.size := (by have := k13.size; omega); have d0 := k13.cell' c1g; have d1 := k13.cell' c1n))
  have e2 := k13.trans k34
  have c4p := e2.cell' C2.out
  have c4s := e2.cell' C3.out
  have c4l := e2.cell' C4.out
  have hk4w : Kept w w4 := hk1w.trans e2
  have hz4 := Lib.hid (e2.block hz1.out)
  have hs4w : w.heap.size + 1 < w4.heap.size := by have := e2.size; have := hn1.out; omega
  have ho8 : w4.ownsRow w3.heap.size 5 1 sv2 8 (u8s (beBytes gen 4 ++ beBytes num 4)) := by
    have e4 : Int.toNat 4 = 4 := rfl
    rw [e4, List.nil_append, List.length_append, beBytes_length, beBytes_length] at hown2
    exact hown2
  have HO := Lib.hid ho8; clear ho8 hown2 _g hown1
  have hB3 : Hid (w.heap.size + 1 < w3.heap.size ∧ w3.heap.size ≤ w4.heap.size) := by
    refine Lib.hid ⟨?_, hk4.size⟩
    have := k13.size; have := hn1.out; omega
  clear d0 d1 d2 d3 c1g c1n hk3 hk4 k13 k34
  go_wp2_with (at_builtin; refine Hid.out ?_)
  refine Lib.hid ?_
  have hx3 := Src.of_cells (n := 3) (c := 3) (size := 1) (Cells.of_block (heap_alloc_new w4 (Obj.cells #[.int .u8 (pa % 256), .int .u8 (ps % 256), .int .u8 (le % 256)] 5))) rfl (by decide)
  refine wpList_append_app _ rfl _ _ rfl ty_bytes w3.heap.size sv2 8 _ rfl (.inl (ownsRow_kept HO.out ((Kept.refl _).alloc _))) _ 3 _ rfl hx3 (by intro u hu; simp at hu; rcases hu with rfl | rfl | rfl <;> rfl) (by decide) (by decide) (by rw [World.size_alloc]; have := hB3.out; omega) ?_
  intro sv5 w5 _ _ hb5 hown5
  have ho11 := hown5 (.inl (by decide))
  have hx11 : u8s (beBytes gen 4 ++ beBytes num 4) ++ [.int .u8 (pa % 256), .int .u8 (ps % 256), .int .u8 (le % 256)] = u8s (beBytes gen 4 ++ beBytes num 4 ++ [pa % 256, ps % 256, le % 256]) := by simp [u8s]
  replace ho11 : w5.ownsRow w3.heap.size 5 1 sv5 11 (u8s (beBytes gen 4 ++ beBytes num 4 ++ [pa % 256, ps % 256, le % 256])) := by rw [← hx11]; exact ho11
  have HO5 := Lib.hid ho11; clear ho11 hown5 hx3 hx11
  have hz5 : Hid (w5.heap[w.heap.size + 1]? = some (.cells (u8s zeroB).toArray 39 (0, 0))) := by
    refine Lib.hid ?_
    rw [hb5.block _ (by have := hB3.out; omega)]
    exact ((Kept.refl w4).alloc _).block hz4.out
  have hk5w : Kept w w5 := by
    exact (hk4w.alloc _).below (by have := hB3.out; omega) hb5
  clear c4p c4s c4l
  go_wp2
  refine wp_region_calm ?_
  refine wp_region_E (fun _ => True) 5 (by kernel_rfl) ?_
  refine wpAnyE_take (i := 0) (v := .slice (some ⟨w.heap.size + 1, 0, none⟩) 64 64) (listed' := #[true, false, false, false, false]) (by rfl) (by kernel_rfl) (by kernel_rfl) calm_put trivial (by rfl) ?_ ?_
  · intro W hW; clear hW; go_simp; try (with_reducible rfl)
  simp only [Act.put, List.setIfInBounds_toArray, List.set_cons_zero, List.set_cons_succ]
  refine wpAnyE_take (i := 1) (v := sv5) (listed' := #[true, true, false, false, false]) (by rfl) (by kernel_rfl) (by kernel_rfl) calm_put trivial (by rfl) ?_ ?_
  · intro W hW; clear hW; go_simp; try (with_reducible rfl)
  simp only [Act.put, List.setIfInBounds_toArray, List.set_cons_zero, List.set_cons_succ]
  refine wpAnyE_take (i := 2) (v := sv) (listed' := #[true, true, true, false, false]) (by rfl) (by kernel_rfl) (by kernel_rfl) calm_put trivial (by rfl) ?_ ?_
  · intro W hW; clear hW; go_simp; try (with_reducible rfl)
  simp only [Act.put, List.setIfInBounds_toArray, List.set_cons_zero, List.set_cons_succ]
  have hks : Kept w5 w5.drew := (Kept.refl w5).drew
  generalize w5.drew = ws at *
  have hBs : w3.heap.size ≤ ws.heap.size := by
    have h1 := hb5.size; rw [World.size_alloc] at h1; have h2 := hks.size; have := hB3.out; omega
  refine wpAnyE_one (i := 3) (listed' := #[true, true, true, true, false]) (by rfl) (by kernel_rfl) (by kernel_rfl) (by rfl) (fun K hK => ?_)
  refine wp_append_app _ _ rfl ty_bytes w3.heap.size sv5 11 _ rfl (.inl (ownsRow_kept HO5.out hks)) sv b.length (u8s b) rfl (HS.out.kept (hk5w.trans hks)) (u8s_one _) (by have := HB.out; simp only [maxLen]; omega) (by have := HB.out; omega) hBs ?_
  intro sv6 w6 happ6 _ hb6 _
  have e6 : u8s (beBytes gen 4 ++ beBytes num 4 ++ [pa % 256, ps % 256, le % 256]) ++ u8s b = u8s (beBytes gen 4 ++ beBytes num 4 ++ [pa % 256, ps % 256, le % 256] ++ b) := (u8s_append _ _).symm
  rw [e6] at happ6
  have hz6 : w6.heap[w.heap.size + 1]? = some (.cells (u8s zeroB).toArray 39 (0, 0)) := by
    rw [hb6.block _ (by have := hB3.out; omega)]
    exact hks.block hz5.out
  have hk6w : Kept w w6 := (hk5w.trans hks).below (by have := hB3.out; omega) hb6
  obtain ⟨hl6, ax, c6, rfl, hc6, hno6, hcl6⟩ := Src.of_app happ6
  refine hK _ _ (fun _ => trivial) ?_; clear hK K
  simp (config := { failIfUnchanged := false }) only [Act.put, List.getElem_cons_zero, List.getElem_cons_succ, List.getElem_toArray, List.setIfInBounds_toArray, List.set_cons_zero, List.set_cons_succ]
  obtain ⟨ad, rfl⟩ : ∃ ad, ax = some ad := by
    cases ax with
    | none => have := (hno6 rfl).1; omega
    | some ad => exact ⟨ad, rfl⟩
  have hp : (beBytes gen 4 ++ beBytes num 4 ++ [pa % 256, ps % 256, le % 256] ++ b) ++ List.replicate (64 - (beBytes gen 4 ++ beBytes num 4 ++ [pa % 256, ps % 256, le % 256] ++ b).length) 0 = partB gen num pa ps b := by
    unfold partB; rw [HLn.out]
  rw [Nat.mul_one] at hl6
  rw [u8s_length] at hl6
  have hb53 := HB.out
  have hs8 := splice_u8sR (beBytes gen 4 ++ beBytes num 4 ++ [pa % 256, ps % 256, le % 256] ++ b) (by omega)
  rw [hp] at hs8
  have hpl : (partB gen num pa ps b).length = 64 := partB_len gen num pa ps hb53
  generalize beBytes gen 4 ++ beBytes num 4 ++ [pa % 256, ps % 256, le % 256] ++ b = tx at *
  refine wpAnyE_one (i := 4) (listed' := #[true, true, true, true, true]) (by rfl) (by kernel_rfl) (by kernel_rfl) (by rfl) (fun K hK => ?_)
  refine wp_copy_own _ _ _ _ rfl 5 Tryd.underlying25 (by kernel_rfl) (w.heap.size + 1) 64 64 ad (11 + b.length) c6 rfl rfl (u8s zeroB) 39 hz6 (u8s tx) (by rw [u8s_length, hl6]; exact (Nat.min_eq_left (by omega)).symm) (hcl6 ad rfl) (by rw [u8s_length, u8s_length, zeroB_length]; omega) (u8s_one _) ?_
  intro w7 hw7
  rw [hs8] at hw7
  generalize hPT : partB gen num pa ps b = pt at *
  have HPT := Lib.hid hPT; clear hPT
  refine hK _ _ (fun _ => trivial) ?_; clear hK K
  simp (config := { failIfUnchanged := false }) only [Act.put, List.getElem_cons_zero, List.getElem_cons_succ, List.getElem_toArray, List.setIfInBounds_toArray, List.set_cons_zero, List.set_cons_succ]
  refine wpAnyE_done (by kernel_rfl) ?_ _
  refine calm_normal ?_
  have hk7 : Kept w w7 := hw7.kept hk6w (by omega)
  have hb7 := hw7.cells
  have HB7 := Lib.hid hb7; clear hb7
  have HW7 := Lib.hid hw7; clear hw7
  have HPL := Lib.hid hpl; clear hpl
  have HK7 := Lib.hid hk7; clear hk7
  clear hs8 hp hcl6 hz6 hno6 hl6
  go_wp2_with (first | (refine wpList_load_agg rfl _ rfl ty_sec (w.heap.size + 1) 0 rfl (u8s pt) HB7.out (by rw [u8s_length, HPL.out]) ?_) | (refine wpList_store_agg rfl _ _ rfl ty_sec (w.heap.size + 1) 0 rfl (u8s pt) rfl (by rw [u8s_length, HPL.out]) (u8s_one _) (u8s pt) 39 HW7.out.blk (by rw [u8s_length, HPL.out]; omega) ?_; intro w8 hw8))
  replace hw8 := hw8.all rfl
  refine bodyPost_ret (results_sec1 rfl _ _ (w.heap.size + 1) pt rfl hw8.cells HPL.out) rfl ⟨by rw [HPT.out], hw8.kept HK7.out (by omega)⟩
end Go.Proofs.YtpeclkhppgabfaaDoor
/- Rules: a new variable of an aggregate type; sectors compared. law03's shown: its bank, step by step. -/
namespace Go.Proofs.YtpeclkhppgabfaaDoor
open Go.RowKit
set_option linter.unusedVariables false
set_option linter.unusedSimpArgs false

section
variable {P : Program} {ops : Array Oper} {rest : List Oper} {o o1 o2 : Oper} {a : Act} {w : World} {Q : Exit → Act → World → Prop}
/-- A new variable of an aggregate type, and what it is given; the world a letter. -/
theorem wpList_new_row (hg1 : o1.guard = none) (hg2 : o2.guard = none) {T n : Nat} (x y : Operand) (ho1 : o1.op = .alloc T) (ho2 : o2.op = .store T x y) (hT : AggT P T n)
    (zs : List Value) (hz : ∀ w, (zeroValue T).run P w = .ok (.agg zs.toArray) w) (hzl : zs.length = n)
    (xs : List Value) (hy : (a.put o1.dst (.pointer (some ⟨w.heap.size, 0, none⟩))).eval y = .agg xs.toArray) (hl : xs.length = n) (h1 : ∀ v ∈ xs, v.oneCell' = true)
    (hx : (a.put o1.dst (.pointer (some ⟨w.heap.size, 0, none⟩))).eval x = .pointer (some ⟨w.heap.size, 0, none⟩))
    (h : ∀ w1, Hid (w1.heap[w.heap.size]? = some (.cells xs.toArray T (0, 0))) → w.heap.size < w1.heap.size → Kept w w1 → wpList P ops Q rest ((a.put o1.dst (.pointer (some ⟨w.heap.size, 0, none⟩))).put o2.dst undef) w1) : wpList P ops Q (o1 :: o2 :: rest) a w := by
  refine wpList_alloc_abs hg1 T ho1 zs hz ?_
  intro w1 hz1 hs1 hn1 hk1
  refine wpList_store_agg hg2 x y ho2 hT w.heap.size 0 hx xs hy hl h1 zs T hz1.out (by omega) ?_
  intro w2 hw2
  replace hw2 := hw2.all (by omega)
  exact h w2 (Lib.hid hw2.blk) (by rw [hw2.size]; exact hs1) (hw2.kept hk1 (Nat.le_refl _))
end
section
variable {ops : Array Oper} {rest : List Oper} {o : Oper} {a : Act} {w : World} {Q : Exit → Act → World → Prop}
/-- two sectors compared -/
theorem wpList_eq_sec (hgd : Region.wanted o (yielded ops a.tmps) = true) (x y : Operand) {t' : TypeId} (ho : o.op = .binOp .eql 39 x y t') (xs ys : List Int) (hx : a.eval x = .agg (u8s xs).toArray) (hy : a.eval y = .agg (u8s ys).toArray) (hxl : xs.length = 64) (hyl : ys.length = 64)
    (h : wpList Tryd.prog ops Q rest (a.put o.dst (.bool (xs == ys))) w) : wpList Tryd.prog ops Q (o :: rest) a w := by
  refine BigFrame.wpList_want hgd fun K hK => ?_
  have heq := run_equal_secA xs ys hxl hyl w
  unfold Oper.wp execOp
  simp only [ho, hx, hy, Sem.run_bind]
  rw [run_eqGuard_agg _ _ _ _ _ _ _ eqg_sec]
  simp only [Result.andThen_ok]
  rw [run_eql_struct, heq]
  simp only [Result.andThen_ok, Sem.run_pure]
  exact hK _ _ h
theorem wpList_neq_sec (hgd : Region.wanted o (yielded ops a.tmps) = true) (x y : Operand) {t' : TypeId} (ho : o.op = .binOp .neq 39 x y t') (xs ys : List Int) (hx : a.eval x = .agg (u8s xs).toArray) (hy : a.eval y = .agg (u8s ys).toArray) (hxl : xs.length = 64) (hyl : ys.length = 64)
    (h : wpList Tryd.prog ops Q rest (a.put o.dst (.bool (!(xs == ys)))) w) : wpList Tryd.prog ops Q (o :: rest) a w := by
  refine BigFrame.wpList_want hgd fun K hK => ?_
  have heq := run_equal_secA xs ys hxl hyl w
  unfold Oper.wp execOp
  simp only [ho, hx, hy, Sem.run_bind]
  rw [run_eqGuard_agg _ _ _ _ _ _ _ eqg_sec]
  simp only [Result.andThen_ok]
  rw [run_neq_struct, heq]
  simp only [Result.andThen_ok, Sem.run_pure]
  exact hK _ _ h
end
theorem BankT.Inv.zero : BankT.zero.Inv := by
  have h : ∀ p, BankT.zero.since p = 0 := fun p => rfl
  exact ⟨⟨by decide, fun m hm => by cases hm⟩, by decide, by decide, by decide, by decide, fun p => by rw [h]; decide, fun p q hp => by rw [h] at hp; omega⟩
theorem Med.Ok.fresh {n : Nat} (hn : n ≤ 4096) : (Med.fresh n).Ok := by
  have hz : zeroB.length = 64 ∧ ∀ x ∈ zeroB, IsByte x := by
    refine ⟨zeroB_length, fun x hx => ?_⟩
    have : x = 0 := List.eq_of_mem_replicate (n := 64) (by rw [show List.replicate 64 (0 : Int) = zeroB by decide]; exact hx)
    rw [this]; unfold IsByte; decide
  refine ⟨⟨by simp [Med.fresh], fun s hs => ?_⟩, ⟨by simp [Med.fresh], fun s hs => ?_⟩, by simpa [Med.fresh] using hn, fun x hx => ?_, ⟨Int.le_refl _, by show (0 : Int) < 9223372036854775808; decide⟩⟩
  · rw [List.eq_of_mem_replicate hs]; exact hz
  · rw [List.eq_of_mem_replicate hs]; exact hz
  · rw [List.eq_of_mem_replicate hx]; exact Int.le_refl _
theorem BankT.since_add (T : BankT) (n : Nat) (p : Nat × Nat) : (T.add n).since p = T.since p := by
  unfold BankT.since
  by_cases h : p.1 < T.l.length
  · rw [BankT.add_old T n h]
  · have h0 : T.d p.1 = Med.zero := by unfold BankT.d; rw [List.getD_eq_getElem?_getD, List.getElem?_eq_none (by omega)]; rfl
    rw [h0]
    by_cases e : p.1 = T.l.length
    · rw [e, BankT.add_new]
      simp only [Med.fresh, Med.zero, List.getD_eq_getElem?_getD, List.getElem?_replicate]
      split <;> rfl
    · have : (T.add n).d p.1 = Med.zero := by unfold BankT.d; rw [List.getD_eq_getElem?_getD, List.getElem?_eq_none (by rw [BankT.add_len]; omega)]; rfl
      rw [this]
theorem BankT.Inv.add {T : BankT} (h : T.Inv) (hl : T.l.length < 32) {n : Nat} (hn : n ≤ 4096) : (T.add n).Inv := by
  refine ⟨⟨by rw [BankT.add_len]; omega, fun m hm => ?_⟩, h.clk, h.wr, h.ar, h.msk, fun p => by rw [BankT.since_add]; exact h.top p, fun p q hp hq => ?_⟩
  · have : m ∈ T.l ++ [Med.fresh n] := hm
    rcases List.mem_append.1 this with h' | h'
    · exact h.ok.2 m h'
    · rw [List.mem_singleton.1 h']; exact Med.Ok.fresh hn
  · rw [BankT.since_add] at hp hq
    rw [BankT.since_add] at hq
    exact h.uniq p q hp hq
end Go.Proofs.YtpeclkhppgabfaaDoor
/- law03's shown. -/
namespace Go.Proofs.YtpeclkhppgabfaaDoor
open Go.RowKit
set_option linter.unusedVariables false
set_option linter.unusedSimpArgs false

def secB (c : Int) : List Int := c :: List.replicate 63 0
def sh0 : BankT := BankT.zero.add 4
def sh1 : BankT := (sh0.write 0 0 (secB 97)).1
def sh2 : BankT := (sh1.write 0 1 (secB 98)).1
def sh3 : BankT := (sh2.flushC 0).1
def sh4 : BankT := (sh3.write 0 1 (secB 99)).1
def sh5 : BankT := (sh4.write 0 0 (secB 100)).1
def sh6 : BankT := sh5.crash 2
def sh7 : BankT := sh6.start
def sh8 : BankT := (sh7.failC 0).1
theorem secB_byte {c : Int} (h : IsByte c) : (secB c).length = 64 ∧ ∀ x ∈ secB c, IsByte x := by
  refine ⟨by simp [secB], fun x hx => ?_⟩
  rcases List.mem_cons.1 hx with h' | h'
  · rw [h']; exact h
  · rw [List.eq_of_mem_replicate h']; unfold IsByte; decide
theorem byte_of {n : Nat} (h : n < 256) : IsByte (n : Int) := by unfold IsByte; omega
theorem BankT.Use.of {T : BankT} (i : T.Inv) (h : (decide (T.l.length ≠ 0) && decide (T.clock < 1000000000) && decide (T.writes < 1000000000)) = true) : T.Use := by
  simp only [Bool.and_eq_true, decide_eq_true_eq] at h
  exact ⟨i, h.1.1, h.1.2, h.2⟩
theorem BankT.Inv.flushC {T : BankT} (h : T.Inv) (d : Int) : (T.flushC d).1.Inv := by
  unfold BankT.flushC
  split
  · rename_i hr
    obtain ⟨k, rfl, hk⟩ := BankT.readyE_in hr
    rw [Int.toNat_natCast]; exact h.flush hk
  · exact h
theorem BankT.Inv.failC {T : BankT} (h : T.Inv) (d : Int) : (T.failC d).1.Inv := by
  unfold BankT.failC
  split
  · exact h
  · exact h.fell (by omega)
theorem BankT.Inv.start {T : BankT} (h : T.Inv) : T.start.Inv := ⟨h.ok, h.clk, h.wr, h.ar, h.msk, h.top, h.uniq⟩
theorem sh0_u : sh0.Use := BankT.Use.of (BankT.Inv.zero.add (by decide) (by decide)) (by kernel_rfl)
theorem sh1_u : sh1.Use := BankT.Use.of (sh0_u.inv.write 0 0 (secB_byte (byte_of (by decide)))) (by kernel_rfl)
theorem sh2_u : sh2.Use := BankT.Use.of (sh1_u.inv.write 0 1 (secB_byte (byte_of (by decide)))) (by kernel_rfl)
theorem sh3_u : sh3.Use := BankT.Use.of (sh2_u.inv.flushC 0) (by kernel_rfl)
theorem sh4_u : sh4.Use := BankT.Use.of (sh3_u.inv.write 0 1 (secB_byte (byte_of (by decide)))) (by kernel_rfl)
theorem sh5_u : sh5.Use := BankT.Use.of (sh4_u.inv.write 0 0 (secB_byte (byte_of (by decide)))) (by kernel_rfl)
theorem sh6_u : sh6.Use := BankT.Use.of (sh5_u.inv.crash 2) (by kernel_rfl)
theorem sh7_u : sh7.Use := BankT.Use.of sh6_u.inv.start (by kernel_rfl)
theorem sh8_u : sh8.Use := BankT.Use.of (sh7_u.inv.failC 0) (by kernel_rfl)
theorem sh_e : ((sh0.write 0 0 (secB 97)).2, (sh1.write 0 1 (secB 98)).2, (sh2.flushC 0).2, (sh3.write 0 1 (secB 99)).2, (sh4.write 0 0 (secB 100)).2, sh5.looseN, sh7.writes, (sh7.failC 0).2, (sh8.flushC 0).2) = (0, 0, 0, 0, 0, 2, 4, 0, 7) := by kernel_rfl
theorem sh_r : (sh6.read 0 0, sh7.read 0 0, sh7.read 0 1, sh7.read 0 4, sh7.read 1 0) = ((zeroB, 6), (secB 100, 0), (secB 98, 0), (zeroB, 3), (zeroB, 8)) := by kernel_rfl
section
variable {w0 W : World} {R : Nat → Prop} {q : Nat}
theorem st_write {T T' : BankT} (h : BK w0 R W q T) (u : T.Use) (d a : Int) {s : List Int} (hs : s.length = 64) (he : (T.write d a s).2 = 0) (hT : T' = (T.write d a s).1) :
    Calls Tryd.prog 17 #[.pointer (some ⟨q, 0, none⟩), .agg #[.int .i64 d, .int .i64 a], .agg (u8s s).toArray] W fun e w' => e = .returned (.int .i64 0) ∧ BK w0 R w' q T' ∧ SameR R W w' :=
  (bk_Write h u d a hs).mono fun e w' ⟨h1, h2, h3⟩ => ⟨by rw [h1, he], by rw [hT]; exact h2, h3⟩
theorem st_flush {T T' : BankT} (h : BK w0 R W q T) (u : T.Use) (d : Int) {c : Int} (he : (T.flushC d).2 = c) (hT : T' = (T.flushC d).1) :
    Calls Tryd.prog 57 #[.pointer (some ⟨q, 0, none⟩), .int .i64 d] W fun e w' => e = .returned (.int .i64 c) ∧ BK w0 R w' q T' ∧ SameR R W w' :=
  (bk_Flush h u d).mono fun e w' ⟨h1, h2, h3⟩ => ⟨by rw [h1, he], by rw [hT]; exact h2, h3⟩
theorem st_fail {T T' : BankT} (h : BK w0 R W q T) (u : T.Use) (d : Int) {c : Int} (he : (T.failC d).2 = c) (hT : T' = (T.failC d).1) :
    Calls Tryd.prog 22 #[.pointer (some ⟨q, 0, none⟩), .int .i64 d] W fun e w' => e = .returned (.int .i64 c) ∧ BK w0 R w' q T' ∧ SameR R W w' :=
  (bk_Fail h u d).mono fun e w' ⟨h1, h2, h3⟩ => ⟨by rw [h1, he], by rw [hT]; exact h2, h3⟩
theorem st_read {T : BankT} (h : BK w0 R W q T) (u : T.Use) (d a : Int) {s : List Int} {c : Int} (he : T.read d a = (s, c)) :
    Calls Tryd.prog 58 #[.pointer (some ⟨q, 0, none⟩), .agg #[.int .i64 d, .int .i64 a]] W fun e w' => e = .returned (.tuple #[.agg (u8s s).toArray, .int .i64 c]) ∧ BK w0 R w' q T ∧ Kept W w' :=
  (bk_Read h u d a).mono fun e w' ⟨h1, h2, h3, h4⟩ => ⟨by rw [h1, he], h2, h4⟩
--
--
--
--
--
--
set_option maxHeartbeats 2000000
set_option maxRecDepth 100000
--
--
--
--
--
--
--
--
--
--
--
--
--
--
--
--
--
--
--
--
--
--
--
--
--
--
--
--
--
--
--
--
--
--
--
--
--
--
--
--
--
--
--
--
--
--
--
--
--
--
--
--
--
--
--
--
--
--
--
--
--
--
--
--
--
--
--
--
--
--
--
--
--
--
--
--
--
--
--
--
--
--
--
--
--
--
--
--
--
--
--
--
--
--
--
--
--
--
--
--
--
--
--
--
--
--
--
--
--
--
--
--
--
--
--
--
--
--
--
--
--
--
--
--
--
--
--
--
--
--
--
--
end
end Go.Proofs.YtpeclkhppgabfaaDoor
/- law03: its steps as they come in; what is calm. -/
namespace Go.Proofs.YtpeclkhppgabfaaDoor
open Go.RowKit Go.ChangeMaps
set_option linter.unusedVariables false
set_option linter.unusedSimpArgs false

/-- a step of law03 -/
structure OpD where
  kind : Int
  disk : Int
  at_ : Int
  n : Int
  mask : Int
def DSrc (w : World) (v : Value) (l : List OpD) : Prop := ∃ oa cap, v = .slice oa l.length cap ∧ l.length ≤ cap ∧ cap ≤ maxLen ∧ ∀ k (hk : k < l.length), ∃ b off, oa = some ⟨b, off, none⟩ ∧
  w.cell? ⟨b, off + k * 5, none⟩ = some (.int .i64 l[k].kind) ∧ w.cell? ⟨b, off + k * 5 + 1, none⟩ = some (.int .i64 l[k].disk) ∧ w.cell? ⟨b, off + k * 5 + 2, none⟩ = some (.int .i64 l[k].at_) ∧ w.cell? ⟨b, off + k * 5 + 3, none⟩ = some (.int .i64 l[k].n) ∧ w.cell? ⟨b, off + k * 5 + 4, none⟩ = some (.int .u64 l[k].mask) ∧
  (-9223372036854775808 ≤ l[k].n ∧ l[k].n ≤ 9223372036854775807) ∧ (0 ≤ l[k].mask ∧ l[k].mask < 18446744073709551616)
theorem DSrc.kept {w w' : World} {v : Value} {l : List OpD} (h : DSrc w v l) (hk : Kept w w') : DSrc w' v l := by
  obtain ⟨oa, cap, rfl, h1, h2, h3⟩ := h
  refine ⟨oa, cap, rfl, h1, h2, fun k hkl => ?_⟩
  obtain ⟨b, off, e, c0, c1, c2, c3, c4, r⟩ := h3 k hkl
  exact ⟨b, off, e, hk.cell' c0, hk.cell' c1, hk.cell' c2, hk.cell' c3, hk.cell' c4, r⟩
theorem DSrc.at {w : World} {oa : Option Addr} {n cap : Nat} {l : List OpD} (h : DSrc w (.slice oa n cap) l) (k : Nat) (hk : k < l.length) : ∃ b off, oa = some ⟨b, off, none⟩ ∧
    w.cell? ⟨b, off + k * 5, none⟩ = some (.int .i64 l[k].kind) ∧ w.cell? ⟨b, off + k * 5 + 1, none⟩ = some (.int .i64 l[k].disk) ∧ w.cell? ⟨b, off + k * 5 + 2, none⟩ = some (.int .i64 l[k].at_) ∧ w.cell? ⟨b, off + k * 5 + 3, none⟩ = some (.int .i64 l[k].n) ∧ w.cell? ⟨b, off + k * 5 + 4, none⟩ = some (.int .u64 l[k].mask) ∧
    (-9223372036854775808 ≤ l[k].n ∧ l[k].n ≤ 9223372036854775807) ∧ (0 ≤ l[k].mask ∧ l[k].mask < 18446744073709551616) := by
  obtain ⟨oa', cap', e, h1, h2, h3⟩ := h
  cases e
  exact h3 k hk
theorem wf_i64 {z : Int} (h : (Lit.int .i64 z).wf = true) : -9223372036854775808 ≤ z ∧ z ≤ 9223372036854775807 := by
  have h1 : IntKind.i64.min = -9223372036854775808 := rfl
  have h2 : IntKind.i64.max = 9223372036854775807 := rfl
  simp [Lit.wf] at h; omega
theorem wf_u64 {z : Int} (h : (Lit.int .u64 z).wf = true) : 0 ≤ z ∧ z < 18446744073709551616 := by
  have h1 : IntKind.u64.min = 0 := rfl
  have h2 : IntKind.u64.max = 18446744073709551615 := rfl
  simp [Lit.wf] at h; omega
--
--
--
--
--
--
--
--
--
--
--
--
--
--
--
--
--
--
--
--
--
--
--
--
--
--
--
--
--
--
--
--
--
--
--
--
--
--
--
--
--
--
--
--
--
--
--
theorem and_low (x : Int) (k : Nat) (hk : k ≤ 62) {m : Int} (hm : m = 2 ^ k - 1) : ∃ y : Nat, bits .and .i64 x m = (y : Int) ∧ y < 2 ^ k := by
  subst hm
  have hp : (0 : Int) < 2 ^ k := Int.pow_pos (by decide)
  have h0 := Int.emod_nonneg x (show (2 : Int) ^ k ≠ 0 by omega)
  have h1 := Int.emod_lt_of_pos x hp
  obtain ⟨y, hy⟩ := Int.eq_ofNat_of_zero_le h0
  refine ⟨y, by rw [i64_and_mask x k hk, hy], ?_⟩
  have : ((2 ^ k : Nat) : Int) = (2 : Int) ^ k := by norm_cast
  omega
end Go.Proofs.YtpeclkhppgabfaaDoor
