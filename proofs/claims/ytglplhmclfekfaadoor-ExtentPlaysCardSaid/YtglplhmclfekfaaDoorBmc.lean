/- bits.Map: Free, and what is refused; New. -/
import Derived.Test.YtglplhmclfekfaaDoorBmb
namespace Go.Proofs.YtglplhmclfekfaaDoor
open Go.RowKit Go.ChangeMaps Go.MapKept
set_option linter.unusedVariables false
set_option linter.unusedSimpArgs false

section
variable {w : World} {p n k : Nat} {s : Nat → Bool} {t : TypeId}
set_option maxHeartbeats 1000000
set_option maxRecDepth 100000
theorem bits_Free_ok (h : BMap w p n s) (i : Nat) (hi : i < n) (hs : s i = true) : Calls Tryd.prog 27 #[.pointer (some ⟨p, 0, none⟩), .int .i64 (i : Int)] w fun e w' => e = .returned (.int .i64 0) ∧ BMap w' p n (setS s i false) ∧ But (fun k => k = p) w w' := by
  have HA := h
  obtain ⟨hn, hno, ws, hl, hb, hat⟩ := h
  have hj : i / 64 < ws.length := by omega
  have cw := bm_w hb hj
  have ck := bm_k hl hb
  have hq : (i : Int) / 64 = ((i / 64 : Nat) : Int) := by omega
  have hr : (i : Int) % 64 = ((i % 64 : Nat) : Int) := by omega
  have hb64 : i % 64 < 64 := by omega
  have hor := bits_andNot ws[i / 64] (i % 64) hb64
  generalize hyd : ws[i / 64] &&& ~~~(1#64 <<< (i % 64)) = y at hor
  have hi0 : (0 : Int) ≤ (i : Int) := by omega
  have hj' : i / 64 < 1024 := by omega
  have hhas := bits_Has HA i hi
  rw [hs] at hhas
  have HHAS := Lib.hid hhas; clear hhas
  have HAT := Lib.hid hat; clear hat
  have HB := Lib.hid hb; clear hb
  have HS := Lib.hid hs
  have HNO := Lib.hid hno; clear hno
  generalize hx : ws[i / 64] = x at *
  have HX := Lib.hid hx; clear hx
  generalize hjd : i / 64 = j at *
  have HJ := Lib.hid hjd; clear hjd
  generalize hbd : i % 64 = b at *
  have HBD := Lib.hid hbd; clear hbd
  have HY := Lib.hid hyd; clear hyd
  have hkn := cnt_le n s
  have hc1 : 1 ≤ cntS n s := by have := cnt_split n i s hi; rw [hs] at this; simp at this; omega
  generalize hcd : cntS n s = c at *
  have HCD := Lib.hid hcd; clear hcd
  clear hs
  go_enter Tryd.func27, Tryd.ntmps27
  go_wp2_with (first
    | (go_at_call 46; refine (bits_in_t HA i hi).mono ?_; rintro e w' ⟨rfl, rfl⟩)
    | (go_at_call 32; refine HHAS.out.mono ?_; rintro e w' ⟨rfl, rfl⟩))
  refine wp_still_tail 14 (by kernel_rfl) (by kernel_rfl) fun ws' hks hhs => ?_
  have cw := hks.cell' cw
  have hb' := hks.block HB.out
  have hwj : IntKind.i64.wrap (j : Int) = (j : Int) := IntWalk.i64_in _ (by omega)
  have hwb : IntKind.i64.wrap (b : Int) = (b : Int) := IntWalk.i64_in _ (by omega)
  have hj0 : (0 : Int) ≤ (j : Int) := by omega
  have hj1 : (j : Int) < 1024 := by omega
  have hb0 : (0 : Int) ≤ (b : Int) := by omega
  simp only [List.take_succ_cons, List.take_zero, List.drop_succ_cons, List.drop_zero]
  have hrt : (i : Int).tmod 64 = (b : Int) := by rw [Int.tmod_eq_emod_of_nonneg hi0]; exact hr
  have hsh := wrap_p2 b hb64
  iterate 14 still_step
  refine wpStill_nil ?_
  refine wpList_set_cell rfl _ _ rfl size_u64 p j rfl (.int .u64 (y.toNat : Int)) rfl rfl rfl (bmCells ws n c) 76 hb' (by rw [bmCells, List.length_append, u64s_length]; omega) ?_
  intro w1 hw1
  rw [bmCells_set _ _ _ _ _ hj] at hw1
  have HB1 := Lib.hid hw1.blk
  have ck := bm_k (by rw [List.length_set]; exact hl) hw1.blk
  have K1 : But (fun k => k = p) w w1 := (But.kept hks).trans (But.wrote hw1 rfl)
  clear hw1 cw hb' hsh hor
  go_wp2_with (refine wpList_set_cell (o := ⟨none, .store _ _ _, _, _, _, _⟩) rfl _ _ rfl size_int p 1025 rfl (.int .i64 ((c : Int) - 1)) rfl rfl rfl (bmCells (ws.set j y) n c) 76 HB1.out (by rw [bmCells, List.length_append, u64s_length, List.length_set]; simp; omega) ?_; intro w2 hw2)
  go_ret
  have e : (c : Int) - 1 = ((c - 1 : Nat) : Int) := by omega
  rw [e, bmCells_k _ _ _ _ (by rw [List.length_set]; exact hl)] at hw2
  have hcnt := cnt_set n i s false hi
  rw [HS.out] at hcnt
  simp only [if_true, Bool.false_eq_true, if_false, Nat.add_zero] at hcnt
  refine ⟨rfl, ⟨hn, fun m hm => ?_, ws.set j y, by rw [List.length_set]; exact hl, ?_, ?_⟩, K1.trans (But.wrote hw2 rfl)⟩
  · unfold setS
    rw [if_neg (by omega)]; exact HNO.out m hm
  · rw [show cntS n (setS s i false) = c - 1 from by rw [← HCD.out]; omega]; exact hw2.blk
  · have h := words_set HAT.out i (by rw [HJ.out]; exact hj) false y (fun c hc => by
      rw [← HY.out, lsb_andNot x b c hb64 hc, HBD.out]
      have := HX.out
      simp only [HJ.out, this])
    simp only [HJ.out] at h
    exact h
theorem bits_TakeAt_live (h : BMap w p n s) (i : Nat) (hi : i < n) (hs : s i = true) : Calls Tryd.prog 33 #[.pointer (some ⟨p, 0, none⟩), .int .i64 (i : Int)] w fun e w' => e = .returned (.int .i64 9) ∧ w = w' := by
  have hhas := bits_Has h i hi
  rw [hs] at hhas
  have HHAS := Lib.hid hhas; clear hhas
  clear hs
  go_enter Tryd.func33, Tryd.ntmps33
  go_wp2_with (first
    | (go_at_call 46; refine (bits_in_t h i hi).mono ?_; rintro e w' ⟨rfl, rfl⟩)
    | (go_at_call 32; refine HHAS.out.mono ?_; rintro e w' ⟨rfl, rfl⟩))
  go_ret
  exact ⟨rfl, rfl⟩
theorem bits_Free_dead (h : BMap w p n s) (i : Nat) (hi : i < n) (hs : s i = false) : Calls Tryd.prog 27 #[.pointer (some ⟨p, 0, none⟩), .int .i64 (i : Int)] w fun e w' => e = .returned (.int .i64 9) ∧ w = w' := by
  have hhas := bits_Has h i hi
  rw [hs] at hhas
  have HHAS := Lib.hid hhas; clear hhas
  clear hs
  go_enter Tryd.func27, Tryd.ntmps27
  go_wp2_with (first
    | (go_at_call 46; refine (bits_in_t h i hi).mono ?_; rintro e w' ⟨rfl, rfl⟩)
    | (go_at_call 32; refine HHAS.out.mono ?_; rintro e w' ⟨rfl, rfl⟩))
  go_ret
  exact ⟨rfl, rfl⟩
/-- the zero map with n places -/
def zeroWs : List (BitVec 64) := List.replicate 1024 0#64
theorem zeroWs_length : zeroWs.length = 1024 := by simp [zeroWs]
theorem cnt_zero (n : Nat) : cntS n (fun _ => false) = 0 := by simp [cntS]
def bmZ (n : Int) : List Value := u64s zeroWs ++ [Value.int .i64 n, Value.int .i64 0]
theorem build_bm (n : Int) (W : World) : (Instr.build 76 #[(1, Value.int .i64 n)]).run Tryd.prog W = .ok (.agg (bmZ n).toArray) W :=
  run_build W 76 #[(1, Value.int .i64 n)] (bmZ n).toArray (by kernel_rfl)
end
section
variable {P : Program} {ops : Array Oper} {rest : List Oper} {o : Oper} {a : Act} {w : World} {Q : Exit → Act → World → Prop}
/-- a struct that is built of one part -/
theorem wpList_build_one (hgd : Region.wanted o (yielded ops a.tmps) = true) {T k : Nat} {x : Operand} (ho : o.op = .build T #[(k, x)]) (v : Value) (hx : a.eval x = v) (r : Value) (hr : ∀ w, (Instr.build T #[(k, v)]).run P w = .ok r w)
    (h : wpList P ops Q rest (a.put o.dst r) w) : wpList P ops Q (o :: rest) a w := by
  refine BigFrame.wpList_want hgd fun K hK => ?_
  unfold Oper.wp execOp
  simp only [ho, List.map_toArray, List.map_cons, List.map_nil, hx, Sem.run_bind, hr, Result.andThen_ok, Sem.run_pure]
  exact hK _ _ h
/-- a value of many cells laid into a new block; the world a letter -/
theorem wpList_box_agg (hgd : Region.wanted o (yielded ops a.tmps) = true) (T : TypeId) (x : Operand) (ho : o.op = .box T x) (zs : List Value) (hx : a.eval x = .agg zs.toArray)
    (h : ∀ w1, w1.heap[w.heap.size]? = some (.cells zs.toArray T (0, 0)) → w1.heap.size = w.heap.size + 1 → Kept w w1 → wpList P ops Q rest (a.put o.dst (.pointer (some ⟨w.heap.size, 0, none⟩))) w1) : wpList P ops Q (o :: rest) a w := by
  refine BigFrame.wpList_want hgd fun K hK => ?_
  unfold Oper.wp execOp
  simp only [ho, hx, Instr.box, newVar, newRow, Sem.run_bind, Result.andThen_ok, Sem.run_pure, run_newObj_alloc, Value.cells]
  exact hK _ _ (h _ (heap_alloc_new w _) (World.size_alloc _ _) ((Kept.refl _).alloc _))
end
section
variable {w : World}
set_option maxHeartbeats 1000000
set_option maxRecDepth 100000
theorem bits_New (n : Nat) (hn : n ≤ 65536) (w : World) : Calls Tryd.prog 23 #[.int .i64 (n : Int)] w fun e w' => e = .returned (.pointer (some ⟨w.heap.size, 0, none⟩)) ∧ BMap w' w.heap.size n (fun _ => false) ∧ w'.heap.size = w.heap.size + 1 ∧ Kept w w' := by
  have h1 : max (n : Int) 0 = n := by omega
  have h2 : min (n : Int) 65536 = n := by omega
  go_enter Tryd.func23, Tryd.ntmps23
  go_wp2_with (first
    | (refine wpList_build_one (o := ⟨some 6, _, _, _, _, _⟩) rfl rfl (.int .i64 (n : Int)) ?_ _ (build_bm n) ?_; (· go_simp))
    | (refine wpList_box_agg (o := ⟨some 7, _, _, _, _, _⟩) rfl _ _ rfl (bmZ n) rfl ?_; intro w1 hb1 hs1 hk1))
  go_ret
  refine ⟨rfl, ⟨hn, fun _ _ => rfl, zeroWs, zeroWs_length, ?_, fun j hj b hb => ?_⟩, hs1, hk1⟩
  · rw [cnt_zero]; exact hb1
  · have hz : zeroWs[j]'(by simpa using hj) = 0#64 := List.getElem_replicate ..
    rw [hz]; simp
end
end Go.Proofs.YtglplhmclfekfaaDoor
