/- extent.Map: to, TakeAt, Free, Has. -/
import Derived.Test.YtglplhmclfekfaaDoorExb
namespace Go.Proofs.YtglplhmclfekfaaDoor
open Go.RowKit Go.ChangeMaps Go.MapKept
set_option linter.unusedVariables false
set_option linter.unusedSimpArgs false

section
variable {w : World} {q : Nat} {S : Nat → Prop} {E : XT} {g : Nat} {blk : Int → Nat}
section
variable {ops : Array Oper} {rest : List Oper} {o : Oper} {a : Act} {K : Act → Prop}
theorem still_mem_some (H : XD w q S E g blk) {d : Int} {n : Nat} {s : Nat → Bool} (hd : E d = some (n, s)) (hw : Region.wanted o (yielded ops a.tmps) = true) (m x : Operand) (ho : o.op = .lookup 49 m x false) (hm : a.eval m = .map (some g)) (hx : a.eval x = .int .i64 d)
    (hK : wpStill Tryd.prog ops w K rest (a.put o.dst (.pointer (some ⟨blk d, 0, none⟩)))) : wpStill Tryd.prog ops w K (o :: rest) a := by
  obtain ⟨c, hc⟩ := H.gm
  refine wpStill_val hw ?_ hK
  have := exec_lookup m x false ho Tryd.underlying49 Tryd.underlying3 zero_ptr hm d hx hc
  simpa [hd, ptrV] using this
theorem still_mem_none (H : XD w q S E g blk) {d : Int} (hd : E d = none) (hw : Region.wanted o (yielded ops a.tmps) = true) (m x : Operand) (ho : o.op = .lookup 49 m x false) (hm : a.eval m = .map (some g)) (hx : a.eval x = .int .i64 d)
    (hK : wpStill Tryd.prog ops w K rest (a.put o.dst (.pointer none))) : wpStill Tryd.prog ops w K (o :: rest) a := by
  obtain ⟨c, hc⟩ := H.gm
  refine wpStill_val hw ?_ hK
  have := exec_lookup m x false ho Tryd.underlying49 Tryd.underlying3 zero_ptr hm d hx hc
  simpa [hd] using this
end
def doV (f : Nat) : Value := .agg #[.func (.func f) #[] #[]]
set_option maxHeartbeats 1000000
set_option maxRecDepth 100000
theorem ext_to_none (H : XD w q S E g blk) {d a : Int} (hd : E d = none) (f : Nat) : Calls Tryd.prog 26 #[.pointer (some ⟨q, 0, none⟩), .agg #[.int .i64 d, .int .i64 a], .agg #[.func (.func f) #[] #[]]] w fun e w' => e = .returned (.int .i64 8) ∧ Kept w w' := by
  have HD := Lib.hid hd; clear hd
  go_enter Tryd.func26, Tryd.ntmps26
  go_upto_region 1 with fail
  refine wp_still_tail 7 (by kernel_rfl) (by kernel_rfl) fun ws hks hhs => ?_
  have hk : Kept w ws := (((Kept.refl w).alloc _).alloc _).trans hks
  have H1 := H.same hk
  have c0 := H1.c0
  have b0 := heap_alloc_new w (Obj.cells #[Value.int IntKind.i64 d, Value.int IntKind.i64 a] 33)
  have b1 := heap_alloc_new (w.alloc (Obj.cells #[Value.int IntKind.i64 d, Value.int IntKind.i64 a] 33)) (Obj.cells #[Value.func (Fn.func f) #[] #[]] 62)
  have b0' := hks.block (((Kept.refl _).alloc _).block b0)
  have b1' := hks.block b1
  simp only [World.size_alloc] at b1'
  have d0 := cell_of_row _ _ 0 _ _ _ b0'
  have d1 := cell_of_row _ _ 1 _ _ _ b0'
  have d2 := cell_of_row _ _ 0 _ _ _ b1'
  clear b0 b1 b0' b1' hks hhs
  simp only [List.take_succ_cons, List.take_zero, List.drop_succ_cons, List.drop_zero]
  iterate 6 still_step
  refine still_mem_none H1 HD.out rfl _ _ rfl rfl rfl ?_
  simp only [Act.put, List.setIfInBounds_toArray, List.set_cons_zero, List.set_cons_succ]
  refine wpStill_nil ?_
  go_wp2
  go_ret
  exact ⟨rfl, hk⟩
theorem ext_to_bad (H : XD w q S E g blk) {d a : Int} (ha : -9223372036854775808 ≤ a) (ha2 : a < 9223372036854775808) {n : Nat} {s : Nat → Bool} (hd : E d = some (n, s)) (hx : ∀ i, idxE a = some i → n ≤ i) (f : Nat) : Calls Tryd.prog 26 #[.pointer (some ⟨q, 0, none⟩), .agg #[.int .i64 d, .int .i64 a], .agg #[.func (.func f) #[] #[]]] w fun e w' => e = .returned (.int .i64 1) ∧ Kept w w' := by
  have HD := Lib.hid hd; clear hd
  have HX := Lib.hid hx; clear hx
  go_enter Tryd.func26, Tryd.ntmps26
  go_upto_region 1 with fail
  refine wp_still_tail 7 (by kernel_rfl) (by kernel_rfl) fun ws hks hhs => ?_
  have hk : Kept w ws := (((Kept.refl w).alloc _).alloc _).trans hks
  have H1 := H.same hk
  have c0 := H1.c0
  have b0 := heap_alloc_new w (Obj.cells #[Value.int IntKind.i64 d, Value.int IntKind.i64 a] 33)
  have b1 := heap_alloc_new (w.alloc (Obj.cells #[Value.int IntKind.i64 d, Value.int IntKind.i64 a] 33)) (Obj.cells #[Value.func (Fn.func f) #[] #[]] 62)
  have b0' := hks.block (((Kept.refl _).alloc _).block b0)
  have b1' := hks.block b1
  simp only [World.size_alloc] at b1'
  have d0 := cell_of_row _ _ 0 _ _ _ b0'
  have d1 := cell_of_row _ _ 1 _ _ _ b0'
  have d2 := cell_of_row _ _ 0 _ _ _ b1'
  clear b0 b1 b0' b1' hks hhs
  simp only [List.take_succ_cons, List.take_zero, List.drop_succ_cons, List.drop_zero]
  iterate 6 still_step
  refine still_mem_some H1 HD.out rfl _ _ rfl rfl rfl ?_
  simp only [Act.put, List.setIfInBounds_toArray, List.set_cons_zero, List.set_cons_succ]
  refine wpStill_nil ?_
  go_wp2_with (refine stop_at (o := ⟨some 22, _, _, _, _, _⟩) ?_)
  refine Stop.mk ?_
  go_wp2_with fail
  have HI := Lib.hid (ext_Index a ha ha2 ws)
  cases hi : idxE a with
  | none =>
    rw [hi] at HI
    refine Calls.mono HI.out ?_
    rintro e w' ⟨rfl, rfl⟩
    simp only [idxV]
    go_wp2
    go_ret
    exact ⟨rfl, hk⟩
  | some i =>
    have hge := HX.out i hi
    have HL := Lib.hid (bits_Len (H1.row d n s HD.out))
    rw [hi] at HI
    refine Calls.mono HI.out ?_
    rintro e w' ⟨rfl, rfl⟩
    simp only [idxV]
    go_wp2_with (go_at_call 28; refine Calls.mono HL.out ?_; rintro e w' ⟨rfl, rfl⟩)
    go_ret
    exact ⟨rfl, hk⟩
theorem ext_to_TakeAt (H : XD w q S E g blk) {d a : Int} (ha : -9223372036854775808 ≤ a) (ha2 : a < 9223372036854775808) {n : Nat} {s : Nat → Bool} (hd : E d = some (n, s)) (i : Nat) (hi : i < n) (hx : idxE a = some (i : Int)) (R : Int → World → Prop)
    (hf : ∀ W, Kept w W → Calls Tryd.prog 33 #[.pointer (some ⟨blk d, 0, none⟩), .int .i64 (i : Int)] W fun e w' => ∃ v : Int, e = .returned (.int .i64 v) ∧ R v w') :
    Calls Tryd.prog 26 #[.pointer (some ⟨q, 0, none⟩), .agg #[.int .i64 d, .int .i64 a], .agg #[.func (.func 33) #[] #[]]] w fun e w' => ∃ v : Int, e = .returned (.int .i64 v) ∧ R v w' := by
  have HD := Lib.hid hd; clear hd
  have HF := Lib.hid hf; clear hf
  have hn := (H.row d n s HD.out).1
  have HX := Lib.hid hx; clear hx
  go_enter Tryd.func26, Tryd.ntmps26
  go_upto_region 1 with fail
  refine wp_still_tail 7 (by kernel_rfl) (by kernel_rfl) fun ws hks hhs => ?_
  have hk : Kept w ws := (((Kept.refl w).alloc _).alloc _).trans hks
  have H1 := H.same hk
  have c0 := H1.c0
  have b0 := heap_alloc_new w (Obj.cells #[Value.int IntKind.i64 d, Value.int IntKind.i64 a] 33)
  have b1 := heap_alloc_new (w.alloc (Obj.cells #[Value.int IntKind.i64 d, Value.int IntKind.i64 a] 33)) (Obj.cells #[Value.func (Fn.func 33) #[] #[]] 62)
  have b0' := hks.block (((Kept.refl _).alloc _).block b0)
  have b1' := hks.block b1
  simp only [World.size_alloc] at b1'
  have d0 := cell_of_row _ _ 0 _ _ _ b0'
  have d1 := cell_of_row _ _ 1 _ _ _ b0'
  have d2 := cell_of_row _ _ 0 _ _ _ b1'
  clear b0 b1 b0' b1' hks hhs
  simp only [List.take_succ_cons, List.take_zero, List.drop_succ_cons, List.drop_zero]
  iterate 6 still_step
  refine still_mem_some H1 HD.out rfl _ _ rfl rfl rfl ?_
  simp only [Act.put, List.setIfInBounds_toArray, List.set_cons_zero, List.set_cons_succ]
  refine wpStill_nil ?_
  have HL := Lib.hid (bits_Len (H1.row d n s HD.out))
  have HI := Lib.hid (ext_Index a ha ha2 ws)
  rw [HX.out] at HI
  go_wp2_with (first
    | (go_at_call 21; refine Calls.mono HI.out ?_; rintro e w' ⟨rfl, rfl⟩; simp only [idxV])
    | (go_at_call 28; refine Calls.mono HL.out ?_; rintro e w' ⟨rfl, rfl⟩)
    | (refine stop_at (o := ⟨some 37, _, _, _, _, _⟩) ?_))
  refine Stop.mk ?_
  go_wp2_with fail
  refine Calls.mono (HF.out ws hk) ?_
  rintro e w1 ⟨v, rfl, hr⟩
  go_wp2
  go_ret
  exact ⟨v, rfl, hr⟩
theorem ext_to_Free (H : XD w q S E g blk) {d a : Int} (ha : -9223372036854775808 ≤ a) (ha2 : a < 9223372036854775808) {n : Nat} {s : Nat → Bool} (hd : E d = some (n, s)) (i : Nat) (hi : i < n) (hx : idxE a = some (i : Int)) (R : Int → World → Prop)
    (hf : ∀ W, Kept w W → Calls Tryd.prog 27 #[.pointer (some ⟨blk d, 0, none⟩), .int .i64 (i : Int)] W fun e w' => ∃ v : Int, e = .returned (.int .i64 v) ∧ R v w') :
    Calls Tryd.prog 26 #[.pointer (some ⟨q, 0, none⟩), .agg #[.int .i64 d, .int .i64 a], .agg #[.func (.func 27) #[] #[]]] w fun e w' => ∃ v : Int, e = .returned (.int .i64 v) ∧ R v w' := by
  have HD := Lib.hid hd; clear hd
  have HF := Lib.hid hf; clear hf
  have hn := (H.row d n s HD.out).1
  have HX := Lib.hid hx; clear hx
  go_enter Tryd.func26, Tryd.ntmps26
  go_upto_region 1 with fail
  refine wp_still_tail 7 (by kernel_rfl) (by kernel_rfl) fun ws hks hhs => ?_
  have hk : Kept w ws := (((Kept.refl w).alloc _).alloc _).trans hks
  have H1 := H.same hk
  have c0 := H1.c0
  have b0 := heap_alloc_new w (Obj.cells #[Value.int IntKind.i64 d, Value.int IntKind.i64 a] 33)
  have b1 := heap_alloc_new (w.alloc (Obj.cells #[Value.int IntKind.i64 d, Value.int IntKind.i64 a] 33)) (Obj.cells #[Value.func (Fn.func 27) #[] #[]] 62)
  have b0' := hks.block (((Kept.refl _).alloc _).block b0)
  have b1' := hks.block b1
  simp only [World.size_alloc] at b1'
  have d0 := cell_of_row _ _ 0 _ _ _ b0'
  have d1 := cell_of_row _ _ 1 _ _ _ b0'
  have d2 := cell_of_row _ _ 0 _ _ _ b1'
  clear b0 b1 b0' b1' hks hhs
  simp only [List.take_succ_cons, List.take_zero, List.drop_succ_cons, List.drop_zero]
  iterate 6 still_step
  refine still_mem_some H1 HD.out rfl _ _ rfl rfl rfl ?_
  simp only [Act.put, List.setIfInBounds_toArray, List.set_cons_zero, List.set_cons_succ]
  refine wpStill_nil ?_
  have HL := Lib.hid (bits_Len (H1.row d n s HD.out))
  have HI := Lib.hid (ext_Index a ha ha2 ws)
  rw [HX.out] at HI
  go_wp2_with (first
    | (go_at_call 21; refine Calls.mono HI.out ?_; rintro e w' ⟨rfl, rfl⟩; simp only [idxV])
    | (go_at_call 28; refine Calls.mono HL.out ?_; rintro e w' ⟨rfl, rfl⟩)
    | (refine stop_at (o := ⟨some 37, _, _, _, _, _⟩) ?_))
  refine Stop.mk ?_
  go_wp2_with fail
  refine Calls.mono (HF.out ws hk) ?_
  rintro e w1 ⟨v, rfl, hr⟩
  go_wp2
  go_ret
  exact ⟨v, rfl, hr⟩
theorem ext_to_Has (H : XD w q S E g blk) {d a : Int} (ha : -9223372036854775808 ≤ a) (ha2 : a < 9223372036854775808) {n : Nat} {s : Nat → Bool} (hd : E d = some (n, s)) (i : Nat) (hi : i < n) (hx : idxE a = some (i : Int)) (R : Int → World → Prop)
    (hf : ∀ W, Kept w W → Calls Tryd.prog 31 #[.pointer (some ⟨blk d, 0, none⟩), .int .i64 (i : Int)] W fun e w' => ∃ v : Int, e = .returned (.int .i64 v) ∧ R v w') :
    Calls Tryd.prog 26 #[.pointer (some ⟨q, 0, none⟩), .agg #[.int .i64 d, .int .i64 a], .agg #[.func (.func 31) #[] #[]]] w fun e w' => ∃ v : Int, e = .returned (.int .i64 v) ∧ R v w' := by
  have HD := Lib.hid hd; clear hd
  have HF := Lib.hid hf; clear hf
  have hn := (H.row d n s HD.out).1
  have HX := Lib.hid hx; clear hx
  go_enter Tryd.func26, Tryd.ntmps26
  go_upto_region 1 with fail
  refine wp_still_tail 7 (by kernel_rfl) (by kernel_rfl) fun ws hks hhs => ?_
  have hk : Kept w ws := (((Kept.refl w).alloc _).alloc _).trans hks
  have H1 := H.same hk
  have c0 := H1.c0
  have b0 := heap_alloc_new w (Obj.cells #[Value.int IntKind.i64 d, Value.int IntKind.i64 a] 33)
  have b1 := heap_alloc_new (w.alloc (Obj.cells #[Value.int IntKind.i64 d, Value.int IntKind.i64 a] 33)) (Obj.cells #[Value.func (Fn.func 31) #[] #[]] 62)
  have b0' := hks.block (((Kept.refl _).alloc _).block b0)
  have b1' := hks.block b1
  simp only [World.size_alloc] at b1'
  have d0 := cell_of_row _ _ 0 _ _ _ b0'
  have d1 := cell_of_row _ _ 1 _ _ _ b0'
  have d2 := cell_of_row _ _ 0 _ _ _ b1'
  clear b0 b1 b0' b1' hks hhs
  simp only [List.take_succ_cons, List.take_zero, List.drop_succ_cons, List.drop_zero]
  iterate 6 still_step
  refine still_mem_some H1 HD.out rfl _ _ rfl rfl rfl ?_
  simp only [Act.put, List.setIfInBounds_toArray, List.set_cons_zero, List.set_cons_succ]
  refine wpStill_nil ?_
  have HL := Lib.hid (bits_Len (H1.row d n s HD.out))
  have HI := Lib.hid (ext_Index a ha ha2 ws)
  rw [HX.out] at HI
  go_wp2_with (first
    | (go_at_call 21; refine Calls.mono HI.out ?_; rintro e w' ⟨rfl, rfl⟩; simp only [idxV])
    | (go_at_call 28; refine Calls.mono HL.out ?_; rintro e w' ⟨rfl, rfl⟩)
    | (refine stop_at (o := ⟨some 37, _, _, _, _, _⟩) ?_))
  refine Stop.mk ?_
  go_wp2_with fail
  refine Calls.mono (HF.out ws hk) ?_
  rintro e w1 ⟨v, rfl, hr⟩
  go_wp2
  go_ret
  exact ⟨v, rfl, hr⟩
end
end Go.Proofs.YtglplhmclfekfaaDoor
