/- ref14: without (gen_urc.py). -/
import Derived.Test.YtglplhmclfekfaaUrb
namespace Go.Proofs.Ytglplhmclfekfaa
open Go.RowKit
set_option linter.unusedVariables false
set_option linter.unusedSimpArgs false

theorem ty_grps : ElemT Try.prog 122 172 2 16 := by
  refine ⟨Try.underlying122, ?_, by decide⟩
  have h1 : (Try.prog.info? 172).map (fun i => (i.zero, i.size, i.bytes)) = some (some (.agg #[.int .i64 0, .int .i64 0]), 2, 16) := by kernel_rfl
  cases hi : Try.prog.info? 172 with
  | none => simp [hi] at h1
  | some i =>
    simp only [hi, Option.map_some, Option.some.injEq, Prod.mk.injEq] at h1
    exact ⟨i, _, rfl, h1.1, h1.2.1, h1.2.2, rfl⟩
theorem ty_livs : ElemT Try.prog 123 175 3 24 := by
  refine ⟨Try.underlying123, ?_, by decide⟩
  have h1 : (Try.prog.info? 175).map (fun i => (i.zero, i.size, i.bytes)) = some (some (.agg #[.int .i64 0, .int .i64 0, .int .i64 0]), 3, 24) := by kernel_rfl
  cases hi : Try.prog.info? 175 with
  | none => simp [hi] at h1
  | some i =>
    simp only [hi, Option.map_some, Option.some.injEq, Prod.mk.injEq] at h1
    exact ⟨i, _, rfl, h1.1, h1.2.1, h1.2.2, rfl⟩
theorem ty_grp : AggT Try.prog 172 2 := ⟨⟨_, Try.underlying172, rfl⟩, by kernel_rfl⟩
theorem ty_liv : AggT Try.prog 175 3 := ⟨⟨_, Try.underlying175, rfl⟩, by kernel_rfl⟩
theorem zero_liv (w : World) : (zeroValue 175).run Try.prog w = .ok (.agg [Value.int .i64 0, .int .i64 0, .int .i64 0].toArray) w := by kernel_rfl
section
variable {P : Program} {ops : Array Oper} {rest : List Oper} {o1 o2 : Oper} {a : Act} {w : World} {Q : Exit → Act → World → Prop}
theorem wpList_new_aggU (hg1 : o1.guard = none) (hg2 : o2.guard = none) {T n : Nat} (x y : Operand) (ho1 : o1.op = .alloc T) (ho2 : o2.op = .store T x y) (hT : AggT P T n)
    (zs : List Value) (hz : ∀ w, (zeroValue T).run P w = .ok (.agg zs.toArray) w) (hzl : zs.length = n)
    (xs : List Value) (hy : (a.put o1.dst (.pointer (some ⟨w.heap.size, 0, none⟩))).eval y = .agg xs.toArray) (hl : xs.length = n) (h1 : ∀ v ∈ xs, v.oneCell' = true)
    (hx : (a.put o1.dst (.pointer (some ⟨w.heap.size, 0, none⟩))).eval x = .pointer (some ⟨w.heap.size, 0, none⟩))
    (h : ∀ w1, Hid (w1.heap[w.heap.size]? = some (.cells xs.toArray T (0, 0))) → w.heap.size < w1.heap.size → Kept w w1 → wpList P ops Q rest ((a.put o1.dst (.pointer (some ⟨w.heap.size, 0, none⟩))).put o2.dst undef) w1) : wpList P ops Q (o1 :: o2 :: rest) a w := by
  refine wpList_alloc_abs hg1 T ho1 zs hz ?_
  intro w1 hz1 hs1 hn1 hk1
  refine wpList_store_agg hg2 x y ho2 hT w.heap.size 0 hx xs hy hl h1 zs T hz1.out (by omega) ?_
  intro w2 hw2
  replace hw2 := hw2.all (by omega)
  exact h w2 (Lib.hid hw2.blk) (by rw [hw2.size]; exact hs1) (hw2.kept hk1 (Nat.le_refl _))
end
theorem cells3 {w : World} {b off : Nat} {x y z : Value} (h0 : w.cell? ⟨b, off, none⟩ = some x) (h1 : w.cell? ⟨b, off + 1, none⟩ = some y) (h2 : w.cell? ⟨b, off + 2, none⟩ = some z) : Cells w b off [x, y, z] := fun j hj => by
  rcases j with _ | _ | _ | j
  · exact h0
  · exact h1
  · exact h2
  · simp at hj; omega
theorem wp_append_runU {P : Program} {o : Oper} {a : Act} {w w' : World} {K : Act → World → Prop} {Q : Exit → Act → World → Prop} {s x : Operand} {t : TypeId} {v u v' : Value} (ho : o.op = .call { callee := .builtin .append, args := #[s, x], argTypes := #[t, t] }) (hs : a.eval s = v) (hx : a.eval x = u)
    (hr : (Builtin.append_ #[t, t] o.type #[v, u]).run P w = .ok v' w') (h : K (a.put o.dst v') w') : o.wp P a w K Q := by
  unfold Oper.wp execOp
  simp only [ho, resolve, invoke, builtin, Sem.run_bind, Sem.run_pure, Result.andThen_ok, List.map_toArray, List.map_cons, List.map_nil, hs, hx, hr]
  exact h
theorem own_typeU {W : World} {base e sz n : Nat} {v : Value} {xs : List Value} (h : W.ownsRow base e sz v n xs) {g : Nat} (hg : v.ownBlock = some g) : ∃ cur, W.heap[g]? = some (.cells cur e (0, 0)) := by
  rcases h.2 with ⟨rfl, _⟩ | ⟨g', cap, cur, rfl, _, hh, _⟩
  · simp [Value.ownBlock] at hg
  · simp only [Value.ownBlock, Option.some.injEq] at hg
    subst hg
    exact ⟨cur, hh⟩
/-- a slice without elements in a new block -/
theorem own_made {W : World} {e sz : Nat} {b : Nat} (h : W.heap[b]? = some (.cells #[] e (0, 0))) : W.ownsRow 0 e sz (.slice (some ⟨b, 0, none⟩) 0 0) 0 [] :=
  ⟨by simp, .inr ⟨b, 0, #[], rfl, Nat.zero_le _, h, Nat.le_refl _, Nat.zero_le _, by simp, by simp⟩⟩
/-- a slice that is new since w0 grows: that is kept, too -/
theorem Grw.kept {w0 W W' : World} {v v' : Value} (h : Grw W W' v v') (hk : Kept w0 W) (hn : ∀ b, v.ownBlock = some b → w0.heap.size ≤ b) : Kept w0 W' ∧ ∀ b, v'.ownBlock = some b → w0.heap.size ≤ b := by
  rcases h with ⟨he, hb⟩ | ⟨g, hg, hge, _, hk2⟩
  · exact ⟨But.to_kept hk hb hn, fun b hb' => hn b (he ▸ hb')⟩
  · exact ⟨hk.trans hk2, fun b hb' => by rw [hg] at hb'; injection hb' with hb'; subst hb'; exact Nat.le_trans hk.size hge⟩
section
variable {L : UL} {g s b : Int} {k : Nat}
theorem UL.wout_keep (hk : k < L.length) (h : ¬ ((L[k].1 = g ∧ (s < 0 ∨ L[k].2.1 = s)) ∨ (0 ≤ b ∧ L[k].2.2 = b))) : UL.wout (L.take (k + 1)) g s b = UL.wout (L.take k) g s b ++ [L[k]] := by
  unfold UL.wout
  rw [List.take_add_one, List.getElem?_eq_getElem hk, List.filter_append]
  simp only [Option.toList_some, List.filter_cons, List.filter_nil, decide_eq_true h, if_true]
theorem UL.wout_skip (hk : k < L.length) (h : (L[k].1 = g ∧ (s < 0 ∨ L[k].2.1 = s)) ∨ (0 ≤ b ∧ L[k].2.2 = b)) : UL.wout (L.take (k + 1)) g s b = UL.wout (L.take k) g s b := by
  unfold UL.wout
  rw [List.take_add_one, List.getElem?_eq_getElem hk, List.filter_append]
  have h2 : decide (¬ ((L[k].1 = g ∧ (s < 0 ∨ L[k].2.1 = s)) ∨ (0 ≤ b ∧ L[k].2.2 = b))) = false := decide_eq_false fun h' => h' h
  simp only [Option.toList_some, List.filter_cons, List.filter_nil, h2]
  simp
theorem UL.wout_le (k : Nat) : (UL.wout (L.take k) g s b).length ≤ k := Nat.le_trans (UL.wout_len _ _ _ _) (by rw [List.length_take]; omega)
theorem lV_app (L : UL) (x : Int × Int × Int) : lV (L ++ [x]) = lV L ++ [.int .i64 x.1, .int .i64 x.2.1, .int .i64 x.2.2] := by simp [lV]
theorem gV_app (G : UG) (p : Int × Int) : gV (G ++ [p]) = gV G ++ [.int .i64 p.1, .int .i64 p.2] := by simp [gV]
end
section
variable {w : World} {q c : Nat} {G : UG} {L : UL} {T : Tab} {vg vl : Value}
set_option maxHeartbeats 2000000
set_option maxRecDepth 100000
theorem ur_without (h : UD w q G L vg vl) (hc : L.length < 20000) (n s b : Int) : Calls Try.prog 129 #[.pointer (some ⟨q, 0, none⟩), .int .i64 n, .int .i64 s, .int .i64 b] w fun e w' => ∃ v, e = .returned v ∧ w'.ownsRow 0 175 3 v (UL.wout L n s b).length (lV (UL.wout L n s b)) ∧ Kept w w' ∧ ∀ B, v.ownBlock = some B → w.heap.size ≤ B := by
  have c0 := h.c1
  obtain ⟨ao, cap, hv⟩ := h.formL
  have HV := Lib.hid hv
  rw [hv] at c0
  have H := Lib.hid h
  clear h hv
  have HKA := Lib.hid ((Kept.refl w).alloc (Obj.cells #[] 175))
  have HOA := Lib.hid (own_made (sz := 3) (heap_alloc_new w (Obj.cells #[] 175)))
  go_enter Try.func129, Try.ntmps129
  go_wp2
  go_loopw [9, 10] (fun v i wr => ∃ k : Nat, k ≤ L.length ∧ i = .int .i64 k ∧ Hid (wr.ownsRow 0 175 3 v (UL.wout (L.take k) n s b).length (lV (UL.wout (L.take k) n s b))) ∧ Hid (Kept w wr) ∧ Hid (∀ B, v.ownBlock = some B → w.heap.size ≤ B)) (fun _ i _ => L.length - (intOf i).toNat)
  case atStart => exact ⟨0, Nat.zero_le _, rfl, HOA, HKA, Lib.hid (fun B hB => by simp [Value.ownBlock] at hB; omega)⟩
  case round =>
    clear HOA HKA
    obtain ⟨k, hk, rfl, HO, HK, HN⟩ := hrel
    rename_i v
    have c0r := HK.out.cell' c0
    by_cases hlt : k < L.length
    · obtain ⟨g, cap', hv', c1, c2, c3⟩ := (H.out.kept HK.out).atL hlt
      rw [HV.out] at hv'
      injection hv' with ha _ hcap
      subst ha
      clear hcap
      have HCS := Lib.hid (cells3 c1 c2 c3)
      have HKEEP := Lib.hid (fun h => UL.wout_keep (g := n) (s := s) (b := b) hlt h)
      have HSKIP := Lib.hid (fun h => UL.wout_skip (g := n) (s := s) (b := b) hlt h)
      have HLE := Lib.hid (UL.wout_le (L := L) (g := n) (s := s) (b := b) k)
      obtain ⟨ao2, cap2, hv2⟩ := own_form HO.out
      have HV2 := Lib.hid hv2
      generalize L[k] = x at *
      obtain ⟨x1, x2, x3⟩ := x
      simp only at HCS HKEEP HSKIP
      clear c1 c2 c3 hv2
      generalize UL.wout (L.take k) n s b = Lk at *
      go_wp2_with (refine stop_at (o := ⟨some 28, _, _, _, _, _⟩) ?_)
      refine Stop.mk ?_
      refine wpList_load_agg rfl _ rfl ty_liv g (k * 3) rfl _ HCS.out rfl ?_
      go_wp2_with (refine stop_at (o := ⟨some 11, _, _, _, _, _⟩) ?_)
      refine Stop.mk ?_
      refine wpList_new_aggU rfl rfl _ _ rfl rfl ty_liv [Value.int .i64 0, .int .i64 0, .int .i64 0] zero_liv rfl [Value.int .i64 x1, .int .i64 x2, .int .i64 x3] rfl rfl (by simp [Value.oneCell']) rfl ?_
      intro w2 HB2 hs2 hk2
      have HK2 := Lib.hid (HK.out.trans hk2)
      have HO2 := Lib.hid (own_same HO.out fun g' hg' => hk2.block_eq (own_lt HO.out hg'))
      obtain ⟨B, hB⟩ : ∃ B, B = wr.heap.size := ⟨_, rfl⟩
      rw [← hB] at HB2 ⊢
      have p0 := cell_of_row _ _ 0 _ _ _ HB2.out
      have p1 := cell_of_row _ _ 1 _ _ _ HB2.out
      have p2 := cell_of_row _ _ 2 _ _ _ HB2.out
      clear hs2 hk2 hB HCS HK HO c0r
      by_cases h1 : x1 = n
      · subst h1
        by_cases hs : s < 0
        · go_wp2
          go_roundw
          case rel => exact ⟨k + 1, hlt, by go_num, by rw [HSKIP.out (.inl ⟨rfl, .inl hs⟩)]; exact HO2, HK2, HN⟩
          case measure => simp [intOf]; omega
        · by_cases h2 : x2 = s
          · subst h2
            go_wp2
            go_roundw
            case rel => exact ⟨k + 1, hlt, by go_num, by rw [HSKIP.out (.inl ⟨rfl, .inr rfl⟩)]; exact HO2, HK2, HN⟩
            case measure => simp [intOf]; omega
          · have k2 : (x2 == s) = false := by simpa using h2
            have hA : ¬ (x1 = x1 ∧ (s < 0 ∨ x2 = s)) := fun h => by rcases h.2 with h | h; exact hs h; exact h2 h
            by_cases hb : 0 ≤ b
            · by_cases h3 : x3 = b
              · subst h3
                go_wp2
                go_roundw
                case rel => exact ⟨k + 1, hlt, by go_num, by rw [HSKIP.out (.inr ⟨hb, rfl⟩)]; exact HO2, HK2, HN⟩
                case measure => simp [intOf]; omega
              · have k3 : (x3 == b) = false := by simpa using h3
                have HKEEP2 := Lib.hid (HKEEP.out (fun h => by rcases h with h | ⟨_, h⟩; exact hA h; exact h3 h))
                clear HKEEP HSKIP
                go_wp2_with (refine stop_at (o := ⟨some 54, _, _, _, _, _⟩) ?_)
                refine Stop.mk ?_
                refine wpList_load_agg rfl _ rfl ty_liv B 0 rfl _ (by simpa using Cells.of_block HB2.out) rfl ?_
                have hk4 := (Kept.refl w2).alloc (Obj.cells #[Value.int .i64 x1, .int .i64 x2, .int .i64 x3] 175)
                have hb4 := heap_alloc_new w2 (Obj.cells #[Value.int .i64 x1, .int .i64 x2, .int .i64 x3] 175)
                have HK4 := Lib.hid (HK2.out.trans hk4)
                have HO4 := Lib.hid (own_same HO2.out fun g' hg' => hk4.block_eq (own_lt HO2.out hg'))
                have hll := HLE.out
                obtain ⟨v', w5, hrun, hown, hgrw⟩ := own_append ty_livs HO4.out (by omega) (by decide) [Value.int .i64 x1, .int .i64 x2, .int .i64 x3] rfl (b := w2.heap.size) (fun j u hu => by rw [cell_of_row _ _ j _ _ _ hb4]; simpa using hu) (by intro u hu; simp at hu; rcases hu with rfl | rfl | rfl <;> rfl) 123
                obtain ⟨hk5, hn5⟩ := hgrw.kept HK4.out HN.out
                have HK5 := Lib.hid hk5
                have HN5 := Lib.hid hn5
                have HOWN : Hid (w5.ownsRow 0 175 3 v' (UL.wout (L.take (k + 1)) x1 s b).length (lV (UL.wout (L.take (k + 1)) x1 s b))) := Lib.hid (by rw [HKEEP2.out, lV_app, List.length_append]; exact hown)
                have HRUN := Lib.hid hrun
                clear hk4 hb4 HK4 HO4 hrun hown hgrw hk5 hn5 hll p0 p1 p2
                go_wp2_with (refine stop_at (o := ⟨some 56, _, _, _, _, _⟩) ?_)
                refine Stop.mk ?_
                refine wpList_plain rfl fun K hK => ?_
                refine wp_append_runU rfl rfl rfl HRUN.out ?_
                refine hK _ _ ?_
                clear hK K HRUN
                go_wp2
                go_roundw
                case rel => exact ⟨k + 1, hlt, by go_num, HOWN, HK5, HN5⟩
                case measure => simp [intOf]; omega
            · have kb : ¬ (0 ≤ b) := hb
              have HKEEP2 := Lib.hid (HKEEP.out (fun h => by rcases h with h | ⟨h, _⟩; exact hA h; exact hb h))
              clear HKEEP HSKIP
              go_wp2_with (refine stop_at (o := ⟨some 54, _, _, _, _, _⟩) ?_)
              refine Stop.mk ?_
              refine wpList_load_agg rfl _ rfl ty_liv B 0 rfl _ (by simpa using Cells.of_block HB2.out) rfl ?_
              have hk4 := (Kept.refl w2).alloc (Obj.cells #[Value.int .i64 x1, .int .i64 x2, .int .i64 x3] 175)
              have hb4 := heap_alloc_new w2 (Obj.cells #[Value.int .i64 x1, .int .i64 x2, .int .i64 x3] 175)
              have HK4 := Lib.hid (HK2.out.trans hk4)
              have HO4 := Lib.hid (own_same HO2.out fun g' hg' => hk4.block_eq (own_lt HO2.out hg'))
              have hll := HLE.out
              obtain ⟨v', w5, hrun, hown, hgrw⟩ := own_append ty_livs HO4.out (by omega) (by decide) [Value.int .i64 x1, .int .i64 x2, .int .i64 x3] rfl (b := w2.heap.size) (fun j u hu => by rw [cell_of_row _ _ j _ _ _ hb4]; simpa using hu) (by intro u hu; simp at hu; rcases hu with rfl | rfl | rfl <;> rfl) 123
              obtain ⟨hk5, hn5⟩ := hgrw.kept HK4.out HN.out
              have HK5 := Lib.hid hk5
              have HN5 := Lib.hid hn5
              have HOWN : Hid (w5.ownsRow 0 175 3 v' (UL.wout (L.take (k + 1)) x1 s b).length (lV (UL.wout (L.take (k + 1)) x1 s b))) := Lib.hid (by rw [HKEEP2.out, lV_app, List.length_append]; exact hown)
              have HRUN := Lib.hid hrun
              clear hk4 hb4 HK4 HO4 hrun hown hgrw hk5 hn5 hll p0 p1 p2
              go_wp2_with (refine stop_at (o := ⟨some 56, _, _, _, _, _⟩) ?_)
              refine Stop.mk ?_
              refine wpList_plain rfl fun K hK => ?_
              refine wp_append_runU rfl rfl rfl HRUN.out ?_
              refine hK _ _ ?_
              clear hK K HRUN
              go_wp2
              go_roundw
              case rel => exact ⟨k + 1, hlt, by go_num, HOWN, HK5, HN5⟩
              case measure => simp [intOf]; omega
      · have k1 : (x1 == n) = false := by simpa using h1
        have hA : ¬ (x1 = n ∧ (s < 0 ∨ x2 = s)) := fun h => h1 h.1
        by_cases hb : 0 ≤ b
        · by_cases h3 : x3 = b
          · subst h3
            go_wp2
            go_roundw
            case rel => exact ⟨k + 1, hlt, by go_num, by rw [HSKIP.out (.inr ⟨hb, rfl⟩)]; exact HO2, HK2, HN⟩
            case measure => simp [intOf]; omega
          · have k3 : (x3 == b) = false := by simpa using h3
            have HKEEP2 := Lib.hid (HKEEP.out (fun h => by rcases h with h | ⟨_, h⟩; exact hA h; exact h3 h))
            clear HKEEP HSKIP
            go_wp2_with (refine stop_at (o := ⟨some 54, _, _, _, _, _⟩) ?_)
            refine Stop.mk ?_
            refine wpList_load_agg rfl _ rfl ty_liv B 0 rfl _ (by simpa using Cells.of_block HB2.out) rfl ?_
            have hk4 := (Kept.refl w2).alloc (Obj.cells #[Value.int .i64 x1, .int .i64 x2, .int .i64 x3] 175)
            have hb4 := heap_alloc_new w2 (Obj.cells #[Value.int .i64 x1, .int .i64 x2, .int .i64 x3] 175)
            have HK4 := Lib.hid (HK2.out.trans hk4)
            have HO4 := Lib.hid (own_same HO2.out fun g' hg' => hk4.block_eq (own_lt HO2.out hg'))
            have hll := HLE.out
            obtain ⟨v', w5, hrun, hown, hgrw⟩ := own_append ty_livs HO4.out (by omega) (by decide) [Value.int .i64 x1, .int .i64 x2, .int .i64 x3] rfl (b := w2.heap.size) (fun j u hu => by rw [cell_of_row _ _ j _ _ _ hb4]; simpa using hu) (by intro u hu; simp at hu; rcases hu with rfl | rfl | rfl <;> rfl) 123
            obtain ⟨hk5, hn5⟩ := hgrw.kept HK4.out HN.out
            have HK5 := Lib.hid hk5
            have HN5 := Lib.hid hn5
            have HOWN : Hid (w5.ownsRow 0 175 3 v' (UL.wout (L.take (k + 1)) n s b).length (lV (UL.wout (L.take (k + 1)) n s b))) := Lib.hid (by rw [HKEEP2.out, lV_app, List.length_append]; exact hown)
            have HRUN := Lib.hid hrun
            clear hk4 hb4 HK4 HO4 hrun hown hgrw hk5 hn5 hll p0 p1 p2
            go_wp2_with (refine stop_at (o := ⟨some 56, _, _, _, _, _⟩) ?_)
            refine Stop.mk ?_
            refine wpList_plain rfl fun K hK => ?_
            refine wp_append_runU rfl rfl rfl HRUN.out ?_
            refine hK _ _ ?_
            clear hK K HRUN
            go_wp2
            go_roundw
            case rel => exact ⟨k + 1, hlt, by go_num, HOWN, HK5, HN5⟩
            case measure => simp [intOf]; omega
        · have kb : ¬ (0 ≤ b) := hb
          have HKEEP2 := Lib.hid (HKEEP.out (fun h => by rcases h with h | ⟨h, _⟩; exact hA h; exact hb h))
          clear HKEEP HSKIP
          go_wp2_with (refine stop_at (o := ⟨some 54, _, _, _, _, _⟩) ?_)
          refine Stop.mk ?_
          refine wpList_load_agg rfl _ rfl ty_liv B 0 rfl _ (by simpa using Cells.of_block HB2.out) rfl ?_
          have hk4 := (Kept.refl w2).alloc (Obj.cells #[Value.int .i64 x1, .int .i64 x2, .int .i64 x3] 175)
          have hb4 := heap_alloc_new w2 (Obj.cells #[Value.int .i64 x1, .int .i64 x2, .int .i64 x3] 175)
          have HK4 := Lib.hid (HK2.out.trans hk4)
          have HO4 := Lib.hid (own_same HO2.out fun g' hg' => hk4.block_eq (own_lt HO2.out hg'))
          have hll := HLE.out
          obtain ⟨v', w5, hrun, hown, hgrw⟩ := own_append ty_livs HO4.out (by omega) (by decide) [Value.int .i64 x1, .int .i64 x2, .int .i64 x3] rfl (b := w2.heap.size) (fun j u hu => by rw [cell_of_row _ _ j _ _ _ hb4]; simpa using hu) (by intro u hu; simp at hu; rcases hu with rfl | rfl | rfl <;> rfl) 123
          obtain ⟨hk5, hn5⟩ := hgrw.kept HK4.out HN.out
          have HK5 := Lib.hid hk5
          have HN5 := Lib.hid hn5
          have HOWN : Hid (w5.ownsRow 0 175 3 v' (UL.wout (L.take (k + 1)) n s b).length (lV (UL.wout (L.take (k + 1)) n s b))) := Lib.hid (by rw [HKEEP2.out, lV_app, List.length_append]; exact hown)
          have HRUN := Lib.hid hrun
          clear hk4 hb4 HK4 HO4 hrun hown hgrw hk5 hn5 hll p0 p1 p2
          go_wp2_with (refine stop_at (o := ⟨some 56, _, _, _, _, _⟩) ?_)
          refine Stop.mk ?_
          refine wpList_plain rfl fun K hK => ?_
          refine wp_append_runU rfl rfl rfl HRUN.out ?_
          refine hK _ _ ?_
          clear hK K HRUN
          go_wp2
          go_roundw
          case rel => exact ⟨k + 1, hlt, by go_num, HOWN, HK5, HN5⟩
          case measure => simp [intOf]; omega
    · have hkk : k = L.length := by omega
      subst hkk
      rw [List.take_length] at HO
      go_wp2
      go_ret
      exact ⟨_, rfl, HO.out, HK.out, HN.out⟩
end
end Go.Proofs.Ytglplhmclfekfaa
