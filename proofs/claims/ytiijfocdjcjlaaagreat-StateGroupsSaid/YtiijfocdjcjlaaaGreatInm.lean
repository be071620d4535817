/- slices.Insert at groups, within. -/
import Derived.Test.YtiijfocdjcjlaaaGreatFnp
import Derived.Lib.Overlaps
import Derived.Lib.AppendZerosOnto
import Derived.Laws.Externs
import Derived.Laws.CopyRow
import Derived.StillTailTactics
namespace Go.Proofs.YtiijfocdjcjlaaaGreat
open Go.RowKit Go.ChangeMaps Go.MapKept
set_option linter.unusedVariables false
set_option linter.unusedSimpArgs false
set_option maxRecDepth 100000
set_option maxHeartbeats 1000000
theorem run_copy_rowN {P : Program} (w : World) (dT sT ty elem : TypeId) (g o dLen dCap : Nat) (a : Addr) (sLen sCap : Nat) (cur : Array Value) (t : TypeId) (cs : List Value) (k n : Nat)
    (hu : P.underlying dT = some (.slice elem)) (hs : (P.info? elem).map (·.size) = some n)
    (hg : w.heap[g]? = some (.cells cur t (0, 0))) (hk : k = Nat.min sLen dLen) (hn : cs.length = k * n)
    (hsrc : ∀ j v, cs[j]? = some v → w.cell? (a.add j) = some v) (hfit : o + cs.length ≤ cur.size) (h1 : ∀ v ∈ cs, v.oneCell' = true) :
    (Builtin.copy_ #[dT, sT] ty #[.slice (some ⟨g, o, none⟩) dLen dCap, .slice (some a) sLen sCap]).run P w =
      .ok (goInt k) (w.setRow g (cur.toList.take o ++ cs ++ cur.toList.drop (o + cs.length)).toArray) := by
  have hl := run_loadCells_list (P := P) w a cs hsrc
  have hst := run_storeCells_at P g o t cs 0 cur w hg (by simpa using hfit) h1
  cases hq : P.info? elem with
  | none => simp [hq] at hs
  | some i =>
    have hi : i.size = n := by simpa [hq] using hs
    have hl' : (loadCells a (k * n)).run P w = .ok cs.toArray w := by rw [← hn]; exact hl
    simp [Builtin.copy_, run_underlying hu, Builtin.lenOf, Builtin.firstCells, sizeOf, typeInfo, hq, hi, ← hk, hl', hst]
theorem wpList_copy_rec {P : Program} {w : World} {ops : Array Oper} {rest : List Oper} {o : Oper} {a : Act} {Q : Exit → Act → World → Prop} {T E n bytes : Nat} (hgd : o.guard = none) (d s : Operand)
    (ho : o.op = .call { callee := .builtin .copy, args := #[d, s], argTypes := #[T, T] }) (hT : ElemT P T E n bytes) (g off dLen dCap b2 o2 sLen sCap : Nat) (hd : a.eval d = .slice (some ⟨g, off, none⟩) dLen dCap) (hs : a.eval s = .slice (some ⟨b2, o2, none⟩) sLen sCap)
    (cur : List Value) (t : TypeId) (hg : w.heap[g]? = some (.cells cur.toArray t (0, 0))) (k : Nat) (hk : k = Nat.min sLen dLen) (cs : List Value) (hn : cs.length = k * n) (hc : Cells w b2 o2 cs) (hfit : off + cs.length ≤ cur.length) (h1 : ∀ v ∈ cs, v.oneCell' = true)
    (h : ∀ w1, Wrote w w1 g (cur.take off ++ cs ++ cur.drop (off + cs.length)) t → wpList P ops Q rest (a.put o.dst (goInt k)) w1) : wpList P ops Q (o :: rest) a w := by
  refine wpList_plain hgd fun K hK => ?_
  obtain ⟨ht, ⟨i, z, hi, hz, hsz, hby, hzs⟩, hpos⟩ := hT
  have hr := run_copy_rowN (P := P) w T T o.type E g off dLen dCap ⟨b2, o2, none⟩ sLen sCap cur.toArray t cs k n ht (by rw [hi]; simp [hsz]) hg hk hn (fun j v hj => hc.add j v hj) (by simpa using hfit) h1
  unfold Oper.wp execOp
  simp only [ho, resolve, invoke, builtin, Sem.run_bind, Sem.run_pure, Result.andThen_ok, List.map_toArray, List.map_cons, List.map_nil, hd, hs, hr]
  refine hK _ _ (h _ ⟨?_, ?_, ?_, rfl, rfl, rfl⟩)
  · rw [setRow_heap w g _ _ t _ hg]
  · intro k hk; exact setRow_other w g k _ hk
  · simp [World.setRow]
theorem size_grp3 : ∀ w, (Go.sizeOf 37).run Tryz.prog w = .ok 3 w := by intro w; kernel_rfl
theorem over_grp (w : World) (vb g off lb cb m vc : Nat) (cA cB : Array Value) (tA tB : TypeId) (hne : vb ≠ g) (hA : w.heap[vb]? = some (.cells cA tA (0, 0))) (hB : w.heap[g]? = some (.cells cB tB (0, 0))) (h0 : cB.size ≠ 0) :
    (callFunc 126 #[.slice (some ⟨vb, 0, none⟩) m vc, .slice (some ⟨g, off, none⟩) lb cb]).run Tryz.prog w = .ok (.value (.bool false)) w := by
  rw [run_callFunc_extern Tryz.func126 (by kernel_rfl) (by kernel_rfl) (by kernel_rfl) (e := Extern.SlicesOverlaps.overlaps #[23, 23] #[4]) (by kernel_rfl),
    Lib.run_overlaps_apart w 23 4 37 ty_grp.ht 3 size_grp3 ⟨vb, 0, none⟩ ⟨g, off, none⟩ m vc lb cb hne tA tB cA.size cB.size (by simp [World.shape?, hA]) (by simp [World.shape?, hB]) h0 (by simp [World.frozen?, hA]) (by simp [World.frozen?, hA])]
  rfl
theorem cells_mid {W : World} {g : Nat} {A B C : List Value} {t : TypeId} (h : W.heap[g]? = some (.cells (A ++ B ++ C).toArray t (0, 0))) : Cells W g A.length B := by
  intro j hj
  have h1 := (Cells.of_block h) (A.length + j) (by simp; omega)
  rw [Nat.zero_add] at h1
  rw [h1]
  simp only [List.append_assoc]
  rw [List.getElem_append_right (by omega), List.getElem_append_left (by omega)]
  simp
theorem ins_cells (A B J y : List Value) (hy : y.length = 3) (hJ : 3 ≤ J.length) :
    ((A ++ B ++ J).take (A.length + 3) ++ B ++ (A ++ B ++ J).drop (A.length + 3 + B.length)).take A.length ++ y ++ ((A ++ B ++ J).take (A.length + 3) ++ B ++ (A ++ B ++ J).drop (A.length + 3 + B.length)).drop (A.length + y.length) = A ++ y ++ B ++ J.drop 3 := by
  have hX : ((A ++ B ++ J).take (A.length + 3)).length = A.length + 3 := by rw [List.length_take, List.length_append, List.length_append]; omega
  have hD : (A ++ B ++ J).drop (A.length + 3 + B.length) = J.drop 3 := by
    rw [List.drop_append, List.drop_eq_nil_of_le (by rw [List.length_append]; omega), List.nil_append]
    congr 1
    rw [List.length_append]; omega
  rw [hD, hy]
  have e1 : ((A ++ B ++ J).take (A.length + 3) ++ B ++ J.drop 3).take A.length = A := by
    rw [List.append_assoc, List.take_append_of_le_length (by omega), List.take_take, Nat.min_eq_left (by omega), List.append_assoc, List.take_left]
  have e2 : ((A ++ B ++ J).take (A.length + 3) ++ B ++ J.drop 3).drop (A.length + 3) = B ++ J.drop 3 := by
    generalize (A ++ B ++ J).take (A.length + 3) = X at hX ⊢
    rw [List.append_assoc, ← hX, List.drop_left]
  rw [e1, e2]
  simp only [List.append_assoc]
theorem new_cells (A B Z y : List Value) (hy : y.length = 3) (hZ : 3 + B.length ≤ Z.length) :
    ((A ++ Z).take A.length ++ y ++ (A ++ Z).drop (A.length + y.length)).take (A.length + 3) ++ B ++ ((A ++ Z).take A.length ++ y ++ (A ++ Z).drop (A.length + y.length)).drop (A.length + 3 + B.length) = A ++ y ++ B ++ Z.drop (3 + B.length) := by
  have e0 : (A ++ Z).take A.length ++ y ++ (A ++ Z).drop (A.length + y.length) = (A ++ y) ++ Z.drop 3 := by
    rw [List.take_left, hy, List.drop_append, List.drop_eq_nil_of_le (by omega), List.nil_append]
    congr 2
    omega
  rw [e0]
  have hA : (A ++ y).length = A.length + 3 := by rw [List.length_append, hy]
  rw [← hA, List.take_left, List.drop_append, List.drop_eq_nil_of_le (by omega), List.nil_append, List.drop_drop]
  congr 2
  omega
/-- append(s, make(S, k)...) where there is no room -/
theorem wpList_grow_zeros {P : Program} {w : World} {ops : Array Oper} {rest : List Oper} {o : Oper} {a : Act} {Q : Exit → Act → World → Prop} {T tn E n bytes : Nat} (hgd : o.guard = none) (s x : Operand)
    (ho : o.op = .call { callee := .builtin .append, args := #[s, x], argTypes := #[T, tn] }) (hT : ElemT P T E n bytes) (htn : P.underlying tn = some (.int .i64)) (b off sLen sCap : Nat) (hs : a.eval s = .slice (some ⟨b, off, none⟩) sLen sCap)
    (k : Nat) (hx : a.eval x = .int .i64 (k : Int)) (olds : List Value) (hol : olds.length = sLen * n) (hc : Cells w b off olds) (h0 : 0 < k) (hg : sCap < sLen + k) (hbig : (sLen + k) * bytes ≤ 140737488355328) (h63 : sLen + k ≤ maxLen)
    (h : ∀ w1 c Z, Hid (w1.heap[w.heap.size]? = some (.cells (olds ++ Z).toArray E (0, 0))) → Z.length = (c - sLen) * n → sLen + k ≤ c → c ≤ maxLen → Kept w w1 → w.heap.size < w1.heap.size → wpList P ops Q rest (a.put o.dst (.slice (some ⟨w.heap.size, 0, none⟩) (sLen + k) c)) w1) : wpList P ops Q (o :: rest) a w := by
  refine wpList_plain hgd fun K hK => ?_
  obtain ⟨ht, ⟨i, z, hi, hz, hsz, hby, hzs⟩, hpos⟩ := hT
  subst hsz
  subst hby
  have hold := run_firstCells_some (P := P) (w := w.drew) i.size sLen ⟨b, off, none⟩ sLen sCap olds hol (fun j v hj => hc.add j v hj)
  have hkb : k * i.bytes ≤ 281474976710656 := by
    have : k * i.bytes ≤ (sLen + k) * i.bytes := Nat.mul_le_mul_right _ (by omega)
    omega
  have hr := Lib.run_append_grow_zeros (P := P) w T tn o.type E i z .i64 .i64 ht htn hi hz (some ⟨b, off, none⟩) sLen sCap olds hold k h0 hpos hg (by simp only [maxLen] at h63; omega) hkb (growslice_fits hg hbig)
  have hge := grownCap_ge w (sLen + k) sCap E
  have hcm : grownCap w (sLen + k) sCap E ≤ maxLen := grownCap_le_maxLen w (sLen + k) sCap E h63
  unfold Oper.wp execOp
  simp only [ho, resolve, invoke, builtin, Sem.run_bind, Sem.run_pure, Result.andThen_ok, List.map_toArray, List.map_cons, List.map_nil, hs, hx, hr]
  refine hK _ _ (h _ (grownCap w (sLen + k) sCap E) (Builtin.zeroCells z.cells k ++ Builtin.zeroCells z.cells (grownCap w (sLen + k) sCap E - (sLen + k))).toList (Lib.hid ?_) ?_ hge hcm ((Kept.refl w).drew.alloc _) (by simp))
  · have e : (olds.toArray ++ Builtin.zeroCells z.cells k ++ Builtin.zeroCells z.cells (grownCap w (sLen + k) sCap E - (sLen + k))) = (olds ++ (Builtin.zeroCells z.cells k ++ Builtin.zeroCells z.cells (grownCap w (sLen + k) sCap E - (sLen + k))).toList).toArray := by
      simp
    rw [← e]
    exact heap_alloc_new w.drew _
  · simp only [Array.length_toList, Array.size_append, size_zeroCells, hzs, ← Nat.add_mul]
    congr 1
    omega
theorem und_intZ : Tryz.prog.underlying 3 = some (.int .i64) := Tryz.underlying3
theorem ins_mid (raw : List Gw) (pos : Nat) (hpos : pos < raw.length) (hlen : raw.length ≤ 4096) (h1 : ∀ x ∈ raw, x.2.2.oneCell' = true) : InsP raw pos := by
  intro W lo hi v vb y hO hvb hne hy hlo
  obtain ⟨g, cap, junk, rfl, hg1, hg2, hblk, hj, hc, hm⟩ := hO.blk (by omega)
  have hvg : vb ≠ g := by omega
  have HY := Lib.hid (grw_one hy)
  have HB := Lib.hid (show W.heap[g]? = some (.cells (raw.flatMap grw ++ junk).toArray 37 (0, 0)) from hblk)
  have HV := Lib.hid hvb
  have hfl : (raw.flatMap grw).length = raw.length * 3 := flat_len grw_len raw
  have hft : ((raw.take pos).flatMap grw).length = pos * 3 := by rw [flat_len grw_len, List.length_take, Nat.min_eq_left (by omega)]
  have hfd : ((raw.drop pos).flatMap grw).length = (raw.length - pos) * 3 := by rw [flat_len grw_len, List.length_drop]
  have hsp : raw.flatMap grw = (raw.take pos).flatMap grw ++ (raw.drop pos).flatMap grw := by rw [← List.flatMap_append, List.take_append_drop]
  have HFL := Lib.hid hfl
  have HONE := Lib.hid (show ∀ u ∈ (raw.drop pos).flatMap grw, u.oneCell' = true from fun u hu => by
    obtain ⟨x, hx, hu⟩ := List.mem_flatMap.1 hu
    exact grw_one (h1 x (List.mem_of_mem_drop hx)) u hu)
  have hnp0 : ((pos : Int) == (raw.length : Int)) = false := by simp; omega
  obtain ⟨A, hA⟩ : ∃ A, A = (raw.take pos).flatMap grw := ⟨_, rfl⟩
  obtain ⟨B, hBB⟩ : ∃ B, B = (raw.drop pos).flatMap grw := ⟨_, rfl⟩
  rw [← hA, ← hBB] at hsp
  rw [← hA] at hft
  rw [← hBB] at hfd HONE
  have HB : Hid (W.heap[g]? = some (.cells (A ++ B ++ junk).toArray 37 (0, 0))) := Lib.hid (by rw [← hsp]; exact HB.out)
  have HA := Lib.hid hA; have HBB2 := Lib.hid hBB; have HLA := Lib.hid hft; have HLB := Lib.hid hfd
  clear hO hblk hvb hsp hfl hft hfd h1 hy hA hBB
  unfold maxLen at hm
  by_cases hroom : raw.length + 1 ≤ cap
  · have hov : ∀ lb cb, (callFunc 126 #[.slice (some ⟨vb, 0, none⟩) 1 1, .slice (some ⟨g, (pos + 1) * 3, none⟩) lb cb]).run Tryz.prog W = .ok (.value (.bool false)) W := fun lb cb =>
      over_grp W vb g _ lb cb 1 1 _ _ _ _ hvg HV.out HB.out (by rw [List.size_toArray, List.length_append, List.length_append, HLA.out, HLB.out]; omega)
    go_enter Tryz.func113, Tryz.ntmps113
    go_wp2_with (simp only [hov])
    clear hov
    have hw1 : IntKind.i64.wrap ((pos : Int) + 1) = ((pos + 1 : Nat) : Int) := by rw [IntKind.wrap_i64]; omega
    have hb2 : ¬ (cap = pos + 1) := by omega
    have hb3 : ((pos + 1 : Nat) : Int) ≤ (raw.length : Int) + 1 := by omega
    have hb4 : ¬ (cap = pos) := by omega
    have hb5 : (0 : Int) ≤ ((pos + 1 : Nat) : Int) := by omega
    have hb6 : (pos : Int) ≤ (raw.length : Int) + 1 := by omega
    have hb7 : (0 : Int) ≤ (pos : Int) + 1 := by omega
    have hb8 : pos ≤ raw.length := by omega
    refine wp_still_tail 8 (by kernel_rfl) (by kernel_rfl) fun ws hks hhs => ?_
    simp only [List.take_succ_cons, List.take_zero, List.drop_succ_cons, List.drop_zero]
    have HB1 := Lib.hid (hks.block HB.out)
    have HV1 := Lib.hid (hks.block HV.out)
    have HK1 := Lib.hid hks
    clear hks hhs
    iterate 8 still_step
    refine wpStill_nil ?_
    refine wpList_copy_rec rfl _ _ rfl ty_grp _ _ _ _ _ _ _ _ rfl rfl _ _ HB1.out (raw.length - pos) (by simp only [Nat.min_def]; split <;> omega) B HLB.out (by have h := cells_mid HB1.out; rw [HLA.out] at h; exact h) (by rw [List.length_append, List.length_append, HLA.out, HLB.out]; omega) HONE.out ?_
    intro w1 hw1
    have hb1 : But (fun k => k = g) ws w1 := But.wrote hw1 rfl
    have HV2 := Lib.hid (hb1.blk (k := vb) (by show ¬ vb = g; exact hvg) HV1.out)
    have HW1 := Lib.hid hw1
    have HB2 := Lib.hid (((But.kept HK1.out : But (fun k => k = g) W ws)).trans hb1)
    clear hw1 hb1
    go_wp2_with (refine stop_at (o := ⟨some 82, _, _, _, _, _⟩) ?_)
    refine Stop.mk ?_
    refine wpList_copy_rec rfl _ _ rfl ty_grp _ _ _ _ _ _ _ _ rfl rfl _ _ HW1.out.blk 1 (by simp only [Nat.min_def]; split <;> omega) (grw y) rfl (Cells.of_block HV2.out) (by simp only [List.length_append, List.length_take, List.length_drop, HLA.out, HLB.out, grw_len]; omega) HY.out ?_
    intro w2 hw2
    have hb2 : But (fun k => k = g) W w2 := HB2.out.trans (But.wrote hw2 rfl)
    have hlt : g < w2.heap.size := (Array.getElem?_eq_some_iff.1 hw2.blk).1
    have hcs := hw2.blk
    rw [show pos * 3 = A.length from HLA.out.symm, show (pos + 1) * 3 = A.length + 3 by rw [HLA.out]; omega, ins_cells A B junk (grw y) (grw_len y) (by omega)] at hcs
    have HCS := Lib.hid hcs
    have HBB := Lib.hid hb2
    have HLT := Lib.hid hlt
    clear hw2 hb2 hlt hcs
    go_wp2
    go_ret
    have hL : (raw.take pos ++ y :: raw.drop pos).length = raw.length + 1 := by simp; omega
    have hrb : RBlk grw w2 g 37 (raw.take pos ++ y :: raw.drop pos) (junk.drop 3) := by
      show w2.heap[g]? = some (.cells ((raw.take pos ++ y :: raw.drop pos).flatMap grw ++ junk.drop 3).toArray _ (0, 0))
      rw [List.flatMap_append, List.flatMap_cons, ← HA.out, ← HBB2.out, ← List.append_assoc]
      exact HCS.out
    refine ⟨_, rfl, ?_, HBB.out.mono (fun k hk => by omega)⟩
    have hO := Own.of_blk (lo := lo) (hi := w2.heap.size) (cap := cap) grw_len hrb hg1 HLT.out (by rw [hL, List.length_drop]; omega) (by rw [hL]; exact hroom) (by unfold maxLen; exact hm)
    rw [hL] at hO
    exact hO
  · have hcn : cap ≤ raw.length := by omega
    have hcl : decide ((cap : Int) < (raw.length : Int) + 1) = true := by simp; omega
    obtain ⟨q, hq⟩ : ∃ q, q = raw.length + 1 - pos := ⟨_, rfl⟩
    have hq1 : (raw.length : Int) + 1 - (pos : Int) = (q : Int) := by omega
    have hq2 : pos + q = raw.length + 1 := by omega
    have HQ2 := Lib.hid hq2
    clear hq
    go_enter Tryz.func113, Tryz.ntmps113
    clear hq2
    go_wp2_with (refine stop_at (o := ⟨some 40, _, _, _, _, _⟩) ?_)
    refine Stop.mk ?_
    refine wpList_grow_zeros rfl _ _ rfl ty_grp und_intZ _ _ _ _ rfl q rfl A HLA.out (by have h := cells_mid (A := []) (B := A) (C := B ++ junk) (by have := HB.out; simpa [List.append_assoc] using this); exact h) (by have := HQ2.out; omega) (by have := HQ2.out; omega) (by have := HQ2.out; omega) (by have := HQ2.out; simp only [maxLen]; omega) ?_
    rw [HQ2.out]
    intro w1 c Z hz hZl hc1 hc2 hk1 hs1
    obtain ⟨G, hG⟩ : ∃ G, G = W.heap.size := ⟨_, rfl⟩
    rw [← hG] at hz hs1 ⊢
    have HG := Lib.hid hG
    have hgG : g < G := by have := (Array.getElem?_eq_some_iff.1 HB.out).1; omega
    have hvG : vb < G := by have := (Array.getElem?_eq_some_iff.1 HV.out).1; omega
    have HB1 := Lib.hid (hk1.block HB.out); have HV1 := Lib.hid (hk1.block HV.out); have HK1 := Lib.hid hk1
    unfold maxLen at hc2
    clear hk1 hG
    go_wp2_with (refine stop_at (o := ⟨some 45, _, _, _, _, _⟩) ?_)
    refine Stop.mk ?_
    refine wpList_copy_rec rfl _ _ rfl ty_grp _ _ _ _ _ _ _ _ rfl rfl _ _ hz.out 1 (by simp only [Nat.min_def]; split <;> omega) (grw y) rfl (Cells.of_block HV1.out) (by simp only [List.length_append, HLA.out, grw_len]; omega) HY.out ?_
    intro w2 hw2
    have hb2 : But (fun k => k = G) w1 w2 := But.wrote hw2 rfl
    have HB2 := Lib.hid (hb2.blk (k := g) (by show ¬ g = G; omega) HB1.out)
    have HW2 := Lib.hid hw2
    have HBT2 := Lib.hid hb2
    clear hw2 hb2 hz
    go_upto_region 11 with fail
    have hw1 : IntKind.i64.wrap ((pos : Int) + 1) = ((pos + 1 : Nat) : Int) := by rw [IntKind.wrap_i64]; omega
    have hb2 : ¬ (c = pos + 1) := by omega
    have hb4 : ¬ (cap = pos) := by omega
    have hb6 : (pos : Int) ≤ (raw.length : Int) + 1 := by omega
    have hb7 : (0 : Int) ≤ (pos : Int) + 1 := by omega
    have hb8 : pos ≤ raw.length := by omega
    refine wp_still_tail 8 (by kernel_rfl) (by kernel_rfl) fun ws hks hhs => ?_
    simp only [List.take_succ_cons, List.take_zero, List.drop_succ_cons, List.drop_zero]
    have HB3 := Lib.hid (hks.block HB2.out)
    have HG3 := Lib.hid (hks.block HW2.out.blk)
    have HK3 := Lib.hid hks
    clear hks hhs
    iterate 8 still_step
    refine wpStill_nil ?_
    refine wpList_copy_rec rfl _ _ rfl ty_grp _ _ _ _ _ _ _ _ rfl rfl _ _ HG3.out (raw.length - pos) (by simp only [Nat.min_def]; split <;> omega) B HLB.out (by have h := cells_mid HB3.out; rw [HLA.out] at h; exact h) (by simp only [List.length_append, List.length_take, List.length_drop, HLA.out, HLB.out, grw_len]; omega) HONE.out ?_
    intro w3 hw3
    have hb3 : But (fun k => k = G) W w3 := (((But.kept HK1.out : But (fun k => k = G) W w1).trans HBT2.out).keep HK3.out).trans (But.wrote hw3 rfl)
    have hlt : G < w3.heap.size := (Array.getElem?_eq_some_iff.1 hw3.blk).1
    have hcs := hw3.blk
    rw [show pos * 3 = A.length from HLA.out.symm, show (pos + 1) * 3 = A.length + 3 by rw [HLA.out]; omega, new_cells A B Z (grw y) (grw_len y) (by rw [HLB.out]; omega)] at hcs
    have HCS := Lib.hid hcs
    have HK4 : Hid (Kept W w3) := Lib.hid (But.to_kept (Kept.refl W) hb3 (fun i hi => by have := HG.out; omega))
    have HLT := Lib.hid hlt
    have HZL := Lib.hid hZl
    clear hw3 hb3 hlt hcs hZl
    go_wp2
    go_ret
    have hL : (raw.take pos ++ y :: raw.drop pos).length = raw.length + 1 := by simp; omega
    have hrb : RBlk grw w3 G 37 (raw.take pos ++ y :: raw.drop pos) (Z.drop (3 + B.length)) := by
      show w3.heap[G]? = some (.cells ((raw.take pos ++ y :: raw.drop pos).flatMap grw ++ Z.drop (3 + B.length)).toArray _ (0, 0))
      rw [List.flatMap_append, List.flatMap_cons, ← HA.out, ← HBB2.out, ← List.append_assoc]
      exact HCS.out
    refine ⟨_, rfl, ?_, But.kept HK4.out⟩
    have hO := Own.of_blk (lo := lo) (hi := w3.heap.size) (cap := c) grw_len hrb (by have := HG.out; omega) HLT.out (by rw [hL, List.length_drop, HZL.out, HLB.out]; omega) (by rw [hL]; exact hc1) (by unfold maxLen; exact hc2)
    rw [hL] at hO
    exact hO
end Go.Proofs.YtiijfocdjcjlaaaGreat
