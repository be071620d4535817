/- PaJ: several texts in one: Jon Prt Par. -/
import Derived.Test.YtpeclkhppgabfaaDoorPaB
import Derived.Test.YtpeclkhppgabfaaDoorBfl
import Derived.Lib.BufferOld
import Derived.Test.YtpeclkhppgabfaaDoorPaI
/- record.Join walked. -/
namespace Go.Proofs.YtpeclkhppgabfaaDoor
open Go.RowKit
set_option linter.unusedVariables false
set_option linter.unusedSimpArgs false

theorem tag_fields : (Tryd.prog.fieldsOf 74).toList.map (fun f => (f.name, f.type, f.offset)) = [("Gen", 3, 0), ("Num", 3, 1), ("Part", 3, 2), ("Parts", 3, 3), ("Len", 3, 4)] := by kernel_rfl
theorem eqg_tag : Tryd.prog.eqGuardType Tryd.prog.depth 74 = false := by kernel_rfl
theorem run_equal_tag (w : World) (a b : Tag) : (Op.equalIn 10000 74 a.val b.val).run Tryd.prog w = .ok (decide (a = b)) w := by
  have hr := run_equalIn_struct (P := Tryd.prog) w 9999 74 #[.int .i64 a.gen, .int .i64 a.num, .int .i64 a.part, .int .i64 a.parts, .int .i64 a.len] #[.int .i64 b.gen, .int .i64 b.num, .int .i64 b.part, .int .i64 b.parts, .int .i64 b.len] (by kernel_rfl) (by kernel_rfl)
  unfold Tag.val
  rw [hr]
  have hf := tag_fields
  generalize (Tryd.prog.fieldsOf 74).toList = fs at hf ⊢
  have hl := congrArg List.length hf
  simp only [List.length_map, List.length_cons, List.length_nil] at hl
  match fs, hl, hf with
  | [f0, f1, f2, f3, f4], _, hf =>
    simp only [List.map_cons, List.map_nil, List.cons.injEq, Prod.mk.injEq, and_true] at hf
    obtain ⟨⟨a1, a2, a3⟩, ⟨b1, b2, b3⟩, ⟨c1, c2, c3⟩, ⟨d1, d2, d3⟩, e1, e2, e3⟩ := hf
    have hi : Tryd.prog.underlying 3 = some (.int .i64) := Tryd.underlying3
    have pa : ∀ (x0 x1 x2 x3 x4 : Int) (ww : World), (part 3 #[.int .i64 x0, .int .i64 x1, .int .i64 x2, .int .i64 x3, .int .i64 x4] 0).run Tryd.prog ww = .ok (.int .i64 x0) ww ∧ (part 3 #[.int .i64 x0, .int .i64 x1, .int .i64 x2, .int .i64 x3, .int .i64 x4] 1).run Tryd.prog ww = .ok (.int .i64 x1) ww ∧ (part 3 #[.int .i64 x0, .int .i64 x1, .int .i64 x2, .int .i64 x3, .int .i64 x4] 2).run Tryd.prog ww = .ok (.int .i64 x2) ww ∧ (part 3 #[.int .i64 x0, .int .i64 x1, .int .i64 x2, .int .i64 x3, .int .i64 x4] 3).run Tryd.prog ww = .ok (.int .i64 x3) ww ∧ (part 3 #[.int .i64 x0, .int .i64 x1, .int .i64 x2, .int .i64 x3, .int .i64 x4] 4).run Tryd.prog ww = .ok (.int .i64 x4) ww := fun x0 x1 x2 x3 x4 ww => by simp [part, isAgg, run_underlying hi]
    have p0 := fun x0 x1 x2 x3 x4 ww => (pa x0 x1 x2 x3 x4 ww).1
    have p1 := fun x0 x1 x2 x3 x4 ww => (pa x0 x1 x2 x3 x4 ww).2.1
    have p2 := fun x0 x1 x2 x3 x4 ww => (pa x0 x1 x2 x3 x4 ww).2.2.1
    have p3 := fun x0 x1 x2 x3 x4 ww => (pa x0 x1 x2 x3 x4 ww).2.2.2.1
    have p4 := fun x0 x1 x2 x3 x4 ww => (pa x0 x1 x2 x3 x4 ww).2.2.2.2
    have pe : ∀ (x y : Int) (ww : World), (Op.equalIn 9999 3 (.int .i64 x) (.int .i64 y)).run Tryd.prog ww = .ok (x == y) ww := fun x y ww => run_equalIn_int ww 9998 3 .i64 .i64 x y hi
    simp only [Op.eqFields, a1, a2, a3, b1, b2, b3, c1, c2, c3, d1, d2, d3, e1, e2, e3, Sem.run_bind, p0, p1, p2, p3, p4, pe, Result.andThen_ok, Sem.run_ite, Sem.run_pure]
    obtain ⟨x0, x1, x2, x3, x4⟩ := a
    obtain ⟨y0, y1, y2, y3, y4⟩ := b
    simp only [Tag.mk.injEq]
    by_cases k0 : x0 = y0 <;> by_cases k1 : x1 = y1 <;> by_cases k2 : x2 = y2 <;> by_cases k3 : x3 = y3 <;> by_cases k4 : x4 = y4 <;> simp [k0, k1, k2, k3, k4]
theorem exec_neq_tag {W : World} {a : Act} {o : Oper} (x y : Operand) {t' : TypeId} (ho : o.op = .binOp .neq 74 x y t') (s t : Tag) (hx : a.eval x = s.val) (hy : a.eval y = t.val) :
    (execOp a.eval o).run Tryd.prog W = .ok (.value (.bool (!decide (s = t)))) W := by
  have heq := run_equal_tag W s t
  unfold Tag.val at hx hy heq
  unfold execOp
  simp only [ho, hx, hy, Sem.run_bind]
  rw [run_eqGuard_agg _ _ _ _ _ _ _ eqg_tag]
  simp only [Result.andThen_ok]
  rw [run_neq_struct]
  simp only [Op.equal, Op.maxDepth, heq, Result.andThen_ok, Sem.run_pure, Sem.run_bind]
theorem exec_eq_tag {W : World} {a : Act} {o : Oper} (x y : Operand) {t' : TypeId} (ho : o.op = .binOp .eql 74 x y t') (s t : Tag) (hx : a.eval x = s.val) (hy : a.eval y = t.val) :
    (execOp a.eval o).run Tryd.prog W = .ok (.value (.bool (decide (s = t)))) W := by
  have heq := run_equal_tag W s t
  unfold Tag.val at hx hy heq
  unfold execOp
  simp only [ho, hx, hy, Sem.run_bind]
  rw [run_eqGuard_agg _ _ _ _ _ _ _ eqg_tag]
  simp only [Result.andThen_ok]
  rw [run_eql_struct]
  simp only [Op.equal, Op.maxDepth, heq, Result.andThen_ok, Sem.run_pure, Sem.run_bind]
theorem wpList_neq_tag {ops : Array Oper} {rest : List Oper} {o : Oper} {a : Act} {w : World} {Q : Exit → Act → World → Prop} (hgd : Region.wanted o (yielded ops a.tmps) = true) (x y : Operand) {t' : TypeId} (ho : o.op = .binOp .neq 74 x y t') (s t : Tag) (hx : a.eval x = s.val) (hy : a.eval y = t.val) (b : Bool) (hb : (!decide (s = t)) = b)
    (h : wpList Tryd.prog ops Q rest (a.put o.dst (.bool b)) w) : wpList Tryd.prog ops Q (o :: rest) a w := by
  subst hb
  refine BigFrame.wpList_want hgd fun K hK => ?_
  unfold Oper.wp
  rw [exec_neq_tag x y ho s t hx hy]
  exact hK _ _ h
theorem wpList_eq_tag {ops : Array Oper} {rest : List Oper} {o : Oper} {a : Act} {w : World} {Q : Exit → Act → World → Prop} (hgd : Region.wanted o (yielded ops a.tmps) = true) (x y : Operand) {t' : TypeId} (ho : o.op = .binOp .eql 74 x y t') (s t : Tag) (hx : a.eval x = s.val) (hy : a.eval y = t.val) (b : Bool) (hb : decide (s = t) = b)
    (h : wpList Tryd.prog ops Q rest (a.put o.dst (.bool b)) w) : wpList Tryd.prog ops Q (o :: rest) a w := by
  subst hb
  refine BigFrame.wpList_want hgd fun K hK => ?_
  unfold Oper.wp
  rw [exec_eq_tag x y ho s t hx hy]
  exact hK _ _ h
theorem zero_tag : ∀ w, (zeroValue 74).run Tryd.prog w = .ok (.agg tag0.vals.toArray) w := fun w => by kernel_rfl
theorem tag_one (t : Tag) : ∀ u ∈ t.vals, u.oneCell' = true := by
  intro u hu
  simp only [Tag.vals, List.mem_cons, List.mem_nil_iff, or_false] at hu
  rcases hu with rfl | rfl | rfl | rfl | rfl <;> rfl
/-- a slice of sectors that is read -/
def SecSl (w : World) (v : Value) (L : List (List Int)) : Prop := ∃ ax c, v = .slice ax L.length c ∧ L.length ≤ c ∧ ∀ k (hk : k < L.length), ∃ b off, ax = some ⟨b, off, none⟩ ∧ Cells w b (off + k * 64) (u8s (L.getD k [])) ∧ (L.getD k []).length = 64 ∧ ∀ x ∈ L.getD k [], IsByte x
theorem SecSl.kept {w w' : World} {v : Value} {L : List (List Int)} (h : SecSl w v L) (hk : Kept w w') : SecSl w' v L := by
  obtain ⟨ax, c, e, hc, h⟩ := h
  refine ⟨ax, c, e, hc, fun k hk' => ?_⟩
  obtain ⟨b, off, e1, h1, h2⟩ := h k hk'
  exact ⟨b, off, e1, h1.kept hk, h2⟩
def joinedTo (L : List (List Int)) (k : Nat) : List Int := (L.take k).flatMap fun s => (s.drop 11).take (s.getD 10 0).toNat
theorem joinedTo_succ (L : List (List Int)) {k : Nat} (hk : k < L.length) : joinedTo L (k + 1) = joinedTo L k ++ ((L.getD k []).drop 11).take ((L.getD k []).getD 10 0).toNat := by
  unfold joinedTo
  rw [List.take_add_one, List.flatMap_append]
  simp [List.getD_eq_getElem?_getD, List.getElem?_eq_getElem hk]
theorem joinedTo_len {L : List (List Int)} (h : ∀ k, k < L.length → (L.getD k []).length = 64) : ∀ k, k ≤ L.length → (joinedTo L k).length ≤ k * 64
  | 0, _ => by simp [joinedTo]
  | k + 1, hk => by
    rw [joinedTo_succ L hk, List.length_append, List.length_take, List.length_drop, h k hk]
    have := joinedTo_len h k (by omega)
    omega
theorem join_no {gen num : Int} {L : List (List Int)} {i : Nat} (hi : i < L.length) (h : isPart (tagOf (L.getD i [])) gen num i L.length = false) : joinB gen num L = none := by
  unfold joinB
  rw [if_neg (by omega), if_neg]
  intro ha
  rw [List.all_eq_true] at ha
  have := ha i (by simpa using hi)
  rw [h] at this
  cases this
theorem join_yes {gen num : Int} {L : List (List Int)} (h0 : L.length ≠ 0) (h : ∀ i, i < L.length → isPart (tagOf (L.getD i [])) gen num i L.length = true) : joinB gen num L = some (joinedTo L L.length) := by
  unfold joinB
  rw [if_neg h0, if_pos]
  · unfold joinedTo; rw [List.take_length]
  · rw [List.all_eq_true]
    intro i hi
    exact h i (by simpa using hi)
theorem buf_write (B b : Nat) (bs cs : List Value) (a : Addr) (n c : Nat) (w : World) (h : Lib.IsBuffer 124 5 B b bs w) (hBw : B ≤ w.heap.size) (h1 : ∀ v ∈ bs, v.oneCell' = true)
    (hn : cs.length = n) (hab : a.block ≠ b) (hsrc : ∀ j v, cs[j]? = some v → w.cell? (a.add j) = some v) (h1c : ∀ v ∈ cs, v.oneCell' = true) (hlim : bs.length + n ≤ 140737488355328) :
    Calls Tryd.prog 66 #[.pointer (some ⟨b, 0, none⟩), .slice (some a) n c] w fun e w' => e = .returned (.tuple #[.int .i64 n, .nilIface]) ∧ Lib.IsBuffer 124 5 B b (bs ++ cs) w' ∧ RowKit.Below B w w' ∧ Lib.OthersKept 5 (some b) w w' := Any.Buffer_Write_any Tryd.bwL B b bs cs a n c w h hBw h1 hn hab hsrc h1c hlim
theorem buf_bytes (B b : Nat) (bs : List Value) (w : World) (h : Lib.IsBuffer 124 5 B b bs w) :
    Calls Tryd.prog 67 #[.pointer (some ⟨b, 0, none⟩)] w fun e w' => ∃ v, e = .returned v ∧ w'.ownsRow B 5 1 v bs.length bs ∧ ∃ n, w' = w.drewN n := Any.Buffer_Bytes Tryd.bbL B b bs w h
theorem tagOf_some {s : List Int} {t : Tag} (h : tagOf s = some t) (hs : s.length = 64 ∧ ∀ x ∈ s, IsByte x) : ∃ m : Nat, t.len = (m : Int) ∧ m ≤ 53 ∧ (s.getD 10 0).toNat = m := by
  unfold tagOf at h
  split at h
  · cases h
  · rename_i hb
    injection h with h
    have hl : t.len = s.getD 10 0 := by rw [← h]; rfl
    have h0 : IsByte (s.getD 10 0) := by
      rw [List.getD_eq_getElem?_getD, List.getElem?_eq_getElem (by omega)]
      exact hs.2 _ (List.getElem_mem _)
    rw [h] at hb
    simp only [tagBad, Bool.or_eq_true, decide_eq_true_eq, not_or] at hb
    have h53 := hb.1.1.1.2
    obtain ⟨m, hm⟩ := Int.eq_ofNat_of_zero_le h0.1
    exact ⟨m, by rw [hl, hm], by omega, by rw [hm]; rfl⟩
theorem isPart_no {gen num : Int} {i n : Nat} {t : Tag} (h : t ≠ ⟨gen, num, i, n, t.len⟩) : isPart (some t) gen num i n = false := by simpa [isPart] using h
theorem isPart_yes {gen num : Int} {i n : Nat} {t : Tag} (h : t = ⟨gen, num, i, n, t.len⟩) : isPart (some t) gen num i n = true := by simpa [isPart] using h
theorem sec_slice (b m : Nat) (hm : m ≤ 53) (w : World) : (Instr.sliceAt 39 (.pointer (some ⟨b, 0, none⟩)) (some (.int .i64 11)) (some (.int .i64 (11 + (m : Int)))) none).run Tryd.prog w = .ok (.slice (some ⟨b, 11, none⟩) m 53) w := by
  have ht : Tryd.prog.underlying 39 = some (.array 64 5) := by kernel_rfl
  have hi : (Tryd.prog.info? 5).map (·.size) = some 1 := by kernel_rfl
  cases hj : Tryd.prog.info? 5 with
  | none => simp [hj] at hi
  | some i =>
    have h1 : i.size = 1 := by simpa [hj] using hi
    have h4 : (Instr.sliceBound (.int .i64 (11 + (m : Int))) 64 .sliceAlen).run Tryd.prog w = .ok (11 + m) w := by
      simp only [Instr.sliceBound, asIntOf, Sem.run_bind, Sem.run_pure, Result.andThen_ok]
      rw [if_pos ⟨by omega, by omega⟩]
      have : (11 + (m : Int)).toNat = 11 + m := by omega
      rw [this]; rfl
    have h5 : (Instr.sliceBound (.int .i64 11) (11 + m) .sliceB).run Tryd.prog w = .ok 11 w := by
      simp only [Instr.sliceBound, asIntOf, Sem.run_bind, Sem.run_pure, Result.andThen_ok]
      rw [if_pos ⟨by omega, by omega⟩]; rfl
    simp [Instr.sliceAt, Instr.sureAddr, run_underlying ht, Instr.sliceBounds, h4, h5, sizeOf, typeInfo, hj, h1, Addr.add_lit]
theorem sl_none (v : Value) (w : World) (h : v = .slice none 0 0) (e : TypeId) : w.ownsRow w.heap.size e 1 v 0 [] := by rw [h]; exact World.ownsRow_nil _ _ _ _
theorem own_less {w : World} {B B' e s : Nat} {v : Value} {n : Nat} {xs : List Value} (h : w.ownsRow B e s v n xs) (hb : B' ≤ B) : w.ownsRow B' e s v n xs := ownsRow_base h hb
set_option maxHeartbeats 2000000 in
set_option maxRecDepth 100000 in
theorem record_Join (gen num : Int) (v : Value) (L : List (List Int)) (w : World) (hs : SecSl w v L) (hlen : L.length ≤ 1000000) :
    Calls Tryd.prog 55 #[.int .i64 gen, .int .i64 num, v] w fun e w' => ∃ sv, e = .returned (.tuple #[sv, .bool (joinB gen num L).isSome]) ∧ w'.ownsRow w.heap.size 5 1 sv ((joinB gen num L).getD []).length (u8s ((joinB gen num L).getD [])) ∧ Kept w w' := by
  obtain ⟨ax, c, rfl, hcap, hcl⟩ := hs
  have HCL := Lib.hid hcl; clear hcl
  obtain ⟨res, hres⟩ : ∃ res, joinB gen num L = res := ⟨_, rfl⟩
  have HRES := Lib.hid hres
  rw [hres]
  clear hres
  have HI0 := Lib.hid (Lib.fresh_isBuffer 124 5 w)
  have HK0 := Lib.hid ((Kept.refl w).alloc (.cells #[.slice none 0 0, .int .i64 0, .int .i8 0] 124))
  have HL := Lib.hid hcap; clear hcap
  go_enter Tryd.func55, Tryd.ntmps55
  go_wp2
  go_loopw [15] (fun i wr => ∃ k : Nat, k ≤ L.length ∧ i = .int .i64 k ∧ Hid (Lib.IsBuffer 124 5 w.heap.size w.heap.size (u8s (joinedTo L k)) wr) ∧ Hid (Kept w wr) ∧ Hid (∀ j, j < k → isPart (tagOf (L.getD j [])) gen num j L.length = true)) (fun i _ => L.length - (intOf i).toNat)
  case atStart => exact ⟨0, Nat.zero_le _, rfl, HI0, HK0, Lib.hid fun j h => absurd h (Nat.not_lt_zero _)⟩
  case round =>
    obtain ⟨k, hk, rfl, HB, HK, HO⟩ := hrel
    by_cases hlt : k < L.length
    · obtain ⟨b, off, rfl, hc, h64, hby⟩ := HCL.out k hlt
      have HSUC := Lib.hid (joinedTo_succ L hlt)
      have HNO := Lib.hid (fun h => join_no (gen := gen) (num := num) hlt h)
      have HJL := Lib.hid (joinedTo_len (fun k hk => (HCL.out k hk).elim fun _ h => h.elim fun _ h => h.2.2.1) k hk)
      obtain ⟨s, hse⟩ : ∃ s, L.getD k [] = s := ⟨_, rfl⟩
      rw [hse] at HSUC HNO hc h64 hby
      have HSE := Lib.hid hse; clear hse
      have HC := Lib.hid (hc.kept HK.out)
      have HS := Lib.hid (And.intro h64 hby)
      clear hc h64 hby HI0 HK0
      go_wp2_with (refine stop_at (o := ⟨some 19, _, _, _, _, _⟩) ?_)
      refine Stop.mk ?_
      refine wpList_load_agg rfl _ rfl ty_sec b (off + k * 64) rfl (u8s s) HC.out (by rw [u8s_length, HS.out.1]) ?_
      go_wp2_with (refine stop_at (o := ⟨some 10, _, _, _, _, _⟩) ?_)
      refine Stop.mk ?_
      refine wpList_alloc_abs rfl 39 rfl (u8s zeroB) zero_sec ?_
      intro w1 hz1 hs1 hn1 hk1
      have HXB := Lib.hid HB.out.lt
      have HXW := Lib.hid (Nat.le_refl wr.heap.size)
      generalize hX : wr.heap.size = X at hz1 hs1 hn1 HXB ⊢
      rw [hX] at HXW
      have HXE := Lib.hid (Nat.le_of_eq hX)
      clear hX hs1 hn1
      go_wp2_with (refine stop_at (o := ⟨none, .store _ _ _, _, _, _, _⟩) ?_)
      refine Stop.mk ?_
      refine wpList_store_agg rfl _ _ rfl ty_sec X 0 rfl (u8s s) rfl (by rw [u8s_length, HS.out.1]) (u8s_one _) (u8s zeroB) _ hz1.out (by simp [u8s_length, zeroB_length]) ?_
      intro w2 hw2
      replace hw2 := hw2.all (by rw [u8s_length, u8s_length, zeroB_length, HS.out.1])
      have HX2 := Lib.hid hw2.blk
      have HK2 := Lib.hid (hw2.kept hk1 HXE.out)
      clear hw2 hk1 hz1
      go_wp2_with (refine stop_at (o := ⟨some 21, _, _, _, _, _⟩) ?_)
      refine Stop.mk ?_
      refine wpList_load_agg rfl _ rfl ty_sec X 0 rfl (u8s s) (by simpa using Cells.of_block HX2.out) (by rw [u8s_length, HS.out.1]) ?_
      rcases ht : tagOf s with _ | t
      · have hc := record_TagOf s w2 HS.out.2 HS.out.1
        rw [show TagRes s = .tuple #[tag0.val, .bool false] by unfold TagRes; rw [ht]; rfl] at hc
        have hj := HNO.out (by rw [ht]; rfl)
        have HJ := Lib.hid (show res = none by rw [← HRES.out, hj])
        clear ht hj
        go_wp2_with fail
        refine Calls.mono hc ?_
        rintro e w3 ⟨rfl, hk3⟩
        clear hc
        go_wp2_with (refine stop_at (o := ⟨some 11, _, _, _, _, _⟩) ?_)
        refine Stop.mk ?_
        refine wpList_alloc_abs rfl 74 rfl tag0.vals zero_tag ?_
        intro w4 hz4 hs4 hn4 hk4
        go_wp2_with (refine stop_at (o := ⟨none, .store _ _ _, _, _, _, _⟩) ?_)
        refine Stop.mk ?_
        refine wpList_store_agg rfl _ _ rfl ty_tag w3.heap.size 0 rfl tag0.vals rfl rfl (tag_one _) tag0.vals _ hz4.out (by decide) ?_
        intro w5 hw5
        replace hw5 := hw5.all rfl
        have HK5 := Lib.hid (HK.out.trans (HK2.out.trans (hk3.trans (hw5.kept hk4 (Nat.le_refl _)))))
        clear hw5 hz4 hs4 hn4 hk4 hk3
        go_wp2
        go_ret2
        exact ⟨_, by rw [HJ.out]; rfl, by rw [HJ.out]; exact World.ownsRow_nil _ _ _ _, HK5.out⟩
      · obtain ⟨m, hm, hm53, hm10⟩ := tagOf_some ht HS.out
        have hc := record_TagOf s w2 HS.out.2 HS.out.1
        rw [show TagRes s = .tuple #[t.val, .bool true] by unfold TagRes; rw [ht]; rfl] at hc
        have HT := Lib.hid ht
        have HM := Lib.hid (And.intro hm hm10)
        clear ht hm hm10
        go_wp2_with fail
        refine Calls.mono hc ?_
        rintro e w3 ⟨rfl, hk3⟩
        clear hc
        have HX3 := Lib.hid (hk3.block HX2.out)
        go_wp2_with (refine stop_at (o := ⟨some 11, _, _, _, _, _⟩) ?_)
        refine Stop.mk ?_
        refine wpList_alloc_abs rfl 74 rfl tag0.vals zero_tag ?_
        intro w4 hz4 hs4 hn4 hk4
        have HX4 := Lib.hid (hk4.block HX3.out)
        have HYX := Lib.hid (Nat.lt_of_lt_of_le (Array.getElem?_eq_some_iff.1 HX2.out).1 hk3.size)
        have HK4 := Lib.hid (HK2.out.trans (hk3.trans hk4))
        have HYE := Lib.hid (Nat.le_trans HK2.out.size hk3.size)
        generalize hY : w3.heap.size = Y at hz4 HYX HYE ⊢
        clear hs4 hn4 hk4 HX2 HX3 HK2 hk3 hY
        go_wp2_with (refine stop_at (o := ⟨none, .store _ _ _, _, _, _, _⟩) ?_)
        refine Stop.mk ?_
        refine wpList_store_agg rfl _ _ rfl ty_tag Y 0 rfl t.vals rfl rfl (tag_one _) tag0.vals _ hz4.out (by decide) ?_
        intro w5 hw5
        replace hw5 := hw5.all rfl
        have HK5 := Lib.hid (hw5.kept HK4.out HYE.out)
        have HX5 := Lib.hid ((hw5.oth X (by have := HYX.out; omega)).trans HX4.out)
        have HY5 := Lib.hid hw5.cells
        have y4 : w5.cell? ⟨Y, 4, none⟩ = some (.int .i64 (m : Int)) := by
          have := hw5.cells.at 4 (show (4 : Nat) < 5 by decide)
          rw [show (0 : Nat) + 4 = 4 from rfl] at this
          rw [this, ← HM.out.1]; rfl
        clear hw5 hz4 HK4 HX4
        by_cases heq : t = ⟨gen, num, k, L.length, (m : Int)⟩
        · have HP := Lib.hid (show isPart (tagOf s) gen num k L.length = true by rw [HT.out]; exact isPart_yes (by rw [HM.out.1]; exact heq))
          have HNE := Lib.hid (show (!decide (t = (⟨gen, num, (k : Int), (L.length : Int), (m : Int)⟩ : Tag))) = false by simpa using heq)
          clear heq
          go_wp2_with (refine stop_at (o := ⟨some 28, _, _, _, _, _⟩) ?_)
          refine Stop.mk ?_
          refine wpList_load_aggW _ rfl ty_tag Y 0 rfl t.vals HY5.out rfl rfl ?_
          go_wp2_with (refine stop_at (o := ⟨some 37, _, _, _, _, _⟩) ?_)
          refine Stop.mk ?_
          refine wpList_neq_tag rfl _ _ rfl t ⟨gen, num, (k : Int), (L.length : Int), (m : Int)⟩ rfl rfl false HNE.out ?_
          have hsl := fun W => sec_slice X m hm53 W
          go_wp2_with fail
          have hcs : Cells w5 X 11 ((u8s s).drop 11) := by simpa using (by simpa using Cells.of_block HX5.out : Cells w5 X 0 (u8s s)).dropR 11
          have hlen : (u8s ((s.drop 11).take m)).length = m := by rw [u8s_length, List.length_take, List.length_drop, HS.out.1]; omega
          refine Calls.mono (buf_write w.heap.size w.heap.size (u8s (joinedTo L k)) (u8s ((s.drop 11).take m)) ⟨X, 11, none⟩ m 53 w5 (HB.out.old HK5.out) (by have := HK.out.size; have := HK5.out.size; omega) (u8s_one _) hlen (by have := HXB.out; show X ≠ w.heap.size; omega) (fun j v hj => hcs.add j v (by
            have e : u8s ((s.drop 11).take m) = (u8s (s.drop 11)).take m := by simp [u8s]
            rw [e, List.getElem?_take] at hj
            split at hj
            · rw [← u8s_dropR]; exact hj
            · cases hj)) (u8s_one _) (by rw [u8s_length]; have := HJL.out; omega)) ?_
          rintro e w6 ⟨rfl, hb6, hbel, -⟩
          have HB6 : Hid (Lib.IsBuffer 124 5 w.heap.size w.heap.size (u8s (joinedTo L (k + 1))) w6) := Lib.hid (by rw [HSUC.out, HM.out.2, u8s_append]; exact hb6)
          have HK6 : Hid (Kept w w6) := Lib.hid (Below.trans (HK.out.trans HK5.out) hbel)
          have HO6 : Hid (∀ j, j < k + 1 → isPart (tagOf (L.getD j [])) gen num j L.length = true) := Lib.hid fun j hj => by
            by_cases e : j = k
            · subst e; rw [HSE.out]; exact HP.out
            · exact HO.out j (by omega)
          clear hb6 hbel HB HK HO
          go_wp2
          go_roundw
          case rel => exact ⟨k + 1, hlt, by go_num, HB6, HK6, HO6⟩
          case measure => simp [intOf]; omega
        · have HJ := Lib.hid (show res = none by rw [← HRES.out, HNO.out (by rw [HT.out]; exact isPart_no (by rw [HM.out.1]; exact heq))])
          have HNE := Lib.hid (show (!decide (t = (⟨gen, num, (k : Int), (L.length : Int), (m : Int)⟩ : Tag))) = true by simpa using heq)
          clear heq
          go_wp2_with (refine stop_at (o := ⟨some 28, _, _, _, _, _⟩) ?_)
          refine Stop.mk ?_
          refine wpList_load_aggW _ rfl ty_tag Y 0 rfl t.vals HY5.out rfl rfl ?_
          go_wp2_with (refine stop_at (o := ⟨some 37, _, _, _, _, _⟩) ?_)
          refine Stop.mk ?_
          refine wpList_neq_tag rfl _ _ rfl t ⟨gen, num, (k : Int), (L.length : Int), (m : Int)⟩ rfl rfl true HNE.out ?_
          go_wp2
          go_ret2
          exact ⟨_, by rw [HJ.out]; rfl, by rw [HJ.out]; exact World.ownsRow_nil _ _ _ _, HK.out.trans HK5.out⟩
    · have hkn : k = L.length := by omega
      subst hkn
      clear hlt HI0 HK0
      by_cases h0 : L.length = 0
      · have HJ := Lib.hid (show res = none by rw [← HRES.out]; unfold joinB; rw [if_pos h0])
        have HN := Lib.hid h0
        have hz : ¬ ((0 : Int) < (L.length : Int)) := by omega
        have HD := Lib.hid (show decide (0 < L.length) = false by simp [h0])
        clear h0
        go_wp2_with fail
        refine Calls.mono (buf_bytes w.heap.size w.heap.size _ wr HB.out) ?_
        rintro e w2 ⟨v, rfl, hown, n, rfl⟩
        have HOWN := Lib.hid hown; clear hown
        go_wp2
        go_ret2
        refine ⟨v, by rw [HJ.out]; show Ending.returned (.tuple #[v, .bool (decide (0 < L.length))]) = _; rw [HD.out]; rfl, ?_, HK.out.drewN n⟩
        rw [HJ.out]
        have := HOWN.out
        rw [HN.out] at this
        exact this
      · have HJ := Lib.hid (show res = some (joinedTo L L.length) by rw [← HRES.out]; exact join_yes h0 HO.out)
        have hz : (0 : Int) < (L.length : Int) := by omega
        have HD := Lib.hid (show decide (0 < L.length) = true by simp; omega)
        clear h0
        go_wp2_with fail
        refine Calls.mono (buf_bytes w.heap.size w.heap.size _ wr HB.out) ?_
        rintro e w2 ⟨v, rfl, hown, n, rfl⟩
        have HOWN := Lib.hid hown; clear hown
        go_wp2
        go_ret2
        refine ⟨v, by rw [HJ.out]; show Ending.returned (.tuple #[v, .bool (decide (0 < L.length))]) = _; rw [HD.out]; rfl, ?_, HK.out.drewN n⟩
        rw [HJ.out]
        have := HOWN.out
        rw [u8s_length] at this
        exact this
end Go.Proofs.YtpeclkhppgabfaaDoor
/- check's parts in memory: a sector and what it says, side by side; rows of them. -/
namespace Go.Proofs.YtpeclkhppgabfaaDoor
open Go.RowKit
set_option linter.unusedVariables false
set_option linter.unusedSimpArgs false

def placesOf (P : Program) (t : TypeId) : Option (Array Value × List (Nat × Nat)) := match P.info? t, P.underlying t with
  | some it, some (.struct fields) => (match it.zero, fields.toList.mapM (fun f => (P.info? f.type).map fun i => (f.offset, i.size)) with
    | some z, some pl => some (z.cells, pl)
    | _, _ => none)
  | _, _ => none
theorem built_of {P : Program} {t : TypeId} {z : Array Value} {pl : List (Nat × Nat)} (h : placesOf P t = some (z, pl)) (parts : List (Nat × Value)) : P.built t parts = Instr.fill (pl.toArray[·]?) z parts := by
  unfold placesOf at h
  unfold Program.built
  split at h
  · rename_i it fields h1 h2
    rw [h1, h2]
    split at h
    · rename_i z' pl' h3 h4
      simp only [h3, h4]
      simp only [Option.some.injEq, Prod.mk.injEq] at h
      rw [h.1, h.2]
    · cases h
  · cases h
theorem fill_one {place : Nat → Option (Nat × Nat)} {cells : Array Value} {i off n : Nat} {v : Value} {rest : List (Nat × Value)} (hp : place i = some (off, n)) (hv : v.cells.size = n) (hf : off + n ≤ cells.size) :
    ∃ cells', Instr.fill place cells ((i, v) :: rest) = Instr.fill place cells' rest ∧ cells'.size = cells.size ∧ ∀ k, cells'[k]? = if off ≤ k ∧ k < off + n then v.cells[k - off]? else cells[k]? := by
  obtain ⟨h1, h2⟩ := Great.foldl_set off v.cells.toList 0 cells
  refine ⟨_, ?_, h1, fun k => ?_⟩
  · conv => lhs; rw [Instr.fill, hp]
    simp only []
    rw [if_neg (show ¬ ((decide (v.cells.size ≠ n) || decide (off + v.cells.size > cells.size)) = true) by simp; omega)]
    congr 1
    rw [← Array.foldl_toList, Array.toList_zipIdx]
  · rw [h2 k]
    simp only [Nat.add_zero, Array.length_toList, hv]
    by_cases e : off ≤ k ∧ k < off + n
    · rw [if_pos e, if_pos ⟨e.1, e.2, by omega⟩]; simp
    · rw [if_neg e, if_neg (fun h => e ⟨h.1, h.2.1⟩)]
theorem fill_two {place : Nat → Option (Nat × Nat)} {cells : Array Value} {n m : Nat} {xs ys : List Value} (h0 : place 0 = some (0, n)) (h1 : place 1 = some (n, m)) (hx : xs.length = n) (hy : ys.length = m) (hc : cells.size = n + m) :
    Instr.fill place cells [(0, .agg xs.toArray), (1, .agg ys.toArray)] = some (xs ++ ys).toArray := by
  obtain ⟨c1, e1, s1, k1⟩ := fill_one (cells := cells) (v := .agg xs.toArray) (rest := [(1, .agg ys.toArray)]) h0 (by simpa [Value.cells] using hx) (by omega)
  obtain ⟨c2, e2, s2, k2⟩ := fill_one (cells := c1) (v := .agg ys.toArray) (rest := []) h1 (by simpa [Value.cells] using hy) (by omega)
  rw [e1, e2]
  show some c2 = _
  congr 1
  refine Array.ext_getElem? fun k => ?_
  rw [k2 k, k1 k]
  simp only [Value.cells, List.getElem?_toArray, Nat.zero_add, Nat.sub_zero]
  rw [List.getElem?_append]
  by_cases a : k < xs.length
  · rw [if_pos a, if_neg (by omega), if_pos ⟨by omega, by omega⟩]
  · rw [if_neg a]
    by_cases b : k < n + m
    · rw [if_pos ⟨by omega, b⟩, hx]
    · rw [if_neg (by omega), if_neg (by omega), Array.getElem?_eq_none (by omega), List.getElem?_eq_none (by omega)]
/-- a part's cells -/
def partVals (s : List Int) : List Value := u8s s ++ (tagRaw s).vals
def partV (s : List Int) : Value := .agg (partVals s).toArray
theorem partVals_len {s : List Int} (h : s.length = 64) : (partVals s).length = 69 := by
  unfold partVals; rw [List.length_append, u8s_length, h]; rfl
theorem partVals_one (s : List Int) : ∀ u ∈ partVals s, u.oneCell' = true := by
  intro u hu
  rcases List.mem_append.1 hu with h | h
  · exact u8s_one _ u h
  · exact tag_one _ u h
theorem part_places : placesOf Tryd.prog 76 = some ((List.replicate 64 (Value.int .u8 0) ++ List.replicate 5 (Value.int .i64 0)).toArray, [(0, 64), (64, 5)]) := by kernel_rfl
theorem built_part {s : List Int} (h : s.length = 64) : Tryd.prog.built 76 [(0, .agg (u8s s).toArray), (1, (tagRaw s).val)] = some (partVals s).toArray := by
  rw [built_of part_places]
  exact fill_two (n := 64) (m := 5) (xs := u8s s) (ys := (tagRaw s).vals) rfl rfl (by rw [u8s_length, h]) rfl (by rw [List.size_toArray]; rfl)
theorem ty_part : AggT Tryd.prog 76 69 := ⟨⟨_, Tryd.underlying76, rfl⟩, by kernel_rfl⟩
theorem part_info : (Tryd.prog.info? 76).map (fun i => (i.zero, i.size, i.bytes)) = some (some (.agg (List.replicate 64 (Value.int .u8 0) ++ List.replicate 5 (Value.int .i64 0)).toArray), 69, 104) := by kernel_rfl
theorem ty_parts : ElemT Tryd.prog 70 76 69 104 := by
  refine ⟨Tryd.underlying70, ?_, by decide⟩
  have h1 := part_info
  cases hi : Tryd.prog.info? 76 with
  | none => simp [hi] at h1
  | some i =>
    simp only [hi, Option.map_some, Option.some.injEq, Prod.mk.injEq] at h1
    exact ⟨i, _, rfl, h1.1, h1.2.1, h1.2.2, by rfl⟩
theorem zero_part : ∀ w, (zeroValue 76).run Tryd.prog w = .ok (.agg (List.replicate 64 (Value.int .u8 0) ++ List.replicate 5 (Value.int .i64 0)).toArray) w := fun w => by kernel_rfl
def prvals (L : List (List Int)) : List Value := L.flatMap partVals
/-- the slice v, in a block of its own made since W0, reads the parts of L -/
structure PIn (W0 W : World) (v : Value) (L : List (List Int)) : Prop where
  own : W.ownsRow 0 76 69 v L.length (prvals L)
  fresh : ∀ g, v.ownBlock = some g → W0.heap.size ≤ g
  sec : ∀ s ∈ L, SecB s
theorem PIn.nil (W0 W : World) : PIn W0 W (.slice none 0 0) [] := ⟨World.ownsRow_nil W _ _ _, fun g h => by simp [Value.ownBlock] at h, fun s h => by cases h⟩
theorem PIn.kept {W0 W W' : World} {v : Value} {L : List (List Int)} (h : PIn W0 W v L) (hk : Kept W W') : PIn W0 W' v L := ⟨ownsRow_kept h.own hk, h.fresh, h.sec⟩
theorem PIn.same {W0 W W' : World} {v : Value} {L : List (List Int)} (h : PIn W0 W v L) (hs : ∀ g, v.ownBlock = some g → W'.heap[g]? = W.heap[g]?) : PIn W0 W' v L := ⟨own_same h.own hs, h.fresh, h.sec⟩
theorem prvals_len {L : List (List Int)} (h : ∀ s ∈ L, SecB s) : (prvals L).length = L.length * 69 := by
  induction L with
  | nil => rfl
  | cons s L ih =>
    rw [prvals, List.flatMap_cons, List.length_append, partVals_len (h s (by simp)).1]
    have := ih fun x hx => h x (by simp [hx])
    rw [prvals] at this
    rw [this, List.length_cons]; omega
theorem PIn.form {W0 W : World} {v : Value} {L : List (List Int)} (h : PIn W0 W v L) : ∃ ao cap, v = .slice ao L.length cap ∧ ∀ i (hi : i < L.length), ∃ g, ao = some ⟨g, 0, none⟩ ∧ W0.heap.size ≤ g ∧ Cells W g (i * 69) (partVals (L.getD i [])) ∧ SecB (L.getD i []) := by
  rcases owns_form h.own with ⟨rfl, h0, _⟩ | ⟨g, cap, rfl, hb, hg, hn, hc⟩
  · exact ⟨none, 0, by rw [h0], fun i hi => by omega⟩
  · refine ⟨_, cap, rfl, fun i hi => ⟨g, rfl, h.fresh g rfl, ?_, getD_sec h.sec hi⟩⟩
    intro j hj
    have hs := getD_sec h.sec hi
    rw [partVals_len hs.1] at hj
    have hm : (L[i]'hi) = L.getD i [] := by rw [List.getD_eq_getElem?_getD, List.getElem?_eq_getElem hi]; rfl
    have := Cells.flat (f := L) (g := partVals) hc 69 (fun x hx => partVals_len (h.sec x hx).1) i j hi ((partVals (L.getD i []))[j]'(by rw [partVals_len hs.1]; exact hj)) (by rw [hm, List.getElem?_eq_getElem])
    rw [Nat.zero_add] at this
    exact this
theorem prvals_snoc (L : List (List Int)) (s : List Int) : prvals (L ++ [s]) = prvals L ++ partVals s := by simp [prvals]
theorem fill_part (cells : Array Value) (s : List Int) (hc : cells.size = 69) (hs : s.length = 64) : Instr.fill (fun i => some (i * 69, 69)) cells [(0, partV s)] = some (partVals s).toArray := by
  have hl := partVals_len hs
  obtain ⟨c1, e1, s1, k1⟩ := fill_one (place := fun i => some (i * 69, 69)) (cells := cells) (i := 0) (off := 0) (n := 69) (v := partV s) (rest := []) rfl (by show (partVals s).toArray.size = 69; rw [List.size_toArray, hl]) (by omega)
  rw [e1]
  show some c1 = _
  congr 1
  refine Array.ext_getElem? fun k => ?_
  rw [k1 k]
  by_cases a : k < 69
  · rw [if_pos ⟨by omega, by omega⟩]; rfl
  · rw [if_neg (by omega), Array.getElem?_eq_none (by omega), Array.getElem?_eq_none (by rw [List.size_toArray]; omega)]
/-- '[]part{p}', and what is appended to -/
theorem wpList_one_part {ops : Array Oper} {rest : List Oper} {o : Oper} {a : Act} {w : World} {Q : Exit → Act → World → Prop} (hg : o.guard = none) (x : Operand) (ho : o.op = .buildSlice 70 1 #[(0, x)])
    (s : List Int) (hs : s.length = 64) (hx : a.eval x = partV s)
    (h : ∀ w1, Hid (w1.heap[w.heap.size]? = some (.cells (partVals s).toArray 76 (0, 0))) → w.heap.size < w1.heap.size → Kept w w1 → wpList Tryd.prog ops Q rest (a.put o.dst (.slice (some ⟨w.heap.size, 0, none⟩) 1 1)) w1) : wpList Tryd.prog ops Q (o :: rest) a w := by
  have h1 := part_info
  cases hi : Tryd.prog.info? 76 with
  | none => simp [hi] at h1
  | some i =>
    simp only [hi, Option.map_some, Option.some.injEq, Prod.mk.injEq] at h1
    refine wpList_buildSlice hg _ 76 1 _ ho (partVals s).toArray i _ Tryd.underlying70 hi h1.1 (by rw [h1.2.1]; decide) (by rw [h1.2.1]; decide) ?_ (h _ (Lib.hid (heap_alloc_new w _)) (by simp) ((Kept.refl _).alloc _))
    have he : (#[(0, x)].map fun (i, x) => ((i, a.eval x) : Nat × Value)).toList = [(0, partV s)] := by simp [hx]
    rw [he, h1.2.1]
    exact fill_part _ s (by simp) hs
/-- one part more -/
theorem wpList_append_part {ops : Array Oper} {rest : List Oper} {o : Oper} {a : Act} {W0 W : World} {v : Value} {Q : Exit → Act → World → Prop} (hgd : o.guard = none) (s x : Operand) (ho : o.op = .call { callee := .builtin .append, args := #[s, x], argTypes := #[70, 70] })
    (L : List (List Int)) (hs : a.eval s = v) (hv : PIn W0 W v L) (hl : L.length < 20000) (b : Nat) (hx : a.eval x = .slice (some ⟨b, 0, none⟩) 1 1) (z : List Int) (hz : SecB z) (hK : Kept W0 W) (hb : W.heap[b]? = some (.cells (partVals z).toArray 76 (0, 0)))
    (h : ∀ v' W', PIn W0 W' v' (L ++ [z]) → Kept W0 W' → wpList Tryd.prog ops Q rest (a.put o.dst v') W') : wpList Tryd.prog ops Q (o :: rest) a W := by
  refine wpList_plain hgd fun K hK' => ?_
  obtain ⟨v', W', hr, h1, h2⟩ := own_append ty_parts (b := b) hv.own hl (by decide) (partVals z) (by rw [partVals_len hz.1]) (fun j u hu => by
    have := cell_of_row W b j _ _ _ hb
    rw [this]; simpa using hu) (partVals_one z) o.type
  unfold Oper.wp execOp
  simp only [ho, resolve, invoke, builtin, Sem.run_bind, Sem.run_pure, Result.andThen_ok, List.map_toArray, List.map_cons, List.map_nil, hs, hx, hr]
  refine hK' _ _ (h v' W' ⟨by rw [prvals_snoc, List.length_append]; exact h1, fun g hg' => ?_, fun t ht => ?_⟩ ?_)
  · rcases h2 with ⟨e, _⟩ | ⟨g', e, h3, _, _⟩
    · exact hv.fresh g (e ▸ hg')
    · rw [e] at hg'; injection hg' with hg'
      have := hK.size; omega
  · rcases List.mem_append.1 ht with ht | ht
    · exact hv.sec t ht
    · rw [List.mem_singleton.1 ht]; exact hz
  · rcases h2 with ⟨_, hb⟩ | ⟨_, _, _, _, hk⟩
    · exact But.to_kept hK hb (fun k hk => hv.fresh k hk)
    · exact hK.trans hk
theorem wpList_build_part {ops : Array Oper} {rest : List Oper} {o : Oper} {a : Act} {w : World} {Q : Exit → Act → World → Prop} (hgd : o.guard = none) (x y : Operand) (ho : o.op = .build 76 #[(0, x), (1, y)]) (s : List Int) (hs : s.length = 64)
    (hx : a.eval x = .agg (u8s s).toArray) (hy : a.eval y = (tagRaw s).val) (h : wpList Tryd.prog ops Q rest (a.put o.dst (partV s)) w) : wpList Tryd.prog ops Q (o :: rest) a w := by
  refine wpList_plain hgd fun K hK => ?_
  have hr := run_build w 76 #[(0, .agg (u8s s).toArray), (1, (tagRaw s).val)] _ (built_part hs)
  unfold Oper.wp execOp
  simp only [ho, List.map_toArray, List.map_cons, List.map_nil, hx, hy, Sem.run_bind, hr, Result.andThen_ok, Sem.run_pure]
  exact hK _ _ h
end Go.Proofs.YtpeclkhppgabfaaDoor
/- check.parts walked. -/
namespace Go.Proofs.YtpeclkhppgabfaaDoor
open Go.RowKit
set_option linter.unusedVariables false
set_option linter.unusedSimpArgs false

theorem tagRes_is {s : List Int} (h : isTag s = true) : TagRes s = .tuple #[.agg (tagRaw s).vals.toArray, .bool true] := by unfold TagRes; rw [tagOf_is h]; rfl
theorem tagRes_no {s : List Int} (h : isTag s = false) : TagRes s = .tuple #[.agg tag0.vals.toArray, .bool false] := by unfold TagRes; rw [tagOf_no h]; rfl
section
variable {w0 W : World} {R : Nat → Prop} {q : Nat} {T : BankT}
set_option maxHeartbeats 4000000
set_option maxRecDepth 100000
theorem check_parts (h : BK w0 R W q T) (u : T.Use) (B c : Nat) (L : List Int) (hlv : Cells W B 0 (ints L)) (hL : L.length ≤ 100) (p : Int) :
    Calls Tryd.prog 37 #[.pointer (some ⟨q, 0, none⟩), .slice (some ⟨B, 0, none⟩) L.length c, .int .i64 p] W fun e w' => ∃ v, e = .returned (.tuple #[v, .int .i64 ((partsL T.read p L [] 0).2.1 : Int), .int .i64 (partsL T.read p L [] 0).2.2]) ∧ PIn W w' v (partsL T.read p L [] 0).1 ∧ (∀ s ∈ (partsL T.read p L [] 0).1, cpPart s = true) ∧ Kept W w' := by
  obtain ⟨res, hres⟩ : ∃ res, partsL T.read p L [] 0 = res := ⟨_, rfl⟩
  rw [hres]
  have HRES := Lib.hid (show partsL T.read p (L.drop 0) [] 0 = res from hres)
  have HB := Lib.hid h; have HU := Lib.hid u; have HLV := Lib.hid hlv
  clear h u hlv hres
  go_enter Tryd.func37, Tryd.ntmps37
  go_wp2
  go_loopw [9, 10, 19] (fun v m i wr => ∃ (t k : Nat) (l : List (List Int)), t ≤ L.length ∧ k ≤ t ∧ l.length ≤ t ∧ i = .int .i64 t ∧ m = .int .i64 k ∧ Hid (partsL T.read p (L.drop t) l k = res) ∧ Hid (PIn W wr v l ∧ ∀ s ∈ l, cpPart s = true) ∧ Hid (Kept W wr)) (fun _ _ i _ => L.length - (intOf i).toNat)
  case atStart => exact ⟨0, 0, [], Nat.zero_le _, Nat.le_refl _, Nat.zero_le _, rfl, rfl, HRES, Lib.hid ⟨PIn.nil _ _, fun s h => by cases h⟩, Lib.hid (Kept.refl _)⟩
  case round =>
    clear HRES
    obtain ⟨t, k, l, ht, hkt, hlt', rfl, rfl, HRES, HP, HK⟩ := hrel
    by_cases hlt : t < L.length
    · have hcell := cell_ints (HLV.out.kept HK.out) hlt
      replace HRES : Hid (partsL T.read p (L.getD t 0 :: L.drop (t + 1)) l k = res) := Lib.hid (by rw [← drop_int hlt]; exact HRES.out)
      generalize L.getD t 0 = d at *
      obtain ⟨s, c1, hr⟩ : ∃ s c1, T.read d p = (s, c1) := ⟨_, _, rfl⟩
      have HSB : Hid (SecB s) := Lib.hid (by have := BankT.read_sec HU.out.inv d p; rw [hr] at this; exact this)
      have HR := Lib.hid hr
      unfold partsL at HRES
      rw [hr] at HRES
      simp only [] at HRES
      clear hr
      go_wp2_with fail
      refine Calls.mono (st_read (HB.out.kept HK.out).1 HU.out d p HR.out) ?_
      rintro e w2 ⟨rfl, _, hk2⟩
      have HK2 := Lib.hid (HK.out.trans hk2)
      have HP2 := Lib.hid (And.intro (HP.out.1.kept hk2) HP.out.2)
      clear hk2 HP HK hcell HR
      go_wp2_with (refine stop_at (o := ⟨some 13, _, _, _, _, _⟩) ?_)
      refine Stop.mk ?_
      refine wpList_new_row rfl rfl _ _ rfl rfl ty_sec (u8s zeroB) zero_sec (by rw [u8s_length, zeroB_length]) (u8s s) rfl (by rw [u8s_length, HSB.out.1]) (u8s_one _) rfl ?_
      intro w3 hz3 hs3 hk3
      have HZ3 := hz3
      have HK3 := Lib.hid (HK2.out.trans hk3)
      have HP3 := Lib.hid (And.intro (HP2.out.1.kept hk3) HP2.out.2)
      generalize w2.heap.size = Z at *
      clear hz3 hs3 hk3 HK2 HP2
      rcases hpass : passE c1 with _ | _
      · by_cases hc : c1 = 0
        · subst hc
          replace HRES : Hid (partsL T.read p (L.drop (t + 1)) (if cpPart s = true then l ++ [s] else l) (k + 1) = res) := Lib.hid (by have := HRES.out; rw [if_neg (by rw [hpass]; decide), if_neg (by decide)] at this; exact this)
          have HPS := Lib.hid hpass
          clear hpass
          go_wp2_with fail
          refine Calls.mono (check_passed 0 _) ?_
          rintro e w' ⟨rfl, rfl⟩
          rw [HPS.out]
          go_wp2_with (refine stop_at (o := ⟨some 41, _, _, _, _, _⟩) ?_)
          refine Stop.mk ?_
          refine wpList_load_agg rfl _ rfl ty_sec Z 0 rfl (u8s s) (by simpa using Cells.of_block HZ3.out) (by rw [u8s_length, HSB.out.1]) ?_
          rcases htag : isTag s with _ | _
          · have hc := record_TagOf s w3 HSB.out.2 HSB.out.1
            rw [tagRes_no htag] at hc
            have HC := Lib.hid hc
            replace HRES : Hid (partsL T.read p (L.drop (t + 1)) l (k + 1) = res) := Lib.hid (by have := HRES.out; rw [if_neg (by unfold cpPart; rw [htag]; simp)] at this; exact this)
            clear hc htag
            go_wp2_with fail
            refine Calls.mono HC.out ?_
            rintro e w4 ⟨rfl, hk4⟩
            have HK4 := Lib.hid (HK3.out.trans hk4)
            have HP4 := Lib.hid (And.intro (HP3.out.1.kept hk4) HP3.out.2)
            clear hk4 HC HK3 HP3
            go_wp2_with (refine stop_at (o := ⟨some 15, _, _, _, _, _⟩) ?_)
            refine Stop.mk ?_
            refine wpList_new_row rfl rfl _ _ rfl rfl ty_tag tag0.vals zero_tag rfl tag0.vals rfl rfl (tag_one _) rfl ?_
            intro w5 hz5 hs5 hk5
            have HK5 := Lib.hid (HK4.out.trans hk5)
            have HP5 := Lib.hid (And.intro (HP4.out.1.kept hk5) HP4.out.2)
            clear hz5 hs5 hk5 HK4 HP4
            go_wp2
            go_roundw
            case rel => exact ⟨t + 1, k + 1, l, hlt, by omega, by omega, by go_num, by go_num, HRES, HP5, HK5⟩
            case measure => simp [intOf]; omega
          · have hc := record_TagOf s w3 HSB.out.2 HSB.out.1
            rw [tagRes_is htag] at hc
            have HC := Lib.hid hc
            have HT := Lib.hid htag
            clear hc htag
            go_wp2_with fail
            refine Calls.mono HC.out ?_
            rintro e w4 ⟨rfl, hk4⟩
            have HK4 := Lib.hid (HK3.out.trans hk4)
            have HP4 := Lib.hid (And.intro (HP3.out.1.kept hk4) HP3.out.2)
            have HZ4 := Lib.hid (hk4.block HZ3.out)
            clear hk4 HC HK3 HP3 HZ3
            go_wp2_with (refine stop_at (o := ⟨some 15, _, _, _, _, _⟩) ?_)
            refine Stop.mk ?_
            refine wpList_new_row rfl rfl _ _ rfl rfl ty_tag tag0.vals zero_tag rfl (tagRaw s).vals rfl rfl (tag_one _) rfl ?_
            intro w5 hz5 hs5 hk5
            have HK5 := Lib.hid (HK4.out.trans hk5)
            have HP5 := Lib.hid (And.intro (HP4.out.1.kept hk5) HP4.out.2)
            have HZ5 := Lib.hid (hk5.block HZ4.out)
            have HY5 := hz5
            have y1 : w5.cell? ⟨w4.heap.size, 1, none⟩ = some (.int .i64 (tagRaw s).num) := cell_of_row _ _ 1 _ _ _ hz5.out
            generalize w4.heap.size = Y at *
            clear hz5 hs5 hk5 HK4 HP4 HZ4
            by_cases hnum : (tagRaw s).num = 0
            · rw [hnum] at y1
              have HCP : Hid (cpPart s = true) := Lib.hid (by unfold cpPart; rw [HT.out, hnum]; rfl)
              replace HRES : Hid (partsL T.read p (L.drop (t + 1)) (l ++ [s]) (k + 1) = res) := Lib.hid (by have := HRES.out; rw [if_pos HCP.out] at this; exact this)
              clear hnum
              go_wp2_with (refine stop_at (o := ⟨some 52, _, _, _, _, _⟩) ?_)
              refine Stop.mk ?_
              refine wpList_load_agg rfl _ rfl ty_sec Z 0 rfl (u8s s) (by simpa using Cells.of_block HZ5.out) (by rw [u8s_length, HSB.out.1]) ?_
              refine wpList_load_agg rfl _ rfl ty_tag Y 0 rfl (tagRaw s).vals (by simpa using Cells.of_block HY5.out) rfl ?_
              refine wpList_build_part rfl _ _ rfl s HSB.out.1 rfl rfl ?_
              refine wpList_one_part rfl _ rfl s HSB.out.1 rfl ?_
              intro w6 hz6 hs6 hk6
              have HK6 := Lib.hid (HK5.out.trans hk6)
              have HP6 := Lib.hid (And.intro (HP5.out.1.kept hk6) HP5.out.2)
              refine wpList_append_part rfl _ _ rfl l rfl HP6.out.1 (by omega) w5.heap.size rfl s HSB.out HK6.out hz6.out ?_
              intro v' w7 hp7 hk7
              have HK7 := Lib.hid hk7
              have HP7 : Hid (PIn W w7 v' (l ++ [s]) ∧ ∀ x ∈ l ++ [s], cpPart x = true) := Lib.hid ⟨hp7, fun x hx => by
                rcases List.mem_append.1 hx with hx | hx
                · exact HP6.out.2 x hx
                · rw [List.mem_singleton.1 hx]; exact HCP.out⟩
              clear hp7 hk7 hz6 hs6 hk6 HK6 HP6 HK5 HP5 HZ5 HY5 y1
              go_wp2
              go_roundw
              case rel => exact ⟨t + 1, k + 1, l ++ [s], hlt, by omega, by rw [List.length_append, List.length_singleton]; omega, by go_num, by go_num, HRES, HP7, HK7⟩
              case measure => simp [intOf]; omega
            · have hnb : ((tagRaw s).num == 0) = false := by simpa using hnum
              replace HRES : Hid (partsL T.read p (L.drop (t + 1)) l (k + 1) = res) := Lib.hid (by have := HRES.out; rw [if_neg (by unfold cpPart; rw [hnb]; simp)] at this; exact this)
              clear hnum
              go_wp2
              go_roundw
              case rel => exact ⟨t + 1, k + 1, l, hlt, by omega, by omega, by go_num, by go_num, HRES, HP5, HK5⟩
              case measure => simp [intOf]; omega
        · have hcb : (c1 == 0) = false := by simpa using hc
          have HRR : Hid (res = ([], 0, c1)) := Lib.hid (by have := HRES.out; rw [if_neg (by rw [hpass]; decide), if_pos hc] at this; exact this.symm)
          have HPS := Lib.hid hpass
          clear hpass hc HRES
          go_wp2_with fail
          refine Calls.mono (check_passed c1 _) ?_
          rintro e w' ⟨rfl, rfl⟩
          rw [HPS.out]
          go_wp2
          go_ret3
          refine ⟨_, by rw [HRR.out]; rfl, by rw [HRR.out]; exact PIn.nil _ _, by rw [HRR.out]; exact (fun s h => by cases h), HK3.out⟩
      · replace HRES : Hid (partsL T.read p (L.drop (t + 1)) l k = res) := Lib.hid (by have := HRES.out; rw [if_pos hpass] at this; exact this)
        have HPS := Lib.hid hpass
        clear hpass
        go_wp2_with fail
        refine Calls.mono (check_passed c1 _) ?_
        rintro e w' ⟨rfl, rfl⟩
        rw [HPS.out]
        go_wp2
        go_roundw
        case rel => exact ⟨t + 1, k, l, hlt, by omega, by omega, by go_num, rfl, HRES, HP3, HK3⟩
        case measure => simp [intOf]; omega
    · have htn : t = L.length := by omega
      have HRR : Hid (res = (l, k, 0)) := Lib.hid (by have := HRES.out; rw [htn, List.drop_length] at this; unfold partsL at this; exact this.symm)
      have hge : L.length ≤ t := by omega
      clear htn HRES
      go_wp2
      go_ret3
      refine ⟨_, by rw [HRR.out]; rfl, by rw [HRR.out]; exact HP.out.1, by rw [HRR.out]; exact HP.out.2, HK.out⟩
end
end Go.Proofs.YtpeclkhppgabfaaDoor
