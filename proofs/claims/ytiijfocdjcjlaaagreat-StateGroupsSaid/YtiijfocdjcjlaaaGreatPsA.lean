/- PsA: several texts in one: Cta Cut. -/
import Derived.Test.YtiijfocdjcjlaaaGreatPrA
import Derived.Test.YtiijfocdjcjlaaaGreatPcA
/- law18.cut: a state cut short; what comes in. -/
namespace Go.Proofs.YtiijfocdjcjlaaaGreat
open Go.RowKit Go.ChangeMaps Go.MapKept
set_option linter.unusedVariables false
set_option linter.unusedSimpArgs false
set_option maxRecDepth 100000
set_option maxHeartbeats 1000000
/-- a slice that comes in: of any length -/
structure RIn {α : Type} (enc : α → List Value) (n : Nat) (W : World) (v : Value) (l : List α) : Prop where
  rsl : RSl enc n W v l
  nil : ∀ m c, v = .slice none m c → c = 0
theorem RIn.kept {α : Type} {enc : α → List Value} {n : Nat} {W W' : World} {v : Value} {l : List α} (h : RIn enc n W v l) (hk : Kept W W') : RIn enc n W' v l := ⟨h.rsl.kept hk, h.nil⟩
/-- what the first k of it are -/
theorem RIn.src {α : Type} {enc : α → List Value} {n : Nat} {W : World} {oa : Option Addr} {m c : Nat} {l : List α} (henc : ∀ x, (enc x).length = n) (h : RIn enc n W (.slice oa m c) l) (k : Nat) (hk : k ≤ l.length) : Src W n (.slice oa k c) k ((l.take k).flatMap enc) := by
  have ht := h.rsl.take hk
  cases oa with
  | some a => exact RSl.src henc ht
  | none =>
    have hc := h.nil m c rfl
    subst hc
    obtain ⟨oa', cap', e, h1, _⟩ := ht
    injection e with e1 e2 e3
    have hk0 : k = 0 := by omega
    subst hk0
    exact ⟨by simp, none, 0, rfl, Nat.le_refl _, fun _ => ⟨rfl, rfl⟩, fun b hb => by cases hb⟩
structure GRelI (W : World) (x : Gw) (g : Grp) : Prop where
  id : x.1 = g.id
  kind : x.2.1 = g.kind
  ext : RIn pairV 2 W x.2.2 g.ext
structure StI (W : World) (s : St) (sm sg sp sd : Value) (raw : List Gw) : Prop where
  ms : RIn trip 3 W sm s.ms
  gs : RIn grw 3 W sg raw
  len : raw.length = s.gs.length
  at_ : ∀ k (h : k < raw.length) (h' : k < s.gs.length), GRelI W raw[k] s.gs[k]
  mp : RIn trip 3 W sp s.mp
  dirty : RIn oneV 1 W sd s.dirty
  plug : PlgOk s.plug
theorem GRelI.kept {W W' : World} {x : Gw} {g : Grp} (h : GRelI W x g) (hk : Kept W W') : GRelI W' x g := ⟨h.id, h.kind, h.ext.kept hk⟩
theorem StI.kept {W W' : World} {s : St} {sm sg sp sd : Value} {raw : List Gw} (h : StI W s sm sg sp sd raw) (hk : Kept W W') : StI W' s sm sg sp sd raw :=
  ⟨h.ms.kept hk, h.gs.kept hk, h.len, fun k h1 h2 => (h.at_ k h1 h2).kept hk, h.mp.kept hk, h.dirty.kept hk, h.plug⟩
def cutG (g : Grp) : Grp := ⟨g.id, g.kind, g.ext.take 14⟩
def cutS (s : St) : St := ⟨s.blocks, s.ms.take 14, (s.gs.take 26).map cutG, s.mp.take 100, s.dirty.take 30, s.plug⟩
/-- groups that are gathered one by one: the row is owned, no extent's row lies in it, nor in block C -/
structure GI (B0 C : Nat) (W : World) (v : Value) (raw : List Gw) (gs : List Grp) : Prop where
  own : W.ownsRow 0 37 3 v raw.length (raw.flatMap grw)
  fresh : ∀ g, v.ownBlock = some g → B0 ≤ g ∧ g ≠ C
  rel : ∀ W', But (fun i => i < B0 ∨ v.ownBlock = some i) W W' → GRels W' raw gs
theorem GRels.snoc {W : World} {raw : List Gw} {gs : List Grp} {x : Gw} {g : Grp} (h : GRels W raw gs) (hx : GRel W x g) : GRels W (raw ++ [x]) (gs ++ [g]) := by
  refine ⟨by simp [h.len], fun k h1 h2 => ?_⟩
  by_cases hk : k < raw.length
  · rw [List.getElem_append_left hk, List.getElem_append_left (by rw [← h.len]; exact hk)]
    exact h.at_ k hk _
  · have e : k = raw.length := by simp at h1; omega
    subst e
    have e2 : (gs ++ [g])[raw.length] = g := by
      simp [h.len]
    rw [e2]
    simpa using hx
theorem GI.nil (B0 C : Nat) (W : World) : GI B0 C W (.slice none 0 0) [] [] := ⟨World.ownsRow_nil W _ _ _, fun g h => by simp [Value.ownBlock] at h, fun W' _ => ⟨rfl, fun k h => by cases h⟩⟩
theorem GI.but {B0 C : Nat} {W W' : World} {v : Value} {raw : List Gw} {gs : List Grp} (h : GI B0 C W v raw gs) (hb : But (fun i => i < B0) W W') : GI B0 C W' v raw gs :=
  ⟨own_same h.own (fun g hg => hb.block g (own_lt h.own hg) (by have := (h.fresh g hg).1; omega)), h.fresh, fun W2 hb2 => h.rel W2 ((hb.mono (S' := fun i => i < B0 ∨ v.ownBlock = some i) (fun i hi => .inl hi)).trans hb2)⟩
/-- one group more -/
theorem wpList_append_grp {ops : Array Oper} {rest : List Oper} {o : Oper} {a : Act} {W : World} {v : Value} {Q : Exit → Act → World → Prop} (hgd : o.guard = none) (s x : Operand) (ho : o.op = .call { callee := .builtin .append, args := #[s, x], argTypes := #[23, 23] })
    {B0 C : Nat} (raw : List Gw) (gs : List Grp) (hs : a.eval s = v) (hv : GI B0 C W v raw gs) (hl : raw.length < 20000) (b : Nat) (hx : a.eval x = .slice (some ⟨b, 0, none⟩) 1 1) (y : Gw) (g : Grp)
    (hy : ∀ W', But (fun i => i < B0 ∨ v.ownBlock = some i) W W' → GRel W' y g) (hC : C < W.heap.size) (hB : B0 ≤ W.heap.size) (hb : W.heap[b]? = some (.cells (grw y).toArray 37 (0, 0)))
    (h : ∀ v' W', GI B0 C W' v' (raw ++ [y]) (gs ++ [g]) → But (fun i => v.ownBlock = some i) W W' → wpList Tryz.prog ops Q rest (a.put o.dst v') W') : wpList Tryz.prog ops Q (o :: rest) a W := by
  refine wpList_plain hgd fun K hK' => ?_
  have hy0 := hy W (But.refl _ _)
  obtain ⟨oy, cy, hye, _⟩ := hy0.ext.form
  obtain ⟨v', W', hr, h1, h2⟩ := own_append tyE_g (b := b) hv.own hl (by decide) (grw y) (by rw [grw_len]) (fun j u hu => by
    have := cell_of_row W b j _ _ _ hb
    rw [this]; simpa using hu) (grw_one (slice_one hye).2) o.type
  unfold Oper.wp execOp
  simp only [ho, resolve, invoke, builtin, Sem.run_bind, Sem.run_pure, Result.andThen_ok, List.map_toArray, List.map_cons, List.map_nil, hs, hx, hr]
  have hrow : raw.flatMap grw ++ grw y = (raw ++ [y]).flatMap grw := by simp [List.flatMap_append]
  rw [hrow] at h1
  refine hK' _ _ (h v' W' ⟨by rw [List.length_append]; exact h1, ?_, ?_⟩ ?_)
  · intro i hi
    rcases h2 with ⟨e, _⟩ | ⟨g', e, h3, _, _⟩
    · exact hv.fresh i (e ▸ hi)
    · rw [e] at hi; injection hi with hi
      omega
  · intro W2 hb2
    rcases h2 with ⟨e, hb'⟩ | ⟨g', e, h3, _, hk⟩
    · have hbb : But (fun i => i < B0 ∨ v.ownBlock = some i) W W2 := (hb'.mono (S' := fun i => i < B0 ∨ v.ownBlock = some i) (fun i hi => .inr hi)).trans (hb2.mono (fun i hi => by rw [e] at hi; exact hi))
      exact (hv.rel W2 hbb).snoc (hy W2 hbb)
    · have hbb : But (fun i => i < B0 ∨ v.ownBlock = some i) W W2 := (But.kept (S := fun i => i < B0 ∨ v.ownBlock = some i) hk).trans' hb2 (fun i hi => by
        rcases hi with hi | hi
        · exact .inl (.inl hi)
        · rw [e] at hi; injection hi with hi; exact .inr (by omega))
      exact (hv.rel W2 hbb).snoc (hy W2 hbb)
  · rcases h2 with ⟨_, hb⟩ | ⟨_, _, _, _, hk⟩
    · exact hb
    · exact But.kept hk
/-- a new variable of a group -/
theorem wpList_new_grp {ops : Array Oper} {rest : List Oper} {o1 o2 : Oper} {a : Act} {w : World} {Q : Exit → Act → World → Prop} (hg1 : o1.guard = none) (hg2 : o2.guard = none) (x y : Operand) (ho1 : o1.op = .alloc 37) (ho2 : o2.op = .store 37 x y)
    (z : Gw) (hz : z.2.2.oneCell' = true) (hy : (a.put o1.dst (.pointer (some ⟨w.heap.size, 0, none⟩))).eval y = .agg (grw z).toArray)
    (hx : (a.put o1.dst (.pointer (some ⟨w.heap.size, 0, none⟩))).eval x = .pointer (some ⟨w.heap.size, 0, none⟩))
    (h : ∀ w1, Hid (w1.heap[w.heap.size]? = some (.cells (grw z).toArray 37 (0, 0))) → Kept w w1 → wpList Tryz.prog ops Q rest ((a.put o1.dst (.pointer (some ⟨w.heap.size, 0, none⟩))).put o2.dst undef) w1) : wpList Tryz.prog ops Q (o1 :: o2 :: rest) a w := by
  refine wpList_alloc_abs hg1 37 ho1 _ zero_grpA ?_
  intro w1 hz1 hs1 hn1 hk1
  refine wpList_store_agg hg2 x y ho2 agT_grp w.heap.size 0 hx (grw z) hy (grw_len z) (grw_one hz) _ 37 hz1.out (by decide) ?_
  intro w2 hw2
  replace hw2 := hw2.all (by rw [grw_len]; rfl)
  exact h w2 (Lib.hid hw2.blk) (hw2.kept hk1 (Nat.le_refl _))
/-- a slice's first k -/
theorem wpList_slice_first {ops : Array Oper} {rest : List Oper} {o : Oper} {a : Act} {w : World} {Q : Exit → Act → World → Prop} {T E n bytes : Nat} (hgd : o.guard = none) (x y : Operand) (ho : o.op = .slice T x none (some y) none) (hT : ElemT Tryz.prog T E n bytes) (he : Tryz.prog.elem T = E) (ax : Option Addr) (m c : Nat) (hx : a.eval x = .slice ax m c) (k : Nat) (hy : a.eval y = .int .i64 (k : Int)) (hk : k ≤ c)
    (h : wpList Tryz.prog ops Q rest (a.put o.dst (.slice ax k c)) w) : wpList Tryz.prog ops Q (o :: rest) a w := by
  refine wpList_plain hgd fun K hK => ?_
  obtain ⟨i, z, hi, _, hsz, _, _⟩ := hT.i
  have ht : Tryz.prog.underlying T = some (.slice (Tryz.prog.elem T)) := by rw [he]; exact hT.ht
  have hr := run_slice_h (P := Tryz.prog) w T ax m c ht .i64 (k : Int) (by omega) (by omega)
  rw [he] at hr
  have hr' : (Instr.slice T (.slice ax m c) none (some (.int .i64 (k : Int))) none).run Tryz.prog w = .ok (.slice ax k c) w := by
    rw [hr]
    simp [sizeOf, typeInfo, hi, hsz, sliced]
    intro e
    cases ax <;> simp [Addr.add]
  unfold Oper.wp execOp
  simp only [ho, hx, hy, Option.map_some, Option.map_none, Sem.run_bind, run_sliceAt_slice (P := Tryz.prog) w _ _ _ _ _ ht, hr', Result.andThen_ok, Sem.run_pure]
  exact hK _ _ h
theorem wpList_min {ops : Array Oper} {rest : List Oper} {o : Oper} {a : Act} {w : World} {Q : Exit → Act → World → Prop} (hgd : o.guard = none) (x y : Operand) {ts : Array TypeId} (ho : o.op = .call { callee := .builtin .min, args := #[x, y], argTypes := ts }) (n k : Nat) (hx : a.eval x = .int .i64 (n : Int)) (hy : a.eval y = .int .i64 (k : Int))
    (h : wpList Tryz.prog ops Q rest (a.put o.dst (.int .i64 ((min n k : Nat) : Int))) w) : wpList Tryz.prog ops Q (o :: rest) a w := by
  refine wpList_plain hgd fun K hK => ?_
  have e : (if (k : Int) < (n : Int) then (k : Int) else (n : Int)) = ((min n k : Nat) : Int) := by
    by_cases hh : (k : Int) < (n : Int)
    · rw [if_pos hh]; omega
    · rw [if_neg hh]; omega
  have hr := run_min_int2 (P := Tryz.prog) w ts o.type .i64 .i64 (n : Int) (k : Int)
  rw [e] at hr
  unfold Oper.wp execOp
  simp only [ho, resolve, invoke, builtin, Sem.run_bind, Sem.run_pure, Result.andThen_ok, List.map_toArray, List.map_cons, List.map_nil, hx, hy, hr]
  exact hK _ _ h
/-- the first of what comes in, in a row of their own -/
theorem wpList_append_first {α : Type} {enc : α → List Value} {n bytes T E : Nat} {ops : Array Oper} {rest : List Oper} {o : Oper} {a : Act} {w : World} {Q : Exit → Act → World → Prop} (hgd : o.guard = none) (s x : Operand) (ho : o.op = .call { callee := .builtin .append, args := #[s, x], argTypes := #[T, T] })
    (hT : ElemT Tryz.prog T E n bytes) (hby : bytes ≤ 1000000) (henc : ∀ x, (enc x).length = n) {oa : Option Addr} {m c : Nat} {l : List α} (hone : ∀ x ∈ l, ∀ u ∈ enc x, u.oneCell' = true) (hin : RIn enc n w (.slice oa m c) l) (k : Nat) (hk : k ≤ 4096) (B : Option Addr) (hB : B ≠ none) (hs : a.eval s = .slice B 0 0) (hx : a.eval x = .slice oa (min l.length k) c)
    (h : ∀ v' w', Own E enc n w' w.heap.size w'.heap.size v' (l.take k) → Kept w w' → wpList Tryz.prog ops Q rest (a.put o.dst v') w') : wpList Tryz.prog ops Q (o :: rest) a w := by
  have hsrc := hin.src henc (min l.length k) (Nat.min_le_left _ _)
  have htk : l.take (min l.length k) = l.take k := by
    rcases Nat.le_total l.length k with h1 | h1
    · rw [Nat.min_eq_left h1, List.take_length, List.take_of_length_le h1]
    · rw [Nat.min_eq_right h1]
  have hlen : (l.take k).length = min l.length k := by rw [List.length_take, Nat.min_comm]
  rw [htk] at hsrc
  rw [← hlen] at hsrc hx
  have hkk : (l.take k).length ≤ 4096 := by rw [hlen]; omega
  have hbb : (0 + (l.take k).length) * bytes ≤ 140737488355328 := Nat.le_trans (Nat.mul_le_mul (show 0 + (l.take k).length ≤ 4096 by omega) hby) (by decide)
  refine wpList_append_app w hgd _ _ ho hT w.heap.size (.slice B 0 0) 0 [] hs (.inr ⟨by simp, B, rfl, fun h => absurd h hB, by simp⟩) _ (l.take k).length ((l.take k).flatMap enc) hx hsrc ?_ (by simp only [maxLen]; omega) hbb (Nat.le_refl _) ?_
  · intro u hu
    simp only [List.mem_flatMap] at hu
    obtain ⟨x, hx, hu⟩ := hu
    exact hone x (List.mem_of_mem_take hx) u hu
  · intro v' w' ha _ hb hown
    rw [Nat.zero_add, List.nil_append] at ha hown
    exact h v' w' (Own.of_clone ha (fun h => hown (.inl h))) (Kept.below (Kept.refl w) (Nat.le_refl _) hb)
theorem stC_len {s : St} (h : PlgOk s.plug) (a b c d : Value) : (stC s a b c d).length = 136 := stv_len (plv_len h)
theorem GI.form {B0 C : Nat} {W : World} {v : Value} {raw : List Gw} {gs : List Grp} (h : GI B0 C W v raw gs) : ∃ oa cap, v = .slice oa raw.length cap := by
  rcases owns_form h.own with ⟨rfl, h0, _⟩ | ⟨g, cap, rfl, _⟩
  · exact ⟨none, 0, by rw [h0]⟩
  · exact ⟨_, cap, rfl⟩
theorem GI.rsl {B0 C : Nat} {W : World} {v : Value} {raw : List Gw} {gs : List Grp} (h : GI B0 C W v raw gs) : RSl grw 3 W v raw := RSl.of_owns grw_len rfl h.own
end Go.Proofs.YtiijfocdjcjlaaaGreat
/- law18.cut: the walk. -/
namespace Go.Proofs.YtiijfocdjcjlaaaGreat
open Go.RowKit Go.ChangeMaps Go.MapKept
set_option linter.unusedVariables false
set_option linter.unusedSimpArgs false
set_option maxRecDepth 100000
set_option maxHeartbeats 1000000
theorem law_cut (s : St) (sm sg sp sd : Value) (raw : List Gw) (w : World) (h : StI w s sm sg sp sd raw) :
    Calls Tryz.prog 9 #[.agg (stC s sm sg sp sd).toArray] w fun e w' => ∃ sm' sg' sp' sd' raw', e = .returned (.agg (stC (cutS s) sm' sg' sp' sd').toArray) ∧ (∀ W', But (fun i => i < w.heap.size) w' W' → StM W' (cutS s) sm' sg' sp' sd' raw') ∧ Kept w w' := by
  obtain ⟨om, cm, rfl, hcm⟩ := h.ms.rsl.form
  obtain ⟨og, cg, rfl, hcg⟩ := h.gs.rsl.form
  obtain ⟨op, cp, rfl, hcp⟩ := h.mp.rsl.form
  obtain ⟨od, cd, rfl, hcd⟩ := h.dirty.rsl.form
  have HH := Lib.hid h; clear h
  have HL := Lib.hid (show (stC s (.slice om s.ms.length cm) (.slice og raw.length cg) (.slice op s.mp.length cp) (.slice od s.dirty.length cd)).length = 136 from stv_len (plv_len HH.out.plug))
  have HON := Lib.hid (stC_one (s := s) (sm := .slice om s.ms.length cm) (sg := .slice og raw.length cg) (sp := .slice op s.mp.length cp) (sd := .slice od s.dirty.length cd) rfl rfl rfl rfl)
  go_enter Tryz.func9, Tryz.ntmps9
  go_wp2_with (refine stop_at (o := ⟨some 1, _, _, _, _, _⟩) ?_)
  refine Stop.mk ?_
  refine wpList_box_rowS rfl _ _ rfl (stC s (.slice om s.ms.length cm) (.slice og raw.length cg) (.slice op s.mp.length cp) (.slice od s.dirty.length cd)) rfl ?_
  intro w1 hz1 hs1 hk1
  obtain ⟨X, hX⟩ : ∃ X, X = w.heap.size := ⟨_, rfl⟩
  rw [← hX] at hz1 ⊢
  refine wpList_alloc_abs rfl _ rfl _ zero_state ?_
  intro w2 hz2 hs2 hs2' hk2
  obtain ⟨R, hR⟩ : ∃ R, R = w1.heap.size := ⟨_, rfl⟩
  rw [← hR] at hz2 ⊢
  have HX2 := Lib.hid (Cells.of_block (hk2.block hz1.out) : Cells w2 X 0 (stC s (.slice om s.ms.length cm) (.slice og raw.length cg) (.slice op s.mp.length cp) (.slice od s.dirty.length cd)))
  have HX := Lib.hid hX
  have HR := Lib.hid (show X < R ∧ R < w2.heap.size by have := hs2'.out; omega)
  have HR2 := Lib.hid hz2.out
  have HK2 := Lib.hid (hk1.trans hk2)
  clear hz1 hz2 hs1 hs2 hs2' hk1 hk2 hX hR
  go_wp2_with (refine stop_at (o := ⟨some 6, _, _, _, _, _⟩) ?_)
  refine Stop.mk ?_
  refine wpList_load_agg rfl _ rfl agT_state X 0 rfl _ HX2.out HL.out ?_
  refine wpList_new_state rfl rfl _ _ rfl rfl (stC s (.slice om s.ms.length cm) (.slice og raw.length cg) (.slice op s.mp.length cp) (.slice od s.dirty.length cd)) rfl HL.out HON.out rfl ?_
  intro w3 hz3 hk3
  obtain ⟨C, hC⟩ : ∃ C, C = w2.heap.size := ⟨_, rfl⟩
  rw [← hC] at hz3 ⊢
  have HX3 := Lib.hid (HX2.out.kept hk3)
  have HK3 := Lib.hid (HK2.out.trans hk3)
  have HR3 := Lib.hid (hk3.block HR2.out)
  have HCR := Lib.hid (show R < C by have := HR.out; omega)
  have HC3 := Lib.hid (show C < w3.heap.size from (Array.getElem?_eq_some_iff.1 hz3.out).1)
  have HI3 := Lib.hid (HH.out.kept HK3.out)
  clear hk3 hC HR2 HK2 HX2
  go_wp2_with (refine stop_at (o := ⟨some 8, _, _, _, _, _⟩) ?_)
  have hka := (Kept.refl w3).alloc (Obj.cells #[] 56)
  have hsz : w3.heap.size ≤ (w3.alloc (Obj.cells #[] 56)).heap.size := hka.size
  generalize w3.alloc (Obj.cells #[] 56) = w4 at hka hsz ⊢
  obtain ⟨B, hB⟩ : ∃ B, B = w3.heap.size := ⟨_, rfl⟩
  rw [← hB] at ⊢ hsz
  have HB := Lib.hid hB
  have HSZ := Lib.hid hsz
  have HX4 := Lib.hid (stv_cells (HX3.out.kept hka))
  have HZ4 := Lib.hid (hka.block hz3.out); have HR4 := Lib.hid (hka.block HR3.out); have HK4 := Lib.hid (HK3.out.trans hka); have HI4 := Lib.hid (HI3.out.kept hka)
  have HX4' := Lib.hid (HX3.out.kept hka)
  clear hka hsz hB hz3 HR3 HK3 HI3
  have c1 := HX4.out.2.1
  refine Stop.mk ?_
  go_wp2_with (refine stop_at (o := ⟨some 13, _, _, _, _, _⟩) ?_)
  refine Stop.mk ?_
  refine wpList_min rfl _ _ rfl s.ms.length 14 rfl rfl ?_
  refine wpList_slice_first rfl _ _ rfl tyE_m (by kernel_rfl) om s.ms.length cm rfl (min s.ms.length 14) rfl (Nat.le_trans (Nat.min_le_left _ _) hcm) ?_
  refine wpList_append_first rfl _ _ rfl tyE_m (by decide) trip_len (fun x _ u hu => by simp only [trip, List.mem_cons, List.not_mem_nil, or_false] at hu; rcases hu with rfl | rfl | rfl <;> rfl) HI4.out.ms 14 (by decide) (some ⟨B, 0, none⟩) (by simp) rfl rfl ?_
  intro vm w5 hom hk5
  obtain ⟨om', cm', rfl⟩ := hom.form
  obtain ⟨nm, hnm⟩ : ∃ n, n = (List.take 14 s.ms).length := ⟨_, rfl⟩
  rw [← hnm] at hom ⊢
  clear hnm
  have HX5 := Lib.hid (HX4'.out.kept hk5)
  have HZ5 := Lib.hid (hk5.block HZ4.out); have HR5 := Lib.hid (hk5.block HR4.out); have HK5 := Lib.hid (HK4.out.trans hk5); have HI5 := Lib.hid (HI4.out.kept hk5)
  have hbas := Nat.lt_of_lt_of_le HC3.out (HB.out ▸ HSZ.out)
  obtain ⟨M0, hM0⟩ : ∃ M, M = w4.heap.size := ⟨_, rfl⟩
  obtain ⟨M1, hM1⟩ : ∃ M, M = w5.heap.size := ⟨_, rfl⟩
  have hsz := hk5.size
  rw [← hM0, ← hM1] at hom hsz
  rw [← hM0] at hbas
  have HOM5 := Lib.hid hom
  have HM := Lib.hid (show X < R ∧ R < C ∧ C < M0 ∧ M0 ≤ M1 from ⟨HR.out.1, HCR.out, hbas, hsz⟩)
  have HM5 := Lib.hid (show M1 ≤ w5.heap.size by omega)
  have HXE := Lib.hid (show w.heap.size = X from HX.out.symm)
  clear hom hk5 hbas hM0 hM1 hsz c1 HX4 HX4' HZ4 HR4 HK4 HI4 HX3 HB HSZ HC3 HCR HR HX
  go_wp2_with (refine stop_at (o := ⟨none, .store _ _ _, _, _, _, _⟩) ?_)
  refine Stop.mk ?_
  refine wpList_set_cell rfl _ _ rfl size_mbsT C 1 rfl (.slice om' nm cm') rfl rfl rfl (stC s (.slice om s.ms.length cm) (.slice og raw.length cg) (.slice op s.mp.length cp) (.slice od s.dirty.length cd)) _ HZ5.out (by rw [HL.out]; decide) ?_
  intro w6 hw6
  have hb6 : But (fun i => i = C) w5 w6 := But.wrote hw6 rfl
  have HZ6 : Hid (w6.heap[C]? = some (.cells (stC s (.slice om' nm cm') (.slice og raw.length cg) (.slice op s.mp.length cp) (.slice od s.dirty.length cd)).toArray 31 (0, 0))) := Lib.hid hw6.blk
  have HB6 := Lib.hid hb6
  clear hw6 hb6 HZ5
  go_wp2_with (refine stop_at (o := ⟨none, .store _ _ _, _, _, _, _⟩) ?_)
  refine Stop.mk ?_
  refine wpList_set_cell rfl _ _ rfl size_grpsT C 2 rfl (.slice none 0 0) rfl rfl rfl (stC s (.slice om' nm cm') (.slice og raw.length cg) (.slice op s.mp.length cp) (.slice od s.dirty.length cd)) _ HZ6.out (by rw [stC_len HH.out.plug]; decide) ?_
  intro w7 hw7
  have hb7 : But (fun i => i = C) w5 w7 := HB6.out.trans (But.wrote hw7 rfl)
  have HZ7 : Hid (w7.heap[C]? = some (.cells (stC s (.slice om' nm cm') (.slice none 0 0) (.slice op s.mp.length cp) (.slice od s.dirty.length cd)).toArray 31 (0, 0))) := Lib.hid hw7.blk
  have HX7 := Lib.hid (show Cells w7 X 0 (stC s (.slice om s.ms.length cm) (.slice og raw.length cg) (.slice op s.mp.length cp) (.slice od s.dirty.length cd)) from fun j hj => hb7.cell (p := ⟨X, 0 + j, none⟩) (by show ¬ X = C; have := HM.out; omega) (HX5.out j hj))
  have HR7 := Lib.hid (hb7.blk (by show ¬ R = C; have := HM.out; omega) HR5.out)
  have HOM7 := Lib.hid (HOM5.out.but hb7 (fun k hk => .inl (by have := HM.out; omega)))
  have HK7 := Lib.hid (But.to_kept HK5.out hb7 (fun i hi => by have := HM.out; have := HXE.out; omega))
  have HI7 := Lib.hid (HH.out.kept HK7.out)
  have HM7 := Lib.hid (Nat.le_trans HM5.out hb7.size)
  clear hw7 hb7 HZ6 HB6 HX5 HR5 HOM5 HK5 HI5 HM5
  have x2 : w7.cell? ⟨X, 2, none⟩ = some (.slice og raw.length cg) := (stv_cells HX7.out).2.2.1
  go_wp2
  clear x2
  go_loopw [4] (fun i wr => ∃ (k : Nat) (raw' : List Gw) (sgk : Value), k ≤ raw.length ∧ k ≤ 26 ∧ i = .int .i64 (k : Int) ∧ Hid (raw'.length = k ∧ GI M1 C wr sgk raw' ((s.gs.take k).map cutG) ∧ Own 56 trip 3 wr M0 M1 (.slice om' nm cm') (s.ms.take 14) ∧ wr.heap[C]? = some (.cells (stC s (.slice om' nm cm') sgk (.slice op s.mp.length cp) (.slice od s.dirty.length cd)).toArray 31 (0, 0)) ∧ wr.heap[R]? = some (.cells (stv 0 nilS nilS nilS nilS (plv zeroPlg)).toArray 31 (0, 0)) ∧ Cells wr X 0 (stC s (.slice om s.ms.length cm) (.slice og raw.length cg) (.slice op s.mp.length cp) (.slice od s.dirty.length cd)) ∧ Kept w wr ∧ M1 ≤ wr.heap.size)) (fun i _ => raw.length - (intOf i).toNat)
  case atStart => exact ⟨0, [], _, by omega, by omega, rfl, Lib.hid ⟨rfl, GI.nil _ _ _, HOM7.out, HZ7.out, HR7.out, HX7.out, HK7.out, HM7.out⟩⟩
  case round =>
    obtain ⟨k, raw', sgk, hk, hk26, rfl, HR⟩ := hrel
    have x2 : wr.cell? ⟨X, 2, none⟩ = some (.slice og raw.length cg) := (stv_cells HR.out.2.2.2.2.2.1).2.2.1
    have c2 : wr.cell? ⟨C, 2, none⟩ = some sgk := (stv_cells (Cells.of_block HR.out.2.2.2.1)).2.2.1
    have HIr := Lib.hid (HH.out.kept HR.out.2.2.2.2.2.2.1)
    by_cases hlt : k < raw.length ∧ k < 26
    · obtain ⟨hlt, hlt26⟩ := hlt
      · have hkg : k < s.gs.length := by have := HH.out.len; omega
        obtain ⟨bg, offg, rfl, hbg, hcg2⟩ := HIr.out.gs.rsl.at hlt
        have hat := HIr.out.at_ k hlt hkg
        have HAT := Lib.hid hat
        have HCG := Lib.hid hcg2
        have HRA := Lib.hid HR.out
        clear hat hcg2 c2 HR
        have hix1 : (0 : Int) ≤ (k : Int) := by omega
        have hix2 : (k : Int) < (raw.length : Int) := by omega
        go_wp2_with (refine stop_at (o := ⟨some 33, _, _, _, _, _⟩) ?_)
        refine Stop.mk ?_
        obtain ⟨oe, ce, hxe, hce⟩ := HAT.out.ext.rsl.form
        obtain ⟨ne, hne⟩ : ∃ n, n = s.gs[k].ext.length := ⟨_, rfl⟩
        rw [← hne] at hxe hce
        have HNE := Lib.hid hne
        have HXV := Lib.hid hxe
        clear hne hxe HZ7 HR7 HOM7 HK7 HM7 HX7 HI7
        refine wpList_load_agg rfl _ rfl agT_grp bg (offg + k * 3) rfl (grw raw[k]) HCG.out (grw_len _) ?_
        refine wpList_new_grp rfl rfl _ _ rfl rfl raw[k] (slice_one HXV.out).2 rfl rfl ?_
        intro wa hza hka
        obtain ⟨A, hA⟩ : ∃ A, A = wr.heap.size := ⟨_, rfl⟩
        rw [← hA] at hza ⊢
        have hal : A < wa.heap.size := (Array.getElem?_eq_some_iff.1 hza.out).1
        have HZA := Lib.hid hza.out
        have HKA := Lib.hid hka
        have HA := Lib.hid (show wr.heap.size = A ∧ A < wa.heap.size from ⟨hA.symm, hal⟩)
        clear hza hka hal hA x2
        go_wp2_with (refine stop_at (o := ⟨some 35, _, _, _, _, _⟩) ?_)
        have hkb := (Kept.refl wa).alloc (Obj.cells #[] 39)
        generalize wa.alloc (Obj.cells #[] 39) = wb at hkb ⊢
        generalize wa.heap.size = B2
        have HZB := Lib.hid (hkb.block HZA.out)
        have HKB := Lib.hid (HKA.out.trans hkb)
        have HAB := Lib.hid (show A < wb.heap.size by have := HA.out; have := hkb.size; omega)
        clear hkb HZA HKA
        have ca : wb.cell? ⟨A, 2, none⟩ = some (.slice oe ne ce) := by
          have := Cells.of_block HZB.out 2 (by rw [grw_len]; decide)
          simp only [grw, List.getElem_cons_succ, List.getElem_cons_zero] at this
          rw [HXV.out] at this
          exact this
        refine Stop.mk ?_
        go_wp2_with (refine stop_at (o := ⟨some 40, _, _, _, _, _⟩) ?_)
        refine Stop.mk ?_
        refine wpList_min rfl _ _ rfl ne 14 rfl rfl ?_
        refine wpList_slice_first rfl _ _ rfl tyE_x (by kernel_rfl) oe ne ce rfl (min ne 14) rfl (Nat.le_trans (Nat.min_le_left _ _) hce) ?_
        refine wpList_append_first rfl _ _ rfl tyE_x (by decide) pairV_len (l := s.gs[k].ext) (m := ne) (fun x _ u hu => by simp only [pairV, List.mem_cons, List.not_mem_nil, or_false] at hu; rcases hu with rfl | rfl <;> rfl) (by rw [← HXV.out]; exact HAT.out.ext.kept HKB.out) 14 (by decide) (some ⟨B2, 0, none⟩) (by simp) rfl (by rw [← HNE.out]; rfl) ?_
        intro ve wc hoe hkc
        obtain ⟨ov, cv, rfl⟩ := hoe.form
        obtain ⟨nx, hnx⟩ : ∃ n, n = (List.take 14 s.gs[k].ext).length := ⟨_, rfl⟩
        rw [← hnx] at hoe ⊢
        clear hnx
        have HOE := Lib.hid hoe
        have HKC := Lib.hid (HKB.out.trans hkc)
        have HZC := Lib.hid (hkc.block HZB.out)
        have HAC := Lib.hid (Nat.lt_of_lt_of_le HAB.out hkc.size)
        clear hoe hkc ca HZB HKB
        go_wp2_with (refine stop_at (o := ⟨none, .store _ _ _, _, _, _, _⟩) ?_)
        refine Stop.mk ?_
        refine wpList_set_cell rfl _ _ rfl size_extsT A 2 rfl (.slice ov nx cv) rfl rfl rfl (grw raw[k]) _ HZC.out (by rw [grw_len]; decide) ?_
        intro wd hwd
        have hbd : But (fun i => i = A) wc wd := But.wrote hwd rfl
        have HZD : Hid (wd.heap[A]? = some (.cells (grw (raw[k].1, raw[k].2.1, .slice ov nx cv)).toArray 37 (0, 0))) := Lib.hid hwd.blk
        have HBD : Hid (But (fun i => i = A) wr wd) := Lib.hid ((But.kept HKC.out).trans hbd)
        have HOD := Lib.hid (HOE.out.but hbd (fun i hi => .inl (by have := HAB.out; omega)))
        have hCA : C ≠ A := by have := HM.out; have := HRA.out.2.2.2.2.2.2.2; have := HA.out; omega
        have HCD := Lib.hid (HBD.out.blk (by exact hCA) HRA.out.2.2.2.1)
        clear hwd hbd HOE HZC HKC
        have c2 : wd.cell? ⟨C, 2, none⟩ = some sgk := (stv_cells (Cells.of_block HCD.out)).2.2.1
        obtain ⟨ok, ck, rfl⟩ := HRA.out.2.1.form
        go_wp2_with (refine stop_at (o := ⟨some 46, _, _, _, _, _⟩) ?_)
        refine Stop.mk ?_
        refine wpList_load_agg rfl _ rfl agT_grp A 0 rfl (grw (raw[k].1, raw[k].2.1, .slice ov nx cv)) (Cells.of_block HZD.out) (grw_len _) ?_
        refine wpList_one_agg rfl _ rfl tyE_g (by decide) (grw (raw[k].1, raw[k].2.1, .slice ov nx cv)) (grw_len _) rfl ?_
        intro we hze hse hke
        obtain ⟨D, hD⟩ : ∃ D, D = wd.heap.size := ⟨_, rfl⟩
        rw [← hD] at hze ⊢
        have hke2 : Kept wr we := But.to_kept (Kept.refl wr) (HBD.out.keep hke) (fun i hi => by have := HA.out; omega)
        have HKE := Lib.hid hke2
        have HOE := Lib.hid (HOD.out.kept hke)
        clear hke hke2 hD hse HZD HOD HCD HBD c2
        have hgi : GI M1 C we (.slice ok raw'.length ck) raw' ((s.gs.take k).map cutG) := HRA.out.2.1.but (But.kept HKE.out)
        have HGI := Lib.hid hgi
        have hown : ∀ g, (Value.slice ok raw'.length ck).ownBlock = some g → g < A := fun g hg => by have := own_lt HRA.out.2.1.own hg; have := HA.out; omega
        have hCA2 : C < A := by have := HM.out; have := HRA.out.2.2.2.2.2.2.2; have := HA.out; omega
        have hyy : ∀ W', But (fun i => i < M1 ∨ (Value.slice ok raw'.length ck).ownBlock = some i) we W' → GRel W' (raw[k].1, raw[k].2.1, .slice ov nx cv) (cutG s.gs[k]) := fun W' hb => by
          refine ⟨HAT.out.id, HAT.out.kind, (HOE.out.but hb (fun i hi => .inl ?_)).rsl pairV_len, ?_⟩
          · have := HAB.out; have := HRA.out.2.2.2.2.2.2.2; have := HA.out
            rcases hi with hi | hi
            · omega
            · have := hown i hi; omega
          · show (List.take 14 s.gs[k].ext).length ≤ 4096
            rw [List.length_take]; omega
        refine wpList_append_grp rfl _ _ rfl raw' ((s.gs.take k).map cutG) rfl HGI.out (by have := HRA.out.1; omega) D rfl (raw[k].1, raw[k].2.1, .slice ov nx cv) (cutG s.gs[k]) hyy (by have := HKE.out.size; have := HA.out; omega) (Nat.le_trans HRA.out.2.2.2.2.2.2.2 HKE.out.size) hze.out ?_
        intro vg wf hgf hbf
        clear hyy hgi hze
        obtain ⟨of, cf, rfl⟩ := hgf.form
        obtain ⟨nf, hnf⟩ : ∃ n, n = (raw' ++ [(raw[k].1, raw[k].2.1, Value.slice ov nx cv)]).length := ⟨_, rfl⟩
        rw [← hnf] at hgf ⊢
        clear hnf
        have hfr := HRA.out.2.1.fresh
        have HCF : Hid (wf.heap[C]? = _) := Lib.hid (hbf.blk (by show ¬ _ = some C; intro e; exact (hfr C e).2 rfl) (HKE.out.block HRA.out.2.2.2.1))
        have HGF := Lib.hid hgf
        have HBF := Lib.hid hbf
        clear hgf hbf hfr
        go_wp2_with (refine stop_at (o := ⟨none, .store _ _ _, _, _, _, _⟩) ?_)
        refine Stop.mk ?_
        refine wpList_set_cell rfl _ _ rfl size_grpsT C 2 rfl (.slice of nf cf) rfl rfl rfl (stC s (.slice om' nm cm') (.slice ok raw'.length ck) (.slice op s.mp.length cp) (.slice od s.dirty.length cd)) _ HCF.out (by rw [stC_len HH.out.plug]; decide) ?_
        intro wg hwg
        have hbg2 : But (fun i => i = C) wf wg := But.wrote hwg rfl
        have hfr := HRA.out.2.1.fresh
        have HGG := Lib.hid (HGF.out.but (hbg2.mono (fun i hi => by have := HM.out; omega)))
        have HCG2 : Hid (wg.heap[C]? = some (.cells (stC s (.slice om' nm cm') (.slice of nf cf) (.slice op s.mp.length cp) (.slice od s.dirty.length cd)).toArray 31 (0, 0))) := Lib.hid hwg.blk
        have hball : But (fun i => i = C ∨ (Value.slice ok raw'.length ck).ownBlock = some i) wr wg := ((But.kept HKE.out).trans (HBF.out.mono (fun i hi => .inr hi))).trans (hbg2.mono (fun i hi => .inl hi))
        have HM' := HM.out
        have HOMg := Lib.hid (HRA.out.2.2.1.but hball (fun i hi => by
          rcases hi with hi | hi
          · exact .inl (by omega)
          · exact .inr (hfr i hi).1))
        have hnR : ¬ (R = C ∨ (Value.slice ok raw'.length ck).ownBlock = some R) := fun hi => by
          rcases hi with hi | hi
          · omega
          · have := (hfr R hi).1; omega
        have hnX : ¬ (X = C ∨ (Value.slice ok raw'.length ck).ownBlock = some X) := fun hi => by
          rcases hi with hi | hi
          · omega
          · have := (hfr X hi).1; omega
        have HRg := Lib.hid (hball.blk hnR HRA.out.2.2.2.2.1)
        have HXg := Lib.hid (show Cells wg X 0 (stC s (.slice om s.ms.length cm) (.slice (some ⟨bg, offg, none⟩) raw.length cg) (.slice op s.mp.length cp) (.slice od s.dirty.length cd)) from fun j hj => hball.cell (p := ⟨X, 0 + j, none⟩) hnX (HRA.out.2.2.2.2.2.1 j hj))
        have HKg := Lib.hid (But.to_kept HRA.out.2.2.2.2.2.2.1 hball (fun i hi => by
          have := HXE.out
          rcases hi with hi | hi
          · omega
          · have := (hfr i hi).1; omega))
        have HMg := Lib.hid (Nat.le_trans HRA.out.2.2.2.2.2.2.2 hball.size)
        have htk : (s.gs.take (k + 1)).map cutG = (s.gs.take k).map cutG ++ [cutG s.gs[k]] := by
          rw [List.take_add_one, List.getElem?_eq_getElem hkg, List.map_append]; rfl
        have HTK := Lib.hid htk
        clear hwg hbg2 hball hnR hnX hfr htk HM' HGI
        go_wp2
        go_roundw
        case rel => exact ⟨k + 1, raw' ++ [(raw[k].1, raw[k].2.1, Value.slice ov nx cv)], .slice of nf cf, by omega, by omega, by go_num, Lib.hid ⟨by rw [List.length_append, HRA.out.1]; rfl, by rw [HTK.out]; exact HGG.out, HOMg.out, HCG2.out, HRg.out, HXg.out, HKg.out, HMg.out⟩⟩
        case measure => simp [intOf]; omega
    · obtain ⟨ok, ck, rfl⟩ := HR.out.2.1.form
      have hT : (s.gs.take k).map cutG = (s.gs.take 26).map cutG := by
        have hl := HH.out.len
        by_cases h1 : k < 26
        · rw [List.take_of_length_le (show s.gs.length ≤ k by omega), List.take_of_length_le (show s.gs.length ≤ 26 by omega)]
        · rw [show k = 26 by omega]
      have hor : ¬ k < raw.length ∨ (k < raw.length ∧ ¬ k < 26) := by omega
      have HGI : Hid (GI M1 C wr (.slice ok raw'.length ck) raw' ((s.gs.take 26).map cutG)) := Lib.hid (by rw [← hT]; exact HR.out.2.1)
      have HRA := Lib.hid HR.out
      clear hT c2 hlt HR HZ7 HX7 HR7 HOM7 HK7 HI7 HM7
      rcases hor with h1 | ⟨h1, h2⟩
      all_goals
        go_wp2_with (refine stop_at (o := ⟨some 51, _, _, _, _, _⟩) ?_)
        have hka := (Kept.refl wr).alloc (Obj.cells #[] 41)
        generalize wr.alloc (Obj.cells #[] 41) = wa at hka ⊢
        generalize wr.heap.size = B3
        have HKA := Lib.hid hka
        have x3 : wa.cell? ⟨X, 3, none⟩ = some (.slice op s.mp.length cp) := (stv_cells (HRA.out.2.2.2.2.2.1.kept hka)).2.2.2.1
        clear hka x2
        refine Stop.mk ?_
        go_wp2_with (refine stop_at (o := ⟨some 56, _, _, _, _, _⟩) ?_)
        refine Stop.mk ?_
        refine wpList_min rfl _ _ rfl s.mp.length 100 rfl rfl ?_
        refine wpList_slice_first rfl _ _ rfl tyE_w (by kernel_rfl) op s.mp.length cp rfl (min s.mp.length 100) rfl (Nat.le_trans (Nat.min_le_left _ _) hcp) ?_
        refine wpList_append_first rfl _ _ rfl tyE_w (by decide) trip_len (fun x _ u hu => by simp only [trip, List.mem_cons, List.not_mem_nil, or_false] at hu; rcases hu with rfl | rfl | rfl <;> rfl) (HIr.out.mp.kept HKA.out) 100 (by decide) (some ⟨B3, 0, none⟩) (by simp) rfl rfl ?_
        intro vp wb hop hkb
        obtain ⟨op', cp', rfl⟩ := hop.form
        obtain ⟨np, hnp⟩ : ∃ n, n = (List.take 100 s.mp).length := ⟨_, rfl⟩
        rw [← hnp] at hop ⊢
        clear hnp x3
        have hkb2 := HKA.out.trans hkb
        have hsz := HKA.out.size
        obtain ⟨P0, hP0⟩ : ∃ P, P = wa.heap.size := ⟨_, rfl⟩
        obtain ⟨P1, hP1⟩ : ∃ P, P = wb.heap.size := ⟨_, rfl⟩
        have hsz2 := hkb.size
        rw [← hP0, ← hP1] at hop hsz2
        rw [← hP0] at hsz
        have HP := Lib.hid (show M1 ≤ P0 ∧ P0 ≤ P1 ∧ wr.heap.size ≤ P0 from ⟨Nat.le_trans HRA.out.2.2.2.2.2.2.2 hsz, hsz2, hsz⟩)
        have HOP := Lib.hid hop
        have HKB := Lib.hid hkb2
        have HCB := Lib.hid (hkb2.block HRA.out.2.2.2.1)
        have HPB := Lib.hid (show P1 = wb.heap.size from hP1)
        clear hop hkb hkb2 hsz hsz2 hP0 hP1 HKA
        go_wp2_with (refine stop_at (o := ⟨none, .store _ _ _, _, _, _, _⟩) ?_)
        refine Stop.mk ?_
        refine wpList_set_cell rfl _ _ rfl size_whrsT C 3 rfl (.slice op' np cp') rfl rfl rfl (stC s (.slice om' nm cm') (.slice ok raw'.length ck) (.slice op s.mp.length cp) (.slice od s.dirty.length cd)) _ HCB.out (by rw [stC_len HH.out.plug]; decide) ?_
        intro wc hwc
        have hbc : But (fun i => i = C) wb wc := But.wrote hwc rfl
        have HCC : Hid (wc.heap[C]? = some (.cells (stC s (.slice om' nm cm') (.slice ok raw'.length ck) (.slice op' np cp') (.slice od s.dirty.length cd)).toArray 31 (0, 0))) := Lib.hid hwc.blk
        have HOPc := Lib.hid (HOP.out.but hbc (fun i hi => .inl (by have := HM.out; have := HP.out; omega)))
        have HBC : Hid (But (fun i => i = C) wr wc) := Lib.hid ((But.kept HKB.out).trans hbc)
        have HPC := Lib.hid (show P1 ≤ wc.heap.size by have := hbc.size; have := HPB.out; omega)
        clear hwc hbc HCB HOP HKB HPB
        go_wp2_with (refine stop_at (o := ⟨some 61, _, _, _, _, _⟩) ?_)
        have hka := (Kept.refl wc).alloc (Obj.cells #[] 3)
        generalize wc.alloc (Obj.cells #[] 3) = wd at hka ⊢
        generalize wc.heap.size = B4
        have hbd : But (fun i => i = C) wr wd := HBC.out.keep hka
        have hXC : ¬ X = C := by have := HM.out; omega
        have hkd : Kept w wd := But.to_kept HRA.out.2.2.2.2.2.2.1 hbd (fun i hi => by have := HXE.out; have := HM.out; omega)
        have x4 : wd.cell? ⟨X, 4, none⟩ = some (.slice od s.dirty.length cd) := (stv_cells (show Cells wd X 0 (stC s (.slice om s.ms.length cm) (.slice og raw.length cg) (.slice op s.mp.length cp) (.slice od s.dirty.length cd)) from fun j hj => hbd.cell (p := ⟨X, 0 + j, none⟩) hXC (HRA.out.2.2.2.2.2.1 j hj))).2.2.2.2
        have HBD := Lib.hid hbd
        have HCD := Lib.hid (hka.block HCC.out)
        have HOPd := Lib.hid (HOPc.out.kept hka)
        have HID := Lib.hid (HH.out.kept hkd)
        have HPD := Lib.hid (Nat.le_trans HPC.out hka.size)
        clear hka hbd hkd hXC HCC HOPc HBC HPC
        refine Stop.mk ?_
        go_wp2_with (refine stop_at (o := ⟨some 66, _, _, _, _, _⟩) ?_)
        refine Stop.mk ?_
        refine wpList_min rfl _ _ rfl s.dirty.length 30 rfl rfl ?_
        refine wpList_slice_first rfl _ _ rfl tyE_i (by kernel_rfl) od s.dirty.length cd rfl (min s.dirty.length 30) rfl (Nat.le_trans (Nat.min_le_left _ _) hcd) ?_
        refine wpList_append_first rfl _ _ rfl tyE_i (by decide) oneV_len (fun x _ u hu => by simp only [oneV, List.mem_cons, List.not_mem_nil, or_false] at hu; subst hu; rfl) HID.out.dirty 30 (by decide) (some ⟨B4, 0, none⟩) (by simp) rfl rfl ?_
        intro vd we hod hke
        obtain ⟨od', cd', rfl⟩ := hod.form
        obtain ⟨nd, hnd⟩ : ∃ n, n = (List.take 30 s.dirty).length := ⟨_, rfl⟩
        rw [← hnd] at hod ⊢
        clear hnd x4
        have HBE : Hid (But (fun i => i = C) wr we) := Lib.hid (HBD.out.keep hke)
        have HCE := Lib.hid (hke.block HCD.out)
        have HOPe := Lib.hid (HOPd.out.kept hke)
        have HOD := Lib.hid hod
        have HPE := Lib.hid (show P1 ≤ wd.heap.size from HPD.out)
        clear hod hke HBD HCD HOPd HID HPD
        go_wp2_with (refine stop_at (o := ⟨none, .store _ _ _, _, _, _, _⟩) ?_)
        refine Stop.mk ?_
        refine wpList_set_cell rfl _ _ rfl size_intsT C 4 rfl (.slice od' nd cd') rfl rfl rfl (stC s (.slice om' nm cm') (.slice ok raw'.length ck) (.slice op' np cp') (.slice od s.dirty.length cd)) _ HCE.out (by rw [stC_len HH.out.plug]; decide) ?_
        intro wf hwf
        have hbf : But (fun i => i = C) we wf := But.wrote hwf rfl
        have HCF : Hid (wf.heap[C]? = some (.cells (stC s (.slice om' nm cm') (.slice ok raw'.length ck) (.slice op' np cp') (.slice od' nd cd')).toArray 31 (0, 0))) := Lib.hid hwf.blk
        have HBF := Lib.hid (HBE.out.trans hbf)
        have HOPf := Lib.hid (HOPe.out.but hbf (fun i hi => .inl (by have := HM.out; have := HP.out; omega)))
        have HODf := Lib.hid (HOD.out.but hbf (fun i hi => .inl (by have := HM.out; have := HP.out; have := HPE.out; omega)))
        have HRF := Lib.hid (HBF.out.blk (by show ¬ R = C; have := HM.out; omega) HRA.out.2.2.2.2.1)
        clear hwf hbf HCE HBE HOPe HOD
        have HLF := Lib.hid (stC_len (s := cutS s) HH.out.plug (.slice om' nm cm') (.slice ok raw'.length ck) (.slice op' np cp') (.slice od' nd cd'))
        have HOF := Lib.hid (stC_one (s := cutS s) (sm := .slice om' nm cm') (sg := .slice ok raw'.length ck) (sp := .slice op' np cp') (sd := .slice od' nd cd') rfl rfl rfl rfl)
        go_wp2_with (refine stop_at (o := ⟨some 70, _, _, _, _, _⟩) ?_)
        refine Stop.mk ?_
        refine wpList_load_agg rfl _ rfl agT_state C 0 rfl (stC (cutS s) (.slice om' nm cm') (.slice ok raw'.length ck) (.slice op' np cp') (.slice od' nd cd')) (Cells.of_block HCF.out) HLF.out ?_
        refine wpList_store_agg rfl _ _ rfl agT_state R 0 rfl _ rfl HLF.out HOF.out _ _ HRF.out (by show 0 + 136 ≤ (stv 0 nilS nilS nilS nilS (plv zeroPlg)).length; decide) ?_
        intro wg hwg
        replace hwg := hwg.all (by rw [HLF.out]; decide)
        have HWG := Lib.hid hwg
        have hbg : But (fun i => i = C ∨ i = R) wr wg := (HBF.out.mono (S' := fun i => i = C ∨ i = R) (fun i hi => .inl hi)).trans ((But.wrote (S := fun i => i = R) hwg rfl).mono (fun i hi => .inr hi))
        have hbfg : But (fun i => i = R) wf wg := But.wrote hwg rfl
        have hm := HM.out
        have hp := HP.out
        have HXW := HXE.out
        have HST : Hid (∀ W', But (fun i => i < w.heap.size) wg W' → StM W' (cutS s) (.slice om' nm cm') (.slice ok raw'.length ck) (.slice op' np cp') (.slice od' nd cd') raw') := Lib.hid (by
          intro W' hW
          have hbW : But (fun i => i ≤ C) wr W' := (hbg.mono (S' := fun i => i ≤ C) (fun i hi => by rcases hi with hi | hi <;> omega)).trans (hW.mono (fun i hi => by omega))
          have hbfW : But (fun i => i ≤ C) wf W' := (hbfg.mono (S' := fun i => i ≤ C) (fun i hi => by omega)).trans (hW.mono (fun i hi => by omega))
          have hGI := HGI.out.but (hbW.mono (fun i hi => by omega))
          refine ⟨(HRA.out.2.2.1.but hbW (fun i hi => .inl (by omega))).rsl trip_len, hGI.rsl, hGI.rel W' (But.refl _ _),
            (HOPf.out.but hbfW (fun i hi => .inl (by omega))).rsl trip_len, (HODf.out.but hbfW (fun i hi => .inl (by have := HPE.out; omega))).rsl oneV_len, HH.out.plug, ?_, ?_, ?_, ?_⟩
          · show (s.ms.take 14).length ≤ 4096; rw [List.length_take]; omega
          · show ((s.gs.take 26).map cutG).length ≤ 4096; rw [List.length_map, List.length_take]; omega
          · show (s.mp.take 100).length ≤ 4096; rw [List.length_take]; omega
          · show (s.dirty.take 30).length ≤ 4096; rw [List.length_take]; omega)
        have HKG := Lib.hid (But.to_kept HRA.out.2.2.2.2.2.2.1 hbg (fun i hi => by have := HXE.out; rcases hi with hi | hi <;> omega))
        clear hwg hbg hbfg hm hp HXW
        go_wp2
        try simp only [Exit.inBlock, Exit.then]
        refine bodyPost_ret (results_state rfl _ _ R _ rfl HWG.out.cells HLF.out) rfl ?_
        exact ⟨_, _, _, _, raw', rfl, HST.out, HKG.out⟩
end Go.Proofs.YtiijfocdjcjlaaaGreat
