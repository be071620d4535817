/- The law's own helpers: plain, shown, cut. -/
import Derived.Test.YtcbghpcohbgcjaaLabD
namespace Go.Proofs.Ytcbghpcohbgcjaa
open Go.RowKit
set_option linter.unusedVariables false
set_option linter.unusedSimpArgs false

section
variable {P : Program} {ops : Array Oper} {rest : List Oper} {o o1 o2 : Oper} {a : Act} {w : World} {Q : Exit → Act → World → Prop}
/-- 'var x T = y': made and set in one. -/
theorem wpList_new_agg (hg1 : o1.guard = none) (hg2 : o2.guard = none) {T n : Nat} (x y : Operand) (ho1 : o1.op = .alloc T) (ho2 : o2.op = .store T x y) (hT : AggT P T n)
    (zs : List Value) (hz : ∀ w, (zeroValue T).run P w = .ok (.agg zs.toArray) w) (hzl : zs.length = n)
    (xs : List Value) (hy : (a.put o1.dst (.pointer (some ⟨w.heap.size, 0, none⟩))).eval y = .agg xs.toArray) (hl : xs.length = n) (h1 : ∀ v ∈ xs, v.oneCell' = true)
    (hx : (a.put o1.dst (.pointer (some ⟨w.heap.size, 0, none⟩))).eval x = .pointer (some ⟨w.heap.size, 0, none⟩))
    (h : ∀ w1, Hid (w1.heap[w.heap.size]? = some (.cells xs.toArray T (0, 0))) → w.heap.size < w1.heap.size → Kept w w1 → wpList P ops Q rest ((a.put o1.dst (.pointer (some ⟨w.heap.size, 0, none⟩))).put o2.dst undef) w1) : wpList P ops Q (o1 :: o2 :: rest) a w := by
  refine wpList_alloc_abs hg1 T ho1 zs hz ?_
  intro w1 hz1 hs1 hn1 hk1
  refine wpList_store_agg hg2 x y ho2 hT w.heap.size 0 hx xs hy hl h1 zs T hz1.out (by omega) ?_
  intro w2 hw2
  replace hw2 := hw2.all (by omega)
  exact h w2 (Lib.hid hw2.blk) (by rw [hw2.size]; exact hs1) (hw2.kept hk1 (Nat.le_refl _))
/-- 'T{}' -/
theorem wpList_build_zero (hgd : o.guard = none) {T : Nat} (ho : o.op = .build T #[]) (v : Value) (hr : ∀ w, (Instr.build T #[]).run P w = .ok v w)
    (h : wpList P ops Q rest (a.put o.dst v) w) : wpList P ops Q (o :: rest) a w := by
  refine wpList_plain hgd fun K hK => ?_
  unfold Oper.wp execOp
  simp only [ho, List.map_toArray, List.map_nil, Sem.run_bind, hr, Result.andThen_ok, Sem.run_pure]
  exact hK _ _ h
/-- One cell is set; the world a letter. -/
theorem wpList_store_one (hgd : o.guard = none) {T : Nat} (x y : Operand) (ho : o.op = .store T x y) (hT : (P.info? T).map (·.size) = some 1)
    (b off : Nat) (hx : a.eval x = .pointer (some ⟨b, off, none⟩)) (v : Value) (hy : a.eval y = v) (hv : v.cells = #[v]) (h1 : v.oneCell' = true)
    (cur : List Value) (t : TypeId) (hb : w.heap[b]? = some (.cells cur.toArray t (0, 0))) (hfit : off + 1 ≤ cur.length)
    (h : ∀ w1, Wrote w w1 b (splice cur off [v]) t → wpList P ops Q rest (a.put o.dst undef) w1) : wpList P ops Q (o :: rest) a w := by
  refine wpList_plain hgd fun K hK => ?_
  have hst := run_storeCells_at P b off t [v] 0 cur.toArray w hb (by simpa using hfit) (by simpa using h1)
  cases hq : P.info? T with
  | none => simp [hq] at hT
  | some i =>
    have hi : i.size = 1 := by simpa [hq] using hT
    unfold Oper.wp execOp
    simp only [ho, hx, hy, Instr.storeAt, Instr.sureAddr, Sem.run_bind, Sem.run_pure, Result.andThen_ok, storeVar, sizeOf, typeInfo, run_program, hq, hv, hi, List.size_toArray, List.length_cons, List.length_nil, Nat.zero_add, ne_eq, not_true_eq_false, if_false, show (#[v] : Array Value).size = 1 from rfl, show (#[v] : Array Value) = [v].toArray from rfl, hst]
    refine hK _ _ (h _ ⟨?_, ?_, ?_, rfl, rfl, rfl⟩)
    · rw [setRow_heap w b _ _ t _ hb]
      simp [splice]
    · intro k hk; exact setRow_other w b k _ hk
    · simp
end
theorem MSl.form {w : World} {v : Value} {ms : List Mem} (h : MSl w v ms) : ∃ oa cap, v = .slice oa ms.length cap := by
  rcases h with ⟨rfl, rfl⟩ | ⟨b, off, cap, rfl, _⟩
  · exact ⟨_, _, rfl⟩
  · exact ⟨_, _, rfl⟩
theorem zero_lab : ∀ w, (zeroValue 71).run Try.prog w = .ok (.agg [Value.int .i64 0, .int .i64 0, .int .i64 0, .int .i64 0, .slice none 0 0].toArray) w := fun w => by
  have h1 : (Try.prog.info? 71).map (·.zero) = some (some (.agg [Value.int .i64 0, .int .i64 0, .int .i64 0, .int .i64 0, .slice none 0 0].toArray)) := by kernel_rfl
  cases hi : Try.prog.info? 71 with
  | none => simp [hi] at h1
  | some i =>
    have hz : i.zero = some (.agg [Value.int .i64 0, .int .i64 0, .int .i64 0, .int .i64 0, .slice none 0 0].toArray) := by simpa [hi] using h1
    simp [zeroValue, typeInfo, hi, hz]
theorem label_Of_yes (bs : List Int) (w : World) (hb : ∀ x ∈ bs, IsByte x) (hl : bs.length = 64) (hok : ofOk bs = true) :
    Calls Try.prog 77 #[secV bs] w fun e w' => ∃ sl, e = .returned (.tuple #[(parse bs).val sl, .int .i64 0]) ∧ MSl w' sl (parse bs).ms ∧ Kept w w' :=
  (label_Of bs w hb hl).mono fun e w' ⟨hk, h⟩ => by
    rcases h with ⟨_, sl, he, hm⟩ | ⟨hf, _⟩
    · exact ⟨sl, he, hm, hk⟩
    · rw [hok] at hf; cases hf
theorem label_Of_bad (bs : List Int) (w : World) (hb : ∀ x ∈ bs, IsByte x) (hl : bs.length = 64) (hok : ofOk bs = false) :
    Calls Try.prog 77 #[secV bs] w fun e w' => e = .returned (.tuple #[Lab.zero.val (.slice none 0 0), .int .i64 2]) ∧ Kept w w' :=
  (label_Of bs w hb hl).mono fun e w' ⟨hk, h⟩ => by
    rcases h with ⟨hf, _⟩ | ⟨_, he⟩
    · rw [hok] at hf; cases hf
    · exact ⟨he, hk⟩

/-- a function whose result is a label's variable -/
theorem results_lab1 {fn : Func} {p : Tmp} (h : fn.results = #[.cell p 71]) (tmps : Array Value) (w : World) (b : Nat) (l : Lab) (sl : Value)
    (hp : tmps.getD p undef = .pointer (some ⟨b, 0, none⟩)) (hc : Cells w b 0 [.int .i64 l.array, .int .i64 l.gen, .int .i64 l.member, .int .i64 l.blocks, sl]) :
    (results fn tmps).run Try.prog w = .ok (l.val sl) w := by
  have hp' : tmps[p]?.getD undef = .pointer (some ⟨b, 0, none⟩) := by simpa using hp
  have hd : ∃ d, Try.prog.underlying 71 = some d ∧ d.isRow = true := ⟨_, Try.underlying71, rfl⟩
  obtain ⟨d, hd1, hd2⟩ := hd
  have hr := run_loadVar_mid (P := Try.prog) w b 0 71 _ d (rangeAt_of_cells hc) hd1 hd2 (by kernel_rfl)
  simp [results, h, hp', asAddr, hr, Lab.val]

def plainMs : List Mem := [⟨0, 200, 0⟩, ⟨1, 300, 0⟩, ⟨2, 160, 2⟩]
def plainL (gen member : Int) : Lab := ⟨9, gen, member, 16, plainMs⟩

attribute [local go_sem ↓] Go.wp_at_zero Go.wp_at_succ
set_option maxHeartbeats 1000000 in
set_option maxRecDepth 100000 in
theorem law_plain (gen member : Int) (w : World) :
    Calls Try.prog 42 #[.int .i64 gen, .int .i64 member] w fun e w' => ∃ sl, e = .returned ((plainL gen member).val sl) ∧ MSl w' sl plainMs ∧ Kept w w' := by
  go_enter Try.func42, Try.ntmps42
  go_wp2_with (refine wpList_store_agg rfl _ _ rfl ty_lab w.heap.size 0 rfl [.int .i64 9, .int .i64 gen, .int .i64 member, .int .i64 16, .slice (some ⟨w.heap.size + 1, 0, none⟩) 3 3] rfl rfl (lab_one (plainL gen member) _ rfl) [.int .i64 0, .int .i64 0, .int .i64 0, .int .i64 0, .slice none 0 0] 71 (((Kept.refl _).alloc _).block (heap_alloc_new w _)) (by decide) ?_; intro w1 hw1)
  replace hw1 := hw1.all rfl
  refine bodyPost_ret (results_lab1 rfl _ _ w.heap.size (plainL gen member) (.slice (some ⟨w.heap.size + 1, 0, none⟩) 3 3) rfl hw1.cells) rfl ?_
  refine ⟨_, rfl, .inr ⟨w.heap.size + 1, 0, 3, rfl, ?_⟩, hw1.kept (((Kept.refl _).alloc _).alloc _) (by omega)⟩
  refine MRow.of_cells ?_
  have h2 := heap_alloc_new (w.alloc (Obj.cells #[.int .i64 0, .int .i64 0, .int .i64 0, .int .i64 0, .slice none 0 0] 71)) (Obj.cells (mvals plainMs).toArray 122)
  rw [World.size_alloc] at h2
  exact Cells.of_block (by rw [hw1.oth (w.heap.size + 1) (by omega)]; exact h2)

theorem plain_right : rightB (plainL 1 1) = true := by decide
theorem plain_sec : ∀ x ∈ (plainL 1 1).sec, IsByte x := by simp only [IsByte]; decide
theorem plain_back : parse (plainL 1 1).sec = plainL 1 1 := by rfl
theorem plain_ok : ofOk (plainL 1 1).sec = true := by decide
theorem zero_no : ofOk zeroB = false := by decide

def Lab.vals (l : Lab) (sl : Value) : List Value := [.int .i64 l.array, .int .i64 l.gen, .int .i64 l.member, .int .i64 l.blocks, sl]
theorem build_sec (W : World) : (Instr.build 36 #[]).run Try.prog W = .ok (secV zeroB) W := run_build W 36 #[] (u8s zeroB).toArray (by kernel_rfl)
theorem zero_bytes : ∀ x ∈ zeroB, IsByte x := by simp only [IsByte]; decide

theorem shown_facts {w2 w3 w4 w5 w6 w7 : World} {r : List Int} {mb mo mc : Nat} (hz3 : Hid (w3.heap[w2.heap.size]? = some (.cells (u8s (66 :: 87 :: r)).toArray 36 (0, 0)))) (hk4 : Kept w3 w4)
    (hr4 : MRow w4 mb mo (plainL 1 1).ms) (hz5 : Hid (w5.heap[w4.heap.size]? = some (.cells (Lab.vals (plainL 1 1) (.slice (some ⟨mb, mo, none⟩) 3 mc)).toArray 71 (0, 0)))) (hk5 : Kept w4 w5) (hk6 : Kept w5 w6) (hk7 : Kept w6 w7) :
    Hid (Cells w7 w4.heap.size 0 (Lab.vals (plainL 1 1) (.slice (some ⟨mb, mo, none⟩) 3 mc))) ∧ Hid (MRow w7 mb mo plainMs) ∧ w7.cell? ⟨w2.heap.size, 0, none⟩ = some (.int .u8 66) ∧ w7.cell? ⟨w2.heap.size, 1, none⟩ = some (.int .u8 87) ∧
    w7.cell? ⟨w4.heap.size, 1, none⟩ = some (.int .i64 1) ∧ w7.cell? ⟨w4.heap.size, 4, none⟩ = some (.slice (some ⟨mb, mo, none⟩) 3 mc) ∧ w7.cell? ⟨mb, mo + 7, none⟩ = some (.int .i64 160) ∧ w7.cell? ⟨mb, mo + 6 + 1, none⟩ = some (.int .i64 160) := by
  have K57 := hk6.trans hk7
  have K47 := hk5.trans K57
  have K37 := hk4.trans K47
  have h3 := Cells.kept (Cells.of_block hz3.out) K37
  have h5 := Cells.kept (Cells.of_block hz5.out) K57
  have hm := K47.cell' (hr4 2 (by simp [plainL, plainMs])).2.1
  exact ⟨Lib.hid h5, Lib.hid (hr4.kept K47), h3 0 (by simp [u8s_length]), h3 1 (by simp [u8s_length]), h5 1 (by simp [Lab.vals]), h5 4 (by simp [Lab.vals]), hm, hm⟩

set_option maxHeartbeats 400000 in
set_option maxRecDepth 100000 in
theorem law_shown (w : World) : Calls Try.prog 39 #[] w fun e w' => e = .returned (.bool true) ∧ Kept w w' := by
  have hPl := law_plain 1 1
  have hPut := fun sl (W : World) (hm : MSl W sl plainMs) => label_Put_ok (plainL 1 1) sl W hm plain_right
  have hOf := fun (W : World) => label_Of_yes (plainL 1 1).sec W plain_sec (Lab.sec_length _ (by decide)) plain_ok
  have hZ := fun (W : World) => label_Of_bad zeroB W zero_bytes zeroB_length zero_no
  have hR := fun sl (W : World) (hm : MSl W sl plainMs) => label_Right (plainL 1 1) sl W (by decide) hm
  have hcv := fun (W : World) b => conv2 W b 64 66 87
  rw [plain_right] at hR
  rw [plain_back] at hOf
  have hsl := Lab.sec_length (plainL 1 1) (by decide)
  have hsh : ∃ r, (plainL 1 1).sec = 66 :: 87 :: r := ⟨_, rfl⟩
  have HPut := Lib.hid hPut; clear hPut
  have HOf := Lib.hid hOf; clear hOf
  have HSL := Lib.hid hsl; clear hsl
  generalize (plainL 1 1).sec = sec at *
  obtain ⟨r, rfl⟩ := hsh
  go_enter Try.func39, Try.ntmps39
  go_wp2_with (first
    | (go_at_call 42; refine (hPl _).mono ?_; rintro e w1 ⟨sl, rfl, hm1, hk1⟩; have q1 := hk1.q)
    | (go_at_call 43; refine (HPut.out sl _ hm1).mono ?_; rintro e w2 ⟨rfl, hk2⟩; have q2 := hk2.q)
    | (refine wpList_new_agg rfl rfl _ _ rfl rfl ty_sec (u8s zeroB) zero_sec (by simp [u8s_length, zeroB_length]) (u8s (66 :: 87 :: r)) rfl (by rw [u8s_length, HSL.out]) (u8s_one _) rfl ?_; intro w3 hz3 hs3 hk3; have q3 := hk3.q)
    | (refine wpList_load_agg rfl _ rfl ty_sec w2.heap.size 0 rfl (u8s (66 :: 87 :: r)) (by simpa using Cells.of_block hz3.out) (by rw [u8s_length, HSL.out]) ?_)
    | (go_at_call 77; refine (HOf.out _).mono ?_; rintro e w4 ⟨sl4, rfl, hm4, hk4⟩; obtain ⟨h, _⟩ | ⟨mb, mo, mc, rfl, hr4⟩ := hm4; (· exact absurd h (by simp [plainL, plainMs])); have q4 := hk4.q)
    | (refine wpList_new_agg rfl rfl _ _ rfl rfl ty_lab [.int .i64 0, .int .i64 0, .int .i64 0, .int .i64 0, .slice none 0 0] zero_lab rfl (Lab.vals (plainL 1 1) (.slice (some ⟨mb, mo, none⟩) 3 mc)) rfl rfl (lab_one _ _ rfl) rfl ?_; intro w5 hz5 hs5 hk5; have q5 := hk5.q; refine ?roundEnd))
  case roundEnd =>
  go_wp2_with (first
    | (refine wpList_build_zero rfl rfl (secV zeroB) build_sec ?_)
    | (go_at_call 77; refine (hZ _).mono ?_; rintro e w6 ⟨rfl, hk6⟩; have q6 := hk6.q)
    | (refine wpList_new_agg rfl rfl _ _ rfl rfl ty_lab [.int .i64 0, .int .i64 0, .int .i64 0, .int .i64 0, .slice none 0 0] zero_lab rfl (Lab.vals Lab.zero (.slice none 0 0)) rfl rfl (lab_one _ _ rfl) rfl ?_; intro w7 hz7 hs7 hk7
       obtain ⟨KL, hr7, c0, c1, d1, d4, m2, m3⟩ := shown_facts hz3 hk4 hr4 hz5 hk5 hk6 hk7
       clear q1 q2 q3 q4 q5 q6)
    | (refine wpList_load_aggW _ rfl ty_lab w4.heap.size 0 rfl (Lab.vals (plainL 1 1) (.slice (some ⟨mb, mo, none⟩) 3 mc)) KL.out rfl (by first | rfl | go_simp) ?_)
    | (go_at_call 78; refine (hR (.slice (some ⟨mb, mo, none⟩) 3 mc) _ (.inr ⟨mb, mo, mc, rfl, hr7.out⟩)).mono ?_; rintro e w8 ⟨rfl, hk8⟩))
  go_ret
  exact ⟨rfl, hk1.trans (hk2.trans (hk3.trans (hk4.trans (hk5.trans (hk6.trans (hk7.trans hk8))))))⟩

end Go.Proofs.Ytcbghpcohbgcjaa
