/- The document's SameMembers, Same (places), SameInts at one list; SameGroup (gen_sam.py). -/
import Derived.Test.YtiijfocdjcjlaaaGreatHla
import Derived.Laws.StructEq
import Derived.Deep.QuietTactic
import Derived.BigQuiet
namespace Go.Proofs.YtiijfocdjcjlaaaGreat
open Go.RowKit Go.ChangeMaps Go.MapKept
set_option linter.unusedVariables false
set_option linter.unusedSimpArgs false
set_option maxRecDepth 100000
set_option maxHeartbeats 1000000
theorem mbr_fields : (Tryz.prog.fieldsOf 56).toList.map (fun f => (f.name, f.type, f.offset)) = [("ID", 3, 0), ("Sectors", 3, 1), ("State", 3, 2)] := by kernel_rfl
theorem run_equal_mbr (w : World) (x y : Mb) : (Op.equalIn 10000 56 (.agg (trip x).toArray) (.agg (trip y).toArray)).run Tryz.prog w = .ok (x.1 == y.1 && (x.2.1 == y.2.1 && x.2.2 == y.2.2)) w := by
  obtain ⟨a, b, e⟩ := x; obtain ⟨c, d, e'⟩ := y
  have hr := run_equalIn_struct (P := Tryz.prog) w 9999 56 #[.int .i64 a, .int .i64 b, .int .i64 e] #[.int .i64 c, .int .i64 d, .int .i64 e'] (by kernel_rfl) (by kernel_rfl)
  simp only [trip]
  rw [hr]
  have hf := mbr_fields
  generalize (Tryz.prog.fieldsOf 56).toList = fs at hf ⊢
  rcases fs with _ | ⟨f, _ | ⟨g, _ | ⟨h, _ | ⟨i, fs⟩⟩⟩⟩
  · simp at hf
  · simp at hf
  · simp at hf
  · simp only [List.map_cons, List.map_nil, List.cons.injEq, Prod.mk.injEq, and_true] at hf
    obtain ⟨⟨f1, f2, f3⟩, ⟨g1, g2, g3⟩, h1, h2, h3⟩ := hf
    have hi : Tryz.prog.underlying 3 = some (.int .i64) := Tryz.underlying3
    have pa : ∀ (x y z : Int) (ww : World), (part 3 #[.int .i64 x, .int .i64 y, .int .i64 z] 0).run Tryz.prog ww = .ok (.int .i64 x) ww := fun x y z ww => by simp [part, isAgg, run_underlying hi]
    have pb : ∀ (x y z : Int) (ww : World), (part 3 #[.int .i64 x, .int .i64 y, .int .i64 z] 1).run Tryz.prog ww = .ok (.int .i64 y) ww := fun x y z ww => by simp [part, isAgg, run_underlying hi]
    have pc : ∀ (x y z : Int) (ww : World), (part 3 #[.int .i64 x, .int .i64 y, .int .i64 z] 2).run Tryz.prog ww = .ok (.int .i64 z) ww := fun x y z ww => by simp [part, isAgg, run_underlying hi]
    have pe : ∀ (x y : Int) (ww : World), (Op.equalIn 9999 3 (.int .i64 x) (.int .i64 y)).run Tryz.prog ww = .ok (x == y) ww := fun x y ww => run_equalIn_int ww 9998 3 .i64 .i64 x y hi
    simp only [Op.eqFields, f1, f2, f3, g1, g2, g3, h1, h2, h3, Sem.run_bind, pa, pb, pc, pe, Result.andThen_ok, Sem.run_ite, Sem.run_pure]
    cases (a == c) <;> cases (b == d) <;> cases (e == e') <;> simp
  · simp at hf
theorem eqg_mbr : Tryz.prog.eqGuardType Tryz.prog.depth 56 = false := by kernel_rfl
theorem eqg_extS : Tryz.prog.eqGuardType Tryz.prog.depth 39 = false := by kernel_rfl
theorem exec_neq_mbr {W : World} {a : Act} {o : Oper} (x y : Operand) {t' : TypeId} (ho : o.op = .binOp .neq 56 x y t') (p q : Mb) (hx : a.eval x = .agg (trip p).toArray) (hy : a.eval y = .agg (trip q).toArray) :
    (execOp a.eval o).run Tryz.prog W = .ok (.value (.bool (!(p == q)))) W := by
  have heq := run_equal_mbr W p q
  unfold execOp
  simp only [ho, hx, hy, Sem.run_bind]
  rw [run_eqGuard_agg _ _ _ _ _ _ _ eqg_mbr]
  simp only [Result.andThen_ok]
  rw [run_neq_struct, heq]
  simp only [Result.andThen_ok, Sem.run_pure]
  obtain ⟨a, b, c⟩ := p; obtain ⟨d, e, f⟩ := q
  rfl
theorem exec_neq_whr {W : World} {a : Act} {o : Oper} (x y : Operand) {t' : TypeId} (ho : o.op = .binOp .neq 41 x y t') (p q : Wh) (hx : a.eval x = .agg (trip p).toArray) (hy : a.eval y = .agg (trip q).toArray) :
    (execOp a.eval o).run Tryz.prog W = .ok (.value (.bool (!(p == q)))) W := by
  have heq := run_equal_whr W p q
  unfold execOp
  simp only [ho, hx, hy, Sem.run_bind]
  rw [run_eqGuard_agg _ _ _ _ _ _ _ eqg_whr]
  simp only [Result.andThen_ok]
  rw [run_neq_struct, heq]
  simp only [Result.andThen_ok, Sem.run_pure]
  obtain ⟨a, b, c⟩ := p; obtain ⟨d, e, f⟩ := q
  rfl
theorem exec_neq_ext {W : World} {a : Act} {o : Oper} (x y : Operand) {t' : TypeId} (ho : o.op = .binOp .neq 39 x y t') (p q : Ex) (hx : a.eval x = .agg (pairV p).toArray) (hy : a.eval y = .agg (pairV q).toArray) :
    (execOp a.eval o).run Tryz.prog W = .ok (.value (.bool (!(p == q)))) W := by
  have heq := run_equal_ext W p q
  unfold execOp
  simp only [ho, hx, hy, Sem.run_bind]
  rw [run_eqGuard_agg _ _ _ _ _ _ _ eqg_extS]
  simp only [Result.andThen_ok]
  rw [run_neq_struct, heq]
  simp only [Result.andThen_ok, Sem.run_pure]
  obtain ⟨a, b⟩ := p; obtain ⟨d, e⟩ := q
  rfl
theorem same_members (l : List Mb) (v1 v2 : Value) (w : World) (hlen : l.length ≤ 4096) (h1 : RSl trip 3 w v1 l) (h2 : RSl trip 3 w v2 l) :
    Calls Tryz.prog 38 #[v1, v2] w fun e w' => e = .returned (.bool true) ∧ Kept w w' := by
  obtain ⟨oa, ca, rfl, _⟩ := h1.form
  obtain ⟨ob, cb, rfl, _⟩ := h2.form
  have H1 := Lib.hid h1; have H2 := Lib.hid h2
  clear h1 h2
  have hnn : ((l.length : Int) != (l.length : Int)) = false := by simp
  go_enter Tryz.func38, Tryz.ntmps38
  go_wp2
  go_loopw [5] (fun iv wr => ∃ i : Nat, i ≤ l.length ∧ iv = .int .i64 (i : Int) ∧ Hid (Kept w wr)) (fun iv _ => l.length - (intOf iv).toNat)
  case atStart => exact ⟨0, Nat.zero_le _, rfl, Lib.hid (Kept.refl _)⟩
  case round =>
    obtain ⟨i, hi, rfl, HK⟩ := hrel
    by_cases hlt : i < l.length
    · obtain ⟨ba, offa, rfl, _, ha⟩ := (H1.out.kept HK.out).at hlt
      obtain ⟨bb, offb, rfl, _, hb⟩ := (H2.out.kept HK.out).at hlt
      obtain ⟨x, hx⟩ : ∃ x, x = l[i]'hlt := ⟨_, rfl⟩
      rw [← hx] at ha hb
      have a0 := ha 0 (by rw [trip_len]; decide)
      have b0 := hb 0 (by rw [trip_len]; decide)
      have a1 := ha 1 (by rw [trip_len]; decide)
      have b1 := hb 1 (by rw [trip_len]; decide)
      have a2 := ha 2 (by rw [trip_len]; decide)
      have b2 := hb 2 (by rw [trip_len]; decide)
      simp only [trip, List.getElem_cons_zero, List.getElem_cons_succ, Nat.add_zero, Nat.mul_one] at a0 b0 a1 b1 a2 b2
      clear ha hb hx
      go_upto_region 6 with fail
      refine wp_still_all (by kernel_rfl) (by kernel_rfl) fun ws hks hhs => ?_
      replace a0 := hks.cell' a0
      replace b0 := hks.cell' b0
      replace a1 := hks.cell' a1
      replace b1 := hks.cell' b1
      replace a2 := hks.cell' a2
      replace b2 := hks.cell' b2
      have HKW := Lib.hid (HK.out.trans hks)
      clear hks hhs
      iterate 8 still_step
      refine SB.out (SB.val (v := .bool (!(x == x))) (by rfl) (exec_neq_mbr _ _ rfl x x rfl rfl) ?_)
      rw [show (!(x == x)) = false by simp]
      refine ⟨wpStill_nil ?_⟩
      go_wp2
      go_roundw
      case rel => exact ⟨i + 1, by omega, by go_num, HKW⟩
      case measure => simp [intOf]; omega
    · go_wp2
      go_ret
      exact ⟨rfl, HK.out⟩
theorem same_wheres (l : List Wh) (v1 v2 : Value) (w : World) (hlen : l.length ≤ 4096) (h1 : RSl trip 3 w v1 l) (h2 : RSl trip 3 w v2 l) :
    Calls Tryz.prog 39 #[v1, v2] w fun e w' => e = .returned (.bool true) ∧ Kept w w' := by
  obtain ⟨oa, ca, rfl, _⟩ := h1.form
  obtain ⟨ob, cb, rfl, _⟩ := h2.form
  have H1 := Lib.hid h1; have H2 := Lib.hid h2
  clear h1 h2
  have hnn : ((l.length : Int) != (l.length : Int)) = false := by simp
  go_enter Tryz.func39, Tryz.ntmps39
  go_wp2
  go_loopw [5] (fun iv wr => ∃ i : Nat, i ≤ l.length ∧ iv = .int .i64 (i : Int) ∧ Hid (Kept w wr)) (fun iv _ => l.length - (intOf iv).toNat)
  case atStart => exact ⟨0, Nat.zero_le _, rfl, Lib.hid (Kept.refl _)⟩
  case round =>
    obtain ⟨i, hi, rfl, HK⟩ := hrel
    by_cases hlt : i < l.length
    · obtain ⟨ba, offa, rfl, _, ha⟩ := (H1.out.kept HK.out).at hlt
      obtain ⟨bb, offb, rfl, _, hb⟩ := (H2.out.kept HK.out).at hlt
      obtain ⟨x, hx⟩ : ∃ x, x = l[i]'hlt := ⟨_, rfl⟩
      rw [← hx] at ha hb
      have a0 := ha 0 (by rw [trip_len]; decide)
      have b0 := hb 0 (by rw [trip_len]; decide)
      have a1 := ha 1 (by rw [trip_len]; decide)
      have b1 := hb 1 (by rw [trip_len]; decide)
      have a2 := ha 2 (by rw [trip_len]; decide)
      have b2 := hb 2 (by rw [trip_len]; decide)
      simp only [trip, List.getElem_cons_zero, List.getElem_cons_succ, Nat.add_zero, Nat.mul_one] at a0 b0 a1 b1 a2 b2
      clear ha hb hx
      go_upto_region 6 with fail
      refine wp_still_all (by kernel_rfl) (by kernel_rfl) fun ws hks hhs => ?_
      replace a0 := hks.cell' a0
      replace b0 := hks.cell' b0
      replace a1 := hks.cell' a1
      replace b1 := hks.cell' b1
      replace a2 := hks.cell' a2
      replace b2 := hks.cell' b2
      have HKW := Lib.hid (HK.out.trans hks)
      clear hks hhs
      iterate 8 still_step
      refine SB.out (SB.val (v := .bool (!(x == x))) (by rfl) (exec_neq_whr _ _ rfl x x rfl rfl) ?_)
      rw [show (!(x == x)) = false by simp]
      refine ⟨wpStill_nil ?_⟩
      go_wp2
      go_roundw
      case rel => exact ⟨i + 1, by omega, by go_num, HKW⟩
      case measure => simp [intOf]; omega
    · go_wp2
      go_ret
      exact ⟨rfl, HK.out⟩
theorem same_ints (l : List Int) (v1 v2 : Value) (w : World) (hlen : l.length ≤ 4096) (h1 : RSl oneV 1 w v1 l) (h2 : RSl oneV 1 w v2 l) :
    Calls Tryz.prog 40 #[v1, v2] w fun e w' => e = .returned (.bool true) ∧ Kept w w' := by
  obtain ⟨oa, ca, rfl, _⟩ := h1.form
  obtain ⟨ob, cb, rfl, _⟩ := h2.form
  have H1 := Lib.hid h1; have H2 := Lib.hid h2
  clear h1 h2
  have hnn : ((l.length : Int) != (l.length : Int)) = false := by simp
  go_enter Tryz.func40, Tryz.ntmps40
  go_wp2
  go_loopw [5] (fun iv wr => ∃ i : Nat, i ≤ l.length ∧ iv = .int .i64 (i : Int) ∧ Hid (Kept w wr)) (fun iv _ => l.length - (intOf iv).toNat)
  case atStart => exact ⟨0, Nat.zero_le _, rfl, Lib.hid (Kept.refl _)⟩
  case round =>
    obtain ⟨i, hi, rfl, HK⟩ := hrel
    by_cases hlt : i < l.length
    · obtain ⟨ba, offa, rfl, _, ha⟩ := (H1.out.kept HK.out).at hlt
      obtain ⟨bb, offb, rfl, _, hb⟩ := (H2.out.kept HK.out).at hlt
      obtain ⟨x, hx⟩ : ∃ x, x = l[i]'hlt := ⟨_, rfl⟩
      rw [← hx] at ha hb
      have a0 := ha 0 (by rw [oneV_len]; decide)
      have b0 := hb 0 (by rw [oneV_len]; decide)
      simp only [oneV, List.getElem_cons_zero, List.getElem_cons_succ, Nat.add_zero, Nat.mul_one] at a0 b0
      clear ha hb hx
      go_upto_region 6 with fail
      refine wp_still_all (by kernel_rfl) (by kernel_rfl) fun ws hks hhs => ?_
      replace a0 := hks.cell' a0
      replace b0 := hks.cell' b0
      have HKW := Lib.hid (HK.out.trans hks)
      clear hks hhs
      iterate 8 still_step
      have hxx : (x != x) = false := by simp
      iterate 1 still_step
      refine wpStill_nil ?_
      go_wp2
      go_roundw
      case rel => exact ⟨i + 1, by omega, by go_num, HKW⟩
      case measure => simp [intOf]; omega
    · go_wp2
      go_ret
      exact ⟨rfl, HK.out⟩
end Go.Proofs.YtiijfocdjcjlaaaGreat
