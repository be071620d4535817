/- Rules: sectors and places loaded and compared in a drawn region; what Flush and Fail leave as it is. -/
import Derived.Test.YtglplhmclfekfaaGreatDlv
namespace Go.Proofs.YtglplhmclfekfaaGreat
open Go.RowKit
set_option linter.unusedVariables false
set_option linter.unusedSimpArgs false

theorem exec_load_sec {W : World} {a : Act} {o : Oper} (x : Operand) (ho : o.op = .load 43 x) (b : Nat) (hx : a.eval x = .pointer (some ⟨b, 0, none⟩)) (xs : List Int) (hl : xs.length = 64) (hc : Cells W b 0 (u8s xs)) :
    (execOp a.eval o).run Tryz.prog W = .ok (.value (.agg (u8s xs).toArray)) W := by
  obtain ⟨⟨d, hd1, hd2⟩, hs⟩ := ty_sec
  unfold execOp
  simp only [ho, hx, Instr.loadAt, Instr.sureAddr, Sem.run_bind, Sem.run_pure, Result.andThen_ok, run_loadVar_mid W b 0 43 (u8s xs) d (rangeAt_of_cells hc) hd1 hd2 (by rw [hs, u8s_length, hl])]
theorem exec_cmp_secN {W : World} {a : Act} {o : Oper} (x y : Operand) {t' : TypeId} (ho : o.op = .binOp .neq 43 x y t') (xs : List Int) (hl : xs.length = 64) (hx : a.eval x = .agg (u8s xs).toArray) (hy : a.eval y = .agg (u8s xs).toArray) :
    (execOp a.eval o).run Tryz.prog W = .ok (.value (.bool false)) W := by
  have heq := run_equal_secA xs xs hl hl W
  unfold execOp
  simp only [ho, hx, hy, Sem.run_bind]
  rw [run_eqGuard_agg _ _ _ _ _ _ _ eqg_sec]
  simp only [Result.andThen_ok]
  rw [run_neq_struct, heq]
  simp only [Result.andThen_ok, Sem.run_pure, beq_self_eq_true, Bool.not_true]
theorem exec_cmp_secE {W : World} {a : Act} {o : Oper} (x y : Operand) {t' : TypeId} (ho : o.op = .binOp .eql 43 x y t') (xs : List Int) (hl : xs.length = 64) (hx : a.eval x = .agg (u8s xs).toArray) (hy : a.eval y = .agg (u8s xs).toArray) :
    (execOp a.eval o).run Tryz.prog W = .ok (.value (.bool true)) W := by
  have heq := run_equal_secA xs xs hl hl W
  unfold execOp
  simp only [ho, hx, hy, Sem.run_bind]
  rw [run_eqGuard_agg _ _ _ _ _ _ _ eqg_sec]
  simp only [Result.andThen_ok]
  rw [run_eql_struct, heq]
  simp only [Result.andThen_ok, Sem.run_pure, beq_self_eq_true]
theorem eqg_plc : Tryz.prog.eqGuardType Tryz.prog.depth 47 = false := by kernel_rfl
theorem plc_fields : (Tryz.prog.fieldsOf 47).toList.map (fun f => (f.name, f.type, f.offset)) = [("Disk", 3, 0), ("At", 3, 1)] := by kernel_rfl
theorem run_equal_plc (w : World) (a b c d : Int) : (Op.equalIn 10000 47 (.agg #[.int .i64 a, .int .i64 b]) (.agg #[.int .i64 c, .int .i64 d])).run Tryz.prog w = .ok (a == c && b == d) w := by
  have hr := run_equalIn_struct (P := Tryz.prog) w 9999 47 #[.int .i64 a, .int .i64 b] #[.int .i64 c, .int .i64 d] (by kernel_rfl) (by kernel_rfl)
  rw [hr]
  have hf := plc_fields
  generalize (Tryz.prog.fieldsOf 47).toList = fs at hf ⊢
  rcases fs with _ | ⟨f, _ | ⟨g, _ | ⟨h, fs⟩⟩⟩
  · simp at hf
  · simp at hf
  · skip
    simp only [List.map_cons, List.map_nil, List.cons.injEq, Prod.mk.injEq, and_true] at hf
    obtain ⟨⟨f1, f2, f3⟩, g1, g2, g3⟩ := hf
    have hi : Tryz.prog.underlying 3 = some (.int .i64) := Tryz.underlying3
    have pa : ∀ (x y : Int) (ww : World), (part 3 #[.int .i64 x, .int .i64 y] 0).run Tryz.prog ww = .ok (.int .i64 x) ww := fun x y ww => by simp [part, isAgg, run_underlying hi]
    have pb : ∀ (x y : Int) (ww : World), (part 3 #[.int .i64 x, .int .i64 y] 1).run Tryz.prog ww = .ok (.int .i64 y) ww := fun x y ww => by simp [part, isAgg, run_underlying hi]
    have pe : ∀ (x y : Int) (ww : World), (Op.equalIn 9999 3 (.int .i64 x) (.int .i64 y)).run Tryz.prog ww = .ok (x == y) ww := fun x y ww => run_equalIn_int ww 9998 3 .i64 .i64 x y hi
    simp only [Op.eqFields, f1, f2, f3, g1, g2, g3, Sem.run_bind, pa, pb, pe, Result.andThen_ok, Sem.run_ite, Sem.run_pure]
    cases (a == c) <;> cases (b == d) <;> simp
  · simp at hf
theorem flushC_rest (T : BankT) (d : Int) : (T.flushC d).1.clock ≤ T.clock + 1 ∧ (T.flushC d).1.writes ≤ T.writes + 1 := by
  unfold BankT.flushC
  split
  · exact ⟨by show T.clock ≤ T.clock + 1; omega, by show T.writes ≤ T.writes + 1; omega⟩
  · exact ⟨by show T.clock ≤ T.clock + 1; omega, by show T.writes ≤ T.writes + 1; omega⟩
theorem failC_rest (T : BankT) (d : Int) : (T.failC d).1.clock ≤ T.clock + 1 ∧ (T.failC d).1.writes ≤ T.writes + 1 := by
  unfold BankT.failC
  split
  · exact ⟨by show T.clock ≤ T.clock + 1; omega, by show T.writes ≤ T.writes + 1; omega⟩
  · exact ⟨by show T.clock ≤ T.clock + 1; omega, by show T.writes ≤ T.writes + 1; omega⟩
theorem start_rest (T : BankT) : T.start.clock ≤ T.clock + 1 ∧ T.start.writes ≤ T.writes + 1 :=
  ⟨by show T.clock ≤ T.clock + 1; omega, by show T.writes ≤ T.writes + 1; omega⟩
theorem crash_rest2 {T : BankT} (h : T.Inv) (m : Int) : (T.crash m).clock ≤ T.clock + 1 ∧ (T.crash m).writes ≤ T.writes + 1 := by
  obtain ⟨h1, h2⟩ := BankT.crash_clock h.ok m
  exact ⟨by rw [h1]; omega, by rw [h2]; omega⟩
end Go.Proofs.YtglplhmclfekfaaGreat
