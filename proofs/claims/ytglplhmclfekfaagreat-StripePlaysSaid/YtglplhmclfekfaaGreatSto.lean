/- The document's SamePlaces; stripe.Rebuilt, parity.Check. -/
import Derived.Test.YtglplhmclfekfaaGreatStz
import Derived.Test.YtglplhmclfekfaaGreatDlw
namespace Go.Proofs.YtglplhmclfekfaaGreat
open Go.RowKit
set_option linter.unusedVariables false
set_option linter.unusedSimpArgs false

theorem BK.lt_of {w0 W : World} {R : Nat → Prop} {q : Nat} {T : BankT} (h : BK w0 R W q T) {B : Nat} (hB : R B) : B < W.heap.size := by
  obtain ⟨_, _, h⟩ := h
  exact (h.off B hB).1
theorem BK.push {w0 W W' : World} {l : List Nat} {q : Nat} {T : BankT} (h : BK w0 (fun k => k ∈ l) W q T) (hk : Kept W W') (B : Nat) (h1 : W.heap.size ≤ B) (h2 : B < W'.heap.size) : BK w0 (fun k => k ∈ B :: l) W' q T := by
  refine (h.more hk B h1 h2).less fun k hk => ?_
  rcases List.mem_cons.1 hk with h | h
  · exact .inr h
  · exact .inl h
theorem exec_neq_plc {W : World} {a : Act} {o : Oper} (x y : Operand) {t' : TypeId} (ho : o.op = .binOp .neq 47 x y t') (p q r s : Int) (hx : a.eval x = .agg #[.int .i64 p, .int .i64 q]) (hy : a.eval y = .agg #[.int .i64 r, .int .i64 s]) :
    (execOp a.eval o).run Tryz.prog W = .ok (.value (.bool (!(p == r && q == s)))) W := by
  have heq := run_equal_plc W p q r s
  unfold execOp
  simp only [ho, hx, hy, Sem.run_bind]
  rw [run_eqGuard_agg _ _ _ _ _ _ _ eqg_plc]
  simp only [Result.andThen_ok]
  rw [run_neq_struct]
  simp only [Op.equal, Op.maxDepth, heq, Result.andThen_ok, Sem.run_pure, Sem.run_bind]
theorem still_neq_plc {ops : Array Oper} {rest : List Oper} {o : Oper} {a : Act} {w : World} {K : Act → Prop} (hgd : Region.wanted o (yielded ops a.tmps) = true) (x y : Operand) {t' : TypeId} (ho : o.op = .binOp .neq 47 x y t') (p q r s : Int) (hx : a.eval x = .agg #[.int .i64 p, .int .i64 q]) (hy : a.eval y = .agg #[.int .i64 r, .int .i64 s]) (b : Bool) (hb : (!(p == r && q == s)) = b)
    (h : wpStill Tryz.prog ops w K rest (a.put o.dst (.bool b))) : wpStill Tryz.prog ops w K (o :: rest) a := by
  subst hb
  exact wpStill_val hgd (exec_neq_plc x y ho p q r s hx hy) h
theorem still_eq_plc {ops : Array Oper} {rest : List Oper} {o : Oper} {a : Act} {w : World} {K : Act → Prop} (hgd : Region.wanted o (yielded ops a.tmps) = true) (x y : Operand) {t' : TypeId} (ho : o.op = .binOp .eql 47 x y t') (p q r s : Int) (hx : a.eval x = .agg #[.int .i64 p, .int .i64 q]) (hy : a.eval y = .agg #[.int .i64 r, .int .i64 s]) (b : Bool) (hb : (p == r && q == s) = b)
    (h : wpStill Tryz.prog ops w K rest (a.put o.dst (.bool b))) : wpStill Tryz.prog ops w K (o :: rest) a := by
  subst hb
  exact wpStill_val hgd (exec_eq_plc x y ho p q r s hx hy) h
theorem wpList_eq_plc {ops : Array Oper} {rest : List Oper} {o : Oper} {a : Act} {w : World} {Q : Exit → Act → World → Prop} (hgd : Region.wanted o (yielded ops a.tmps) = true) (x y : Operand) {t' : TypeId} (ho : o.op = .binOp .eql 47 x y t') (p q r s : Int) (hx : a.eval x = .agg #[.int .i64 p, .int .i64 q]) (hy : a.eval y = .agg #[.int .i64 r, .int .i64 s]) (b : Bool) (hb : (p == r && q == s) = b)
    (h : wpList Tryz.prog ops Q rest (a.put o.dst (.bool b)) w) : wpList Tryz.prog ops Q (o :: rest) a w := by
  subst hb
  refine BigFrame.wpList_want hgd fun K hK => ?_
  unfold Oper.wp
  rw [exec_eq_plc x y ho p q r s hx hy]
  exact hK _ _ h
theorem wpList_neq_plc {ops : Array Oper} {rest : List Oper} {o : Oper} {a : Act} {w : World} {Q : Exit → Act → World → Prop} (hgd : Region.wanted o (yielded ops a.tmps) = true) (x y : Operand) {t' : TypeId} (ho : o.op = .binOp .neq 47 x y t') (p q r s : Int) (hx : a.eval x = .agg #[.int .i64 p, .int .i64 q]) (hy : a.eval y = .agg #[.int .i64 r, .int .i64 s]) (b : Bool) (hb : (!(p == r && q == s)) = b)
    (h : wpList Tryz.prog ops Q rest (a.put o.dst (.bool b)) w) : wpList Tryz.prog ops Q (o :: rest) a w := by
  subst hb
  refine BigFrame.wpList_want hgd fun K hK => ?_
  unfold Oper.wp
  rw [exec_neq_plc x y ho p q r s hx hy]
  exact hK _ _ h
theorem plc_beq_t {p q : Int × Int} (h : p = q) : (!(p.1 == q.1 && p.2 == q.2)) = false := by subst h; simp
theorem plc_beq_f {p q : Int × Int} (h : p ≠ q) : (!(p.1 == q.1 && p.2 == q.2)) = true := by
  obtain ⟨a, b⟩ := p; obtain ⟨c, d⟩ := q
  by_cases e : a = c
  · subst e
    have : b ≠ d := fun e => h (by rw [e])
    simp [this]
  · simp [e]
theorem take_next {α : Type} {L M : List α} (d : α) {k : Nat} (h1 : k < L.length) (h2 : k < M.length) (h : L.take k = M.take k) (he : L.getD k d = M.getD k d) : L.take (k + 1) = M.take (k + 1) := by
  rw [List.take_succ_eq_append_getElem h1, List.take_succ_eq_append_getElem h2, h]
  rw [List.getD_eq_getElem?_getD, List.getD_eq_getElem?_getD, List.getElem?_eq_getElem h1, List.getElem?_eq_getElem h2] at he
  rw [show L[k] = M[k] from he]
theorem take_ne {α : Type} {L M : List α} (d : α) {k : Nat} (h1 : k < L.length) (h2 : k < M.length) (he : L.getD k d ≠ M.getD k d) : L ≠ M := fun e => he (by rw [e])
section
variable {w : World}
set_option maxHeartbeats 2000000
set_option maxRecDepth 100000
--
--
--
--
--
--
--
--
--
--
--
--
--
--
--
--
--
--
--
--
--
--
--
--
--
--
--
--
--
--
--
--
--
--
--
--
--
--
--
--
--
--
--
--
--
--
--
--
--
--
--
--
--
--
--
--
--
--
--
--
--
--
--
--
--
--
--
--
--
--
--
--
--
--
--
--
--
--
--
--
--
--
--
--
--
--
--
--
--
--
--
--
--
--
--
--
--
--
--
--
--
--
--
--
--
--
--
--
--
end
/-- the places of a stripe on the first m extents, but that on the extent k -/
def restTo (L : List (Int × Int)) (t : Nat) (k : Nat) : Nat → List (Int × Int)
  | 0 => []
  | m + 1 => if m ≠ k then restTo L t k m ++ [plcAt L t m] else restTo L t k m
def restL (L : List (Int × Int)) (t k : Nat) : List (Int × Int) := restTo L t k L.length
theorem restTo_le (L : List (Int × Int)) (t k : Nat) : ∀ m, (restTo L t k m).length ≤ m
  | 0 => Nat.le_refl _
  | m + 1 => by
    have := restTo_le L t k m
    unfold restTo
    split
    · simp; omega
    · omega
section
variable {w0 W : World} {R : Nat → Prop} {q : Nat} {T : BankT}
set_option maxHeartbeats 2000000
set_option maxRecDepth 100000
theorem st_Rebuilt (h : BK w0 R W q T) (u : T.Use) {v : Value} {L : List (Int × Int)} (hv : ESl W v L) (hN : Near L) (hl9 : L.length ≤ 900) (k t : Nat) (h2 : 2 ≤ L.length) (ht : t < 8) (hk : k < L.length) :
    Calls Tryz.prog 28 #[.pointer (some ⟨q, 0, none⟩), v, .int .i64 (k : Int), .int .i64 (t : Int)] W fun e w' => e = .returned (.tuple #[secV (T.joinL (restL L t k) zeroB false).1, .int .i64 (T.joinL (restL L t k) zeroB false).2]) ∧ Kept W w' := by
  have HB0 := Lib.hid h; have HU := Lib.hid u; have HV0 := Lib.hid hv; have HN := Lib.hid hN
  have hlen := hN.1
  obtain ⟨oa, cap, hvv⟩ : ∃ oa cap, v = .slice oa L.length cap := by obtain ⟨oa, cap, e, _⟩ := hv; exact ⟨oa, cap, e⟩
  subst hvv
  have hr := fun W => st_right oa L.length cap hlen (t : Int) W
  rw [show rightX L.length (t : Int) = 0 by unfold rightX; rw [if_neg (by omega), if_neg (by omega)]] at hr
  have HR := Lib.hid hr
  have HPL := Lib.hid fun (W : World) (he : ESl W (.slice oa L.length cap) L) (j : Nat) (hj : j < L.length) => st_place he hN hj t (by omega)
  obtain ⟨res, rc, hres⟩ : ∃ res rc, T.joinL (restL L t k) zeroB false = (res, rc) := ⟨_, _, rfl⟩
  rw [hres]
  have HRES := Lib.hid hres
  have HSEC : Hid (res.length = 64) := Lib.hid (by
    have := joinL_sec u.inv (restL L t k) zeroB false zeroB_sec1
    rw [hres] at this
    exact this.1)
  clear h u hv hN hr hres
  go_enter Tryz.func28, Tryz.ntmps28
  go_wp2_with (refine stop_at (o := ⟨some 8, _, _, _, _, _⟩) ?_)
  refine Stop.mk ?_
  refine wpList_alloc_abs rfl 43 rfl (u8s zeroB) zero_sec ?_
  intro w1 hz hs hn1 hk1
  have HR1 := hz; have HB1 := Lib.hid (HB0.out.kept hk1).1; have HK1 := Lib.hid hk1; have HV1 := Lib.hid (HV0.out.kept hk1)
  generalize hP : W.heap.size = Rb at *
  have HPE := Lib.hid hP
  clear hz hs hn1 hk1 hP HB0 HV0
  go_wp2_with fail
  refine Calls.mono (HR.out _) ?_
  rintro e w' ⟨rfl, rfl⟩
  clear HR
  go_wp2
  go_loopw [11, 31] (fun v i wr => ∃ (j : Nat), j ≤ L.length ∧ i = .int .i64 j ∧ Hid (wr.ownsRow w1.heap.size 47 2 v (restTo L t k j).length (evals (restTo L t k j))) ∧ Hid (Kept w1 wr)) (fun _ i _ => L.length - (intOf i).toNat)
  case atStart => exact ⟨0, Nat.zero_le _, rfl, Lib.hid (World.ownsRow_nil _ _ _ _), Lib.hid (Kept.refl _)⟩
  case round =>
    obtain ⟨j, hj, rfl, HO, HK⟩ := hrel
    obtain ⟨oa', cap', rfl⟩ := ownsRow_form1 HO.out
    have HLE := Lib.hid (restTo_le L t k j)
    by_cases hlt : j < L.length
    · by_cases hjk : j = k
      · have HO2 : Hid (wr.ownsRow w1.heap.size 47 2 (.slice oa' (restTo L t k j).length cap') (restTo L t k (j + 1)).length (evals (restTo L t k (j + 1)))) := Lib.hid (by
          rw [show restTo L t k (j + 1) = restTo L t k j by rw [restTo, if_neg (by simpa using hjk)]]; exact HO.out)
        have t1 : ((j : Int) != (k : Int)) = false := by simp [hjk]
        have t2 : (j != k) = false := by simp [hjk]
        clear hjk HO
        go_wp2
        go_roundw
        case rel => exact ⟨j + 1, hlt, by go_num, HO2, HK⟩
        case measure => simp [intOf]; omega
      · have hst : restTo L t k (j + 1) = restTo L t k j ++ [plcAt L t j] := by rw [restTo, if_pos hjk]
        have HPJ := Lib.hid (HPL.out wr (HV1.out.kept HK.out) j hlt)
        generalize plcAt L t j = p at *
        obtain ⟨px, py⟩ := p
        have HST := Lib.hid hst
        have t1 : ((j : Int) != (k : Int)) = true := by simp; omega
        have t2 : (j != k) = true := by simp [hjk]
        have t3 : ¬ j = k := hjk
        clear hst
        go_wp2_with fail
        refine Calls.mono HPJ.out ?_
        rintro e w5 ⟨rfl, hk5⟩
        have HK5 := Lib.hid (HK.out.trans hk5); have HO5 := Lib.hid (ownsRow_kept HO.out hk5)
        clear hk5 HK HO HPJ
        go_wp2_with (refine stop_at (o := ⟨some 43, _, _, _, _, _⟩) ?_)
        refine Stop.mk ?_
        obtain ⟨ht', ⟨i1, z1, hi, hz, hsz', hby, hzs⟩, hpos⟩ := ty_places2
        refine wpList_append_own_wide _ rfl _ _ 39 rfl w1.heap.size 47 i1 z1 2 16 ht' hi hz hsz' hby hzs (by decide) _ (restTo L t k j).length (evals (restTo L t k j)) rfl (HO5.out.alloc _) ⟨w5.heap.size, 0, none⟩ 1 1 [.int .i64 px, .int .i64 py] rfl rfl (two_new _ _ _ _) (evals_one [(px, py)]) (by have : maxLen = 9223372036854775807 := rfl; have := HLE.out; omega) (by have := HLE.out; omega) (by have := HK5.out.size; rw [World.size_alloc]; omega) ?_
        intro v4 w4 hown hgrow _
        have HK4 : Hid (Kept w1 w4) := Lib.hid ((HK5.out.alloc _).grown hgrow (fun j ej => row_ge HO5.out ej))
        have HO4 : Hid (w4.ownsRow w1.heap.size 47 2 v4 (restTo L t k (j + 1)).length (evals (restTo L t k (j + 1)))) := Lib.hid (by rw [HST.out, evals_append, List.length_append]; exact hown)
        clear hown hgrow HO5 HK5 ht' hi hz hsz' hby hzs hpos HST
        go_wp2
        go_roundw
        case rel => exact ⟨j + 1, hlt, by go_num, HO4, HK4⟩
        case measure => simp [intOf]; omega
    · have hjL : restTo L t k j = restL L t k := by unfold restL; rw [show j = L.length by omega]
      rw [hjL] at HO HLE ⊢
      have HM := Lib.hid (ESl.of_owns rfl HO.out)
      have HB2 := Lib.hid (HB1.out.kept HK.out).1
      have HR2 := Lib.hid (HK.out.block HR1.out); have HK2 := Lib.hid (HK1.out.trans HK.out)
      clear hjL HO HK HB1 HR1 HK1 HV1 HPL
      go_wp2_with (refine stop_at (o := ⟨some 47, _, _, _, _, _⟩) ?_)
      refine Stop.mk ?_
      refine wpList_zero_sec rfl rfl ?_
      go_wp2_with fail
      have hjn := st_joined HB2.out HU.out HM.out (by have := HLE.out; omega) zeroB_sec1
      rw [HRES.out] at hjn
      refine Calls.mono hjn ?_
      rintro e w8 ⟨rfl, hk8⟩
      have HR8 := Lib.hid (hk8.block HR2.out); have HK8 := Lib.hid (HK2.out.trans hk8)
      clear hk8 HR2 HB2 HK2 HM hjn
      go_wp2_with (refine stop_at (o := ⟨none, .store _ _ _, _, _, _, _⟩) ?_)
      refine Stop.mk ?_
      refine wpList_store_agg rfl _ _ rfl ty_sec Rb 0 rfl (u8s res) rfl (by rw [u8s_length, HSEC.out]) (u8s_one _) _ _ HR8.out (by rw [u8s_length, zeroB_length]; decide) ?_
      intro w9 hw
      replace hw := hw.all (by rw [u8s_length, u8s_length, zeroB_length, HSEC.out])
      have HW := Lib.hid hw
      have HK9 : Hid (Kept W w9) := Lib.hid (hw.kept HK8.out (by have := HPE.out; omega))
      clear hw
      go_wp2
      refine bodyPost_ret (results_sec rfl _ _ Rb res rfl HW.out.cells HSEC.out) rfl ?_
      exact ⟨rfl, HK9.out⟩
end
end Go.Proofs.YtglplhmclfekfaaGreat
