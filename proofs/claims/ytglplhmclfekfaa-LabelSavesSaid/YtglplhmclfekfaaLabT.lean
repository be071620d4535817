/- label.Load on a law's bank. -/
import Derived.Test.YtglplhmclfekfaaLabS
namespace Go.Proofs.Ytglplhmclfekfaa
open Go.RowKit
set_option linter.unusedVariables false
set_option linter.unusedSimpArgs false

theorem lab_info : (Try.prog.info? 80).map (fun i => (i.zero, i.size, i.bytes)) = some (some (.agg #[.int .i64 0, .int .i64 0, .int .i64 0, .int .i64 0, .slice none 0 0]), 5, 56) := by kernel_rfl
theorem ty_labs : ElemT Try.prog 76 80 5 56 := by
  refine ⟨Try.underlying76, ?_, by decide⟩
  have h1 := lab_info
  cases hi : Try.prog.info? 80 with
  | none => simp [hi] at h1
  | some i =>
    simp only [hi, Option.map_some, Option.some.injEq, Prod.mk.injEq] at h1
    exact ⟨i, _, rfl, h1.1, h1.2.1, h1.2.2, by decide⟩
theorem build_lab (W : World) : (Instr.build 80 #[]).run Try.prog W = .ok (Lab.zero.val (.slice none 0 0)) W := run_build W 80 #[] (Lab.vals Lab.zero (.slice none 0 0)).toArray (by kernel_rfl)
theorem fill_lab (cells : Array Value) (l : Lab) (sl : Value) (hc : cells.size = 5) : Instr.fill (fun i => some (i * 5, 5)) cells [(0, .agg (Lab.vals l sl).toArray)] = some (Lab.vals l sl).toArray := by
  obtain ⟨r, hr, hsz, hk⟩ := Great.fill_dense (s := 5) (by decide) [.agg (Lab.vals l sl).toArray] 0 cells (fun v hv => by rw [List.mem_singleton.1 hv]; rfl) (by rw [hc, List.length_singleton]; decide)
  refine hr.trans (congrArg some (Array.ext_getElem? fun k => ?_))
  rw [hk k]
  by_cases h : k < 5
  · rw [if_pos ⟨by omega, by show k < (0 + 1) * 5; omega⟩, Nat.div_eq_of_lt h, Nat.mod_eq_of_lt h]; rfl
  · rw [if_neg (by show ¬ (0 * 5 ≤ k ∧ k < (0 + 1) * 5); omega), Array.getElem?_eq_none (by omega), Array.getElem?_eq_none (by show 5 ≤ k; omega)]
/-- the slice v, in a block of its own, reads the labels of L -/
def lvals (L : List (Lab × Value)) : List Value := L.flatMap fun p => Lab.vals p.1 p.2
structure LIn (W0 W : World) (v : Value) (L : List (Lab × Value)) : Prop where
  own : W.ownsRow 0 80 5 v L.length (lvals L)
  fresh : ∀ g, v.ownBlock = some g → W0.heap.size ≤ g
  all : ∀ p ∈ L, MSl W p.2 p.1.ms ∧ (0 ≤ p.1.gen ∧ p.1.gen < 4294967296) ∧ ∀ b, p.2.ownBlock = some b → v.ownBlock ≠ some b ∧ b < W.heap.size ∧ W0.heap.size ≤ b
theorem LIn.nil (W0 W : World) : LIn W0 W (.slice none 0 0) [] := ⟨World.ownsRow_nil W _ _ _, fun g h => by simp [Value.ownBlock] at h, fun p h => by cases h⟩
theorem LIn.kept {W0 W W' : World} {v : Value} {L : List (Lab × Value)} (h : LIn W0 W v L) (hk : Kept W W') : LIn W0 W' v L :=
  ⟨ownsRow_kept h.own hk, h.fresh, fun p hp => ⟨(h.all p hp).1.kept hk, (h.all p hp).2.1, fun b hb => ⟨((h.all p hp).2.2 b hb).1, Nat.lt_of_lt_of_le ((h.all p hp).2.2 b hb).2.1 hk.size, ((h.all p hp).2.2 b hb).2.2⟩⟩⟩
theorem lvals_length (L : List (Lab × Value)) : (lvals L).length = L.length * 5 := by
  induction L with
  | nil => rfl
  | cons p L ih =>
    have e : lvals (p :: L) = Lab.vals p.1 p.2 ++ lvals L := rfl
    have e2 : (Lab.vals p.1 p.2).length = 5 := rfl
    rw [e, List.length_append, ih, e2, List.length_cons]; omega
theorem MSl.same {W W' : World} {v : Value} {ms : List Mem} (h : MSl W v ms) (hs : ∀ b, v.ownBlock = some b → W'.heap[b]? = W.heap[b]?) : MSl W' v ms := by
  rcases h with h | ⟨b, off, cap, rfl, h⟩
  · exact .inl h
  · refine .inr ⟨b, off, cap, rfl, fun i hi => ?_⟩
    have e := hs b rfl
    obtain ⟨h0, h1, h2⟩ := h i hi
    exact ⟨(World.cell?_of_block (a := ⟨b, _, none⟩) e).trans h0, (World.cell?_of_block (a := ⟨b, _, none⟩) e).trans h1, (World.cell?_of_block (a := ⟨b, _, none⟩) e).trans h2⟩
theorem MSl.lt {W : World} {v : Value} {ms : List Mem} (h : MSl W v ms) (hn : ms ≠ []) {b : Nat} (hb : v.ownBlock = some b) : b < W.heap.size := by
  rcases h with ⟨e, _⟩ | ⟨b', off, cap, rfl, h⟩
  · exact absurd e hn
  · simp only [Value.ownBlock, Option.some.injEq] at hb
    subst hb
    have h0 := (h 0 (List.length_pos_iff.2 hn)).1
    have hc : Cells W b' (off + 0 * 3) [.int .i64 (ms[0]'(List.length_pos_iff.2 hn)).id] := fun j hj => by
      have e : j = 0 := by simpa using hj
      subst e; simpa using h0
    exact hc.lt (by simp)
def candL (d : Int) (s : List Int) : List Lab := if ofOk s = true ∧ (parse s).member = d then [parse s] else []
def pickL : List Lab → Lab × Int
  | [] => (Lab.zero, 8)
  | [x] => (x, 0)
  | x :: y :: _ => (if x.gen < y.gen then y else x, 0)
def BankT.loadL (T : BankT) (d : Int) : Lab × Int :=
  if (T.read d 0).2 ≠ 0 then (Lab.zero, (T.read d 0).2) else if (T.read d 1).2 ≠ 0 then (Lab.zero, (T.read d 1).2) else pickL (candL d (T.read d 0).1 ++ candL d (T.read d 1).1)
def BankT.cands (T : BankT) (d : Int) : Nat → List Lab
  | 0 => []
  | k + 1 => BankT.cands T d k ++ candL d (T.read d (k : Int)).1
/-- '[]api.Label{x}', and what is appended to -/
theorem wpList_one_lab {ops : Array Oper} {rest : List Oper} {o : Oper} {a : Act} {w : World} {Q : Exit → Act → World → Prop} (hg : o.guard = none) (x : Operand) (ho : o.op = .buildSlice 76 1 #[(0, x)])
    (l : Lab) (sl : Value) (hx : a.eval x = .agg (Lab.vals l sl).toArray)
    (h : ∀ w1, Hid (w1.heap[w.heap.size]? = some (.cells (Lab.vals l sl).toArray 80 (0, 0))) → w.heap.size < w1.heap.size → Kept w w1 → wpList Try.prog ops Q rest (a.put o.dst (.slice (some ⟨w.heap.size, 0, none⟩) 1 1)) w1) : wpList Try.prog ops Q (o :: rest) a w := by
  have h1 := lab_info
  cases hi : Try.prog.info? 80 with
  | none => simp [hi] at h1
  | some i =>
    simp only [hi, Option.map_some, Option.some.injEq, Prod.mk.injEq] at h1
    refine wpList_buildSlice hg _ 80 1 _ ho (Lab.vals l sl).toArray i _ Try.underlying76 hi h1.1 (by rw [h1.2.1]; decide) (by rw [h1.2.1]; decide) ?_ (h _ (Lib.hid (heap_alloc_new w _)) (by simp) ((Kept.refl _).alloc _))
    have he : (#[(0, x)].map fun (i, x) => ((i, a.eval x) : Nat × Value)).toList = [(0, .agg (Lab.vals l sl).toArray)] := by simp [hx]
    rw [he, h1.2.1]
    exact fill_lab _ l sl (by simp)
theorem wpList_append_lab {ops : Array Oper} {rest : List Oper} {o : Oper} {a : Act} {W0 W : World} {v : Value} {Q : Exit → Act → World → Prop} (hgd : o.guard = none) (s x : Operand) (ho : o.op = .call { callee := .builtin .append, args := #[s, x], argTypes := #[76, 76] })
    (L : List (Lab × Value)) (hs : a.eval s = v) (hv : LIn W0 W v L) (hl : L.length < 20000) (b : Nat) (hx : a.eval x = .slice (some ⟨b, 0, none⟩) 1 1) (l : Lab) (sl : Value) (hm : MSl W sl l.ms) (hg : 0 ≤ l.gen ∧ l.gen < 4294967296) (hown : ∀ b, sl.ownBlock = some b → v.ownBlock ≠ some b ∧ b < W.heap.size ∧ W0.heap.size ≤ b) (hK : Kept W0 W) (hb : W.heap[b]? = some (.cells (Lab.vals l sl).toArray 80 (0, 0)))
    (h : ∀ v' W', LIn W0 W' v' (L ++ [(l, sl)]) → Kept W0 W' → wpList Try.prog ops Q rest (a.put o.dst v') W') : wpList Try.prog ops Q (o :: rest) a W := by
  refine wpList_plain hgd fun K hK' => ?_
  obtain ⟨v', W', hr, h1, h2⟩ := own_append ty_labs (b := b) hv.own hl (by decide) (Lab.vals l sl) rfl (fun j u hu => by
    have := cell_of_row W b j _ _ _ hb
    rw [this]; simpa using hu) (lab_one l sl hm.one) o.type
  unfold Oper.wp execOp
  simp only [ho, resolve, invoke, builtin, Sem.run_bind, Sem.run_pure, Result.andThen_ok, List.map_toArray, List.map_cons, List.map_nil, hs, hx, hr]
  have he : lvals (L ++ [(l, sl)]) = lvals L ++ Lab.vals l sl := by simp [lvals]
  refine hK' _ _ (h v' W' ⟨by rw [he, List.length_append]; exact h1, fun g hg' => ?_, fun p hp => ?_⟩ ?_)
  · rcases h2 with ⟨e, _⟩ | ⟨g', e, h3, _, _⟩
    · exact hv.fresh g (e ▸ hg')
    · rw [e] at hg'; injection hg' with hg'
      have := hK.size; omega
  · have hp' : MSl W p.2 p.1.ms ∧ (0 ≤ p.1.gen ∧ p.1.gen < 4294967296) ∧ ∀ b, p.2.ownBlock = some b → v.ownBlock ≠ some b ∧ b < W.heap.size ∧ W0.heap.size ≤ b := by
      rcases List.mem_append.1 hp with hp | hp
      · exact hv.all p hp
      · rw [List.mem_singleton.1 hp]; exact ⟨hm, hg, hown⟩
    refine ⟨hp'.1.same fun b hb => h2.blk (hp'.2.2 b hb).2.1 (hp'.2.2 b hb).1, hp'.2.1, fun b hb => ⟨fun e => ?_, Nat.lt_of_lt_of_le (hp'.2.2 b hb).2.1 h2.size, (hp'.2.2 b hb).2.2⟩⟩
    rcases h2 with ⟨e', _⟩ | ⟨g', e', h3, _, _⟩
    · exact (hp'.2.2 b hb).1 (e' ▸ e)
    · rw [e'] at e; injection e with e
      have := (hp'.2.2 b hb).2.1; omega
  · rcases h2 with ⟨_, hb⟩ | ⟨_, _, _, _, hk⟩
    · exact But.to_kept hK hb (fun k hk => hv.fresh k hk)
    · exact hK.trans hk
theorem parse_gen (bs : List Int) (hb : ∀ x ∈ bs, IsByte x) (h : ofOk bs = true) : 0 ≤ (parse bs).gen ∧ (parse bs).gen < 4294967296 := by
  have hr : rightB (parse bs) = true := by
    simp only [ofOk, Bool.and_eq_true] at h
    first | exact h.1.2 | exact h.2.1 | exact h.1
  simp only [rightB, headB, inB, Bool.and_eq_true, decide_eq_true_eq] at hr
  omega
theorem parse_ne (bs : List Int) (h : ofOk bs = true) : (parse bs).ms ≠ [] := by
  have hr : rightB (parse bs) = true := by
    simp only [ofOk, Bool.and_eq_true] at h
    first | exact h.1.2 | exact h.2.1 | exact h.1
  simp only [rightB, headB, inB, Bool.and_eq_true, decide_eq_true_eq] at hr
  intro e
  rw [e] at hr
  simp at hr
theorem cells_tail {W : World} {g : Nat} {xs ys : List Value} (h : Cells W g 0 (xs ++ ys)) : Cells W g 0 xs ∧ Cells W g xs.length ys :=
  ⟨fun j hj => by
    have := h j (by rw [List.length_append]; omega)
    rw [this, List.getElem_append_left hj], fun j hj => by
    have := h (xs.length + j) (by rw [List.length_append]; omega)
    rw [Nat.zero_add] at this
    rw [this, List.getElem_append_right (by omega)]
    simp⟩
theorem LIn.form {W0 W : World} {v : Value} {L : List (Lab × Value)} (h : LIn W0 W v L) : ∃ ao cap, v = .slice ao L.length cap ∧ (L ≠ [] → ∃ g, ao = some ⟨g, 0, none⟩ ∧ Cells W g 0 (lvals L)) := by
  rcases owns_form h.own with ⟨rfl, h0, _⟩ | ⟨g, cap, rfl, hb, hg, hn, hc⟩
  · exact ⟨none, 0, by rw [h0], fun hn => absurd (List.eq_nil_of_length_eq_zero h0) hn⟩
  · exact ⟨_, cap, rfl, fun _ => ⟨g, rfl, hc⟩⟩
theorem LIn.apart {W0 W : World} {v sl : Value} {L : List (Lab × Value)} (h : LIn W0 W v L) (hown : ∀ b, sl.ownBlock = some b → W.heap.size ≤ b) : ∀ b, sl.ownBlock = some b → v.ownBlock ≠ some b := fun b hb e => by
  have := own_lt h.own e
  have := hown b hb
  omega
section
variable {w0 W : World} {R : Nat → Prop} {q : Nat} {T : BankT}
set_option maxHeartbeats 4000000
set_option maxRecDepth 100000
theorem label_Load (h : BK w0 R W q T) (u : T.Use) (d : Int) :
    Calls Try.prog 51 #[.pointer (some ⟨q, 0, none⟩), .int .i64 d] W fun e w' => ∃ sl, e = .returned (.tuple #[(T.loadL d).1.val sl, .int .i64 (T.loadL d).2]) ∧ MSl w' sl (T.loadL d).1.ms ∧ Kept W w' := by
  have HB0 := Lib.hid h
  have HU := Lib.hid u
  clear h u
  obtain ⟨res, hres⟩ : ∃ res, T.loadL d = res := ⟨_, rfl⟩
  have HRES := Lib.hid hres
  rw [hres]
  clear hres
  go_enter Try.func51, Try.ntmps51
  go_wp2_with (refine stop_at (o := ⟨some 4, _, _, _, _, _⟩) ?_)
  refine Stop.mk ?_
  refine wpList_alloc_abs rfl 80 rfl [.int .i64 0, .int .i64 0, .int .i64 0, .int .i64 0, .slice none 0 0] zero_lab ?_
  intro w1 hz1 hs1 hn1 hk1
  have HX1 := hz1
  have HK1 := Lib.hid hk1
  have HB1 := Lib.hid (HB0.out.kept hk1).1
  have HXS := Lib.hid (Nat.le_refl W.heap.size)
  generalize hX : W.heap.size = X at HX1 HXS hs1 hn1 ⊢
  have HXW := Lib.hid (Nat.le_of_eq hX)
  clear hz1 hs1 hn1 hk1 hX HB0
  go_wp2
  go_loopw [6, 12] (fun v i wr => ∃ (k : Nat) (L : List (Lab × Value)), k ≤ 2 ∧ i = .int .i64 k ∧ Hid (LIn w1 wr v L) ∧ Hid (L.map (fun p => p.1) = T.cands d k) ∧ L.length ≤ k ∧ Hid (Kept w1 wr) ∧ Hid (∀ j : Nat, j < k → (T.read d (j : Int)).2 = 0)) (fun _ i _ => 2 - (intOf i).toNat)
  case atStart => exact ⟨0, [], Nat.zero_le _, rfl, Lib.hid (LIn.nil _ _), Lib.hid rfl, Nat.le_refl _, Lib.hid (Kept.refl _), Lib.hid (fun j h => absurd h (Nat.not_lt_zero _))⟩
  case round =>
    obtain ⟨k, L, hk, rfl, HL, HM, hlen, HK, HE⟩ := hrel
    by_cases hlt : k < 2
    · obtain ⟨s, c, hr⟩ : ∃ s c, T.read d (k : Int) = (s, c) := ⟨_, _, rfl⟩
      have HR := Lib.hid hr
      have HS64 : Hid (s.length = 64 ∧ ∀ x ∈ s, IsByte x) := Lib.hid (by have := BankT.read_sec HU.out.inv d (k : Int); rw [hr] at this; exact this)
      clear hr
      go_wp2_with fail
      refine Calls.mono (st_read (HB1.out.kept HK.out).1 HU.out d (k : Int) HR.out) ?_
      rintro e w2 ⟨rfl, _, hk2⟩
      have HK2 := Lib.hid (HK.out.trans hk2)
      have HL2 := Lib.hid (HL.out.kept hk2)
      clear hk2 HK HL
      go_wp2_with (refine stop_at (o := ⟨some 8, _, _, _, _, _⟩) ?_)
      refine Stop.mk ?_
      refine wpList_new_row rfl rfl _ _ rfl rfl ty_sec (u8s zeroB) zero_sec (by rw [u8s_length, zeroB_length]) (u8s s) rfl (by rw [u8s_length, HS64.out.1]) (u8s_one _) rfl ?_
      intro w3 hz3 hs3 hk3
      have HZ3 := hz3
      have HK3 := Lib.hid (HK2.out.trans hk3)
      have HL3 := Lib.hid (HL2.out.kept hk3)
      generalize w2.heap.size = Z at *
      clear hz3 hs3 hk3 HK2 HL2
      by_cases hc : c = 0
      · subst hc
        go_wp2_with (refine stop_at (o := ⟨some 28, _, _, _, _, _⟩) ?_)
        refine Stop.mk ?_
        refine wpList_load_agg rfl _ rfl ty_sec Z 0 rfl (u8s s) (by simpa using Cells.of_block HZ3.out) (by rw [u8s_length, HS64.out.1]) ?_
        go_wp2_with fail
        refine Calls.mono (label_Of_own s w3 HS64.out.2 HS64.out.1) ?_
        rintro e w4 ⟨hk4, hof⟩
        have HK4 := Lib.hid (HK3.out.trans hk4)
        have HL4 := Lib.hid (HL3.out.kept hk4)
        have HSZ3 := Lib.hid HK3.out.size
        clear hk4 HK3
        rcases hof with ⟨hok, sl, rfl, hm, hown⟩ | ⟨hno, rfl⟩
        · have HC1 := Lib.hid (parse_gen s HS64.out.2 hok)
          have HAP := Lib.hid (HL3.out.apart hown)
          have HFR := Lib.hid (fun b hb => Nat.le_trans HSZ3.out (hown b hb))
          have HLT := Lib.hid (fun b hb => hm.lt (parse_ne s hok) (b := b) hb)
          have HM4 := Lib.hid hm
          have HCA : Hid ((parse s).member = d → candL d s = [parse s]) := Lib.hid fun e => if_pos ⟨hok, e⟩
          have HCN : Hid ((parse s).member ≠ d → candL d s = []) := Lib.hid fun e => if_neg (fun h => e h.2)
          clear hm hown hok HL3
          generalize parse s = l at *
          go_wp2_with (refine stop_at (o := ⟨some 10, _, _, _, _, _⟩) ?_)
          refine Stop.mk ?_
          refine wpList_new_row rfl rfl _ _ rfl rfl ty_lab [.int .i64 0, .int .i64 0, .int .i64 0, .int .i64 0, .slice none 0 0] zero_lab rfl (Lab.vals l sl) rfl rfl (lab_one l sl HM4.out.one) rfl ?_
          intro w5 hz5 hs5 hk5
          have HY5 := hz5
          have p2 : w5.cell? ⟨w4.heap.size, 2, none⟩ = some (.int .i64 l.member) := cell_of_row _ _ 2 _ _ _ hz5.out
          have HK5 := Lib.hid (HK4.out.trans hk5)
          have HL5 := Lib.hid (HL4.out.kept hk5)
          have HM5 := Lib.hid (HM4.out.kept hk5)
          have HSZ := Lib.hid hk5.size
          have HLT5 := Lib.hid (fun b hb => Nat.lt_of_lt_of_le (HLT.out b hb) HSZ.out)
          generalize w4.heap.size = Y at *
          clear hz5 hs5 hk5 HK4 HL4 HM4 HLT HSZ
          by_cases hmem : l.member = d
          · have hmd : (l.member == d) = true := by simpa using hmem
            go_wp2_with (refine stop_at (o := ⟨some 41, _, _, _, _, _⟩) ?_)
            refine Stop.mk ?_
            refine wpList_load_agg rfl _ rfl ty_lab Y 0 rfl (Lab.vals l sl) (by simpa using Cells.of_block HY5.out) rfl ?_
            refine wpList_one_lab rfl _ rfl l sl rfl ?_
            intro w6 hz6 hs6 hk6
            refine wpList_append_lab rfl _ _ rfl L rfl (HL5.out.kept hk6) (by omega) w5.heap.size rfl l sl (HM5.out.kept hk6) HC1.out (fun b hb => ⟨HAP.out b hb, Nat.lt_of_lt_of_le (HLT5.out b hb) hk6.size, HFR.out b hb⟩) (HK5.out.trans hk6) hz6.out ?_
            intro v' w7 hl7 hk7
            have HL7 := Lib.hid hl7
            have HK7 := Lib.hid hk7
            have HM7 : Hid ((L ++ [(l, sl)]).map (fun p => p.1) = T.cands d (k + 1)) := Lib.hid (by rw [List.map_append, HM.out, BankT.cands, HR.out, HCA.out hmem]; rfl)
            have HE7 : Hid (∀ j : Nat, j < k + 1 → (T.read d (j : Int)).2 = 0) := Lib.hid fun j hj => by
              by_cases e : j = k
              · rw [e, HR.out]
              · exact HE.out j (by omega)
            clear hl7 hk7 hz6 hs6 hk6 hmd hmem p2 HL5 HM5 HK5 HE HM
            go_wp2
            go_roundw
            case rel => exact ⟨k + 1, L ++ [(l, sl)], hlt, by go_num, HL7, HM7, by rw [List.length_append, List.length_singleton]; omega, HK7, HE7⟩
            case measure => simp [intOf]; omega
          · have hmd : (l.member == d) = false := by simpa using hmem
            have HM7 : Hid (L.map (fun p => p.1) = T.cands d (k + 1)) := Lib.hid (by rw [HM.out, BankT.cands, HR.out, HCN.out hmem, List.append_nil])
            have HE7 : Hid (∀ j : Nat, j < k + 1 → (T.read d (j : Int)).2 = 0) := Lib.hid fun j hj => by
              by_cases e : j = k
              · rw [e, HR.out]
              · exact HE.out j (by omega)
            clear hmem HE HM
            go_wp2
            go_roundw
            case rel => exact ⟨k + 1, L, hlt, by go_num, HL5, HM7, by omega, HK5, HE7⟩
            case measure => simp [intOf]; omega
        · have HM7 : Hid (L.map (fun p => p.1) = T.cands d (k + 1)) := Lib.hid (by rw [HM.out, BankT.cands, HR.out]; show _ = _ ++ candL d s; rw [show candL d s = [] from if_neg (fun h => by rw [hno] at h; cases h.1), List.append_nil])
          have HE7 : Hid (∀ j : Nat, j < k + 1 → (T.read d (j : Int)).2 = 0) := Lib.hid fun j hj => by
              by_cases e : j = k
              · rw [e, HR.out]
              · exact HE.out j (by omega)
          clear hno HE HM
          go_wp2_with (refine stop_at (o := ⟨some 10, _, _, _, _, _⟩) ?_)
          refine Stop.mk ?_
          refine wpList_new_row rfl rfl _ _ rfl rfl ty_lab [.int .i64 0, .int .i64 0, .int .i64 0, .int .i64 0, .slice none 0 0] zero_lab rfl (Lab.vals Lab.zero (.slice none 0 0)) rfl rfl (lab_one Lab.zero (.slice none 0 0) rfl) rfl ?_
          intro w5 hz5 hs5 hk5
          have HK5 := Lib.hid (HK4.out.trans hk5)
          have HL5 := Lib.hid (HL4.out.kept hk5)
          clear hz5 hs5 hk5 HK4 HL4
          go_wp2
          go_roundw
          case rel => exact ⟨k + 1, L, hlt, by go_num, HL5, HM7, by omega, HK5, HE7⟩
          case measure => simp [intOf]; omega
      · have hcb : (c == 0) = false := by simpa using hc
        have hrc : res = (Lab.zero, c) := by
          rw [← HRES.out]
          unfold BankT.loadL
          have hk2 : k = 0 ∨ k = 1 := by omega
          rcases hk2 with rfl | rfl
          · have h0 : T.read d 0 = (s, c) := HR.out
            rw [h0, if_pos hc]
          · have h0 := HE.out 0 (by decide)
            have h1 : T.read d 1 = (s, c) := HR.out
            rw [show T.read d 0 = T.read d ((0 : Nat) : Int) from rfl, if_neg (by rw [h0]; decide), h1, if_pos hc]
        have HRC := Lib.hid hrc
        clear hrc HE HM
        go_wp2_with (refine stop_at (o := ⟨some 25, _, _, _, _, _⟩) ?_)
        refine Stop.mk ?_
        refine wpList_build_zero rfl rfl (Lab.zero.val (.slice none 0 0)) build_lab ?_
        go_wp2_with (refine stop_at (o := ⟨none, .store _ _ _, _, _, _, _⟩) ?_)
        refine Stop.mk ?_
        refine wpList_store_agg rfl _ _ rfl ty_lab X 0 rfl (Lab.vals Lab.zero (.slice none 0 0)) rfl rfl (lab_one Lab.zero (.slice none 0 0) rfl) _ _ (HK3.out.block HX1.out) (by decide) ?_
        intro w4 hw4
        replace hw4 := hw4.all rfl
        go_wp2
        refine bodyPost_ret (results_lab rfl _ _ X Lab.zero (.slice none 0 0) rfl hw4.cells) rfl ?_
        exact ⟨.slice none 0 0, by rw [HRC.out]; rfl, by rw [HRC.out]; exact .inl ⟨rfl, rfl⟩, hw4.kept (HK1.out.trans HK3.out) HXW.out⟩
    · have hk2 : k = 2 := by omega
      have hrc : res = pickL (L.map (fun p => p.1)) := by
        rw [← HRES.out]
        unfold BankT.loadL
        have h0 := HE.out 0 (by omega)
        have h1 := HE.out 1 (by omega)
        rw [show T.read d 0 = T.read d ((0 : Nat) : Int) from rfl, show T.read d 1 = T.read d ((1 : Nat) : Int) from rfl, if_neg (by rw [h0]; decide), if_neg (by rw [h1]; decide), HM.out, hk2]
        simp [BankT.cands]
      have HRC := Lib.hid hrc
      have hk3 : 2 ≤ k := by omega
      have hlen2 := Lib.hid (show L.length ≤ 2 by omega)
      obtain ⟨ao, cp, rfl, hcl⟩ := HL.out.form
      have HXN : Hid (X < w1.heap.size) := Lib.hid (Array.getElem?_eq_some_iff.1 HX1.out).1
      have HAL : Hid (∀ p ∈ L, MSl wr p.2 p.1.ms ∧ (0 ≤ p.1.gen ∧ p.1.gen < 4294967296) ∧ ∀ b, p.2.ownBlock = some b → b ≠ X) := Lib.hid fun p hp => ⟨(HL.out.all p hp).1, (HL.out.all p hp).2.1, fun b hb e => by
        have := ((HL.out.all p hp).2.2 b hb).2.2
        have := HXN.out
        omega⟩
      clear hrc HE HM hlt hk hk2 HL HRES
      rcases L with _ | ⟨p, _ | ⟨p2, _ | ⟨p3, L⟩⟩⟩
      · clear hcl
        go_wp2_with (refine stop_at (o := ⟨some 48, _, _, _, _, _⟩) ?_)
        refine Stop.mk ?_
        refine wpList_build_zero rfl rfl (Lab.zero.val (.slice none 0 0)) build_lab ?_
        go_wp2_with (refine stop_at (o := ⟨none, .store _ _ _, _, _, _, _⟩) ?_)
        refine Stop.mk ?_
        refine wpList_store_agg rfl _ _ rfl ty_lab X 0 rfl (Lab.vals Lab.zero (.slice none 0 0)) rfl rfl (lab_one Lab.zero (.slice none 0 0) rfl) _ _ (HK.out.block HX1.out) (by decide) ?_
        intro w3 hw3
        replace hw3 := hw3.all rfl
        go_wp2
        refine bodyPost_ret (results_lab rfl _ _ X Lab.zero (.slice none 0 0) rfl hw3.cells) rfl ?_
        exact ⟨.slice none 0 0, by rw [HRC.out]; rfl, by rw [HRC.out]; exact .inl ⟨rfl, rfl⟩, hw3.kept (HK1.out.trans HK.out) HXW.out⟩
      · obtain ⟨g, rfl, hc⟩ := hcl (by simp)
        obtain ⟨l, sl⟩ := p
        have HP := Lib.hid (HAL.out (l, sl) (by simp))
        have HC := Lib.hid (cells_tail (xs := Lab.vals l sl) (ys := []) hc).1
        clear hc hcl HAL
        go_wp2_with fail
        refine Calls.mono (max_one l sl HP.out.1.one g 0 cp wr HC.out) ?_
        rintro e w2 ⟨rfl, hk2⟩
        go_wp2_with (refine stop_at (o := ⟨none, .store _ _ _, _, _, _, _⟩) ?_)
        refine Stop.mk ?_
        refine wpList_store_agg rfl _ _ rfl ty_lab X 0 rfl (Lab.vals l sl) rfl rfl (lab_one l sl HP.out.1.one) _ _ (hk2.block (HK.out.block HX1.out)) (by decide) ?_
        intro w3 hw3
        replace hw3 := hw3.all rfl
        go_wp2
        refine bodyPost_ret (results_lab rfl _ _ X l sl rfl hw3.cells) rfl ?_
        exact ⟨sl, by rw [HRC.out]; rfl, by rw [HRC.out]; exact (HP.out.1.kept hk2).same (fun b hb => hw3.oth b (HP.out.2.2 b hb)), hw3.kept (HK1.out.trans (HK.out.trans hk2)) HXW.out⟩
      · obtain ⟨g, rfl, hc⟩ := hcl (by simp)
        obtain ⟨l, sl⟩ := p
        obtain ⟨l2, sl2⟩ := p2
        have HP := Lib.hid (HAL.out (l, sl) (by simp))
        have HP2 := Lib.hid (HAL.out (l2, sl2) (by simp))
        have HC := Lib.hid (cells_tail (xs := Lab.vals l sl) (ys := Lab.vals l2 sl2) hc)
        clear hc hcl HAL
        go_wp2_with fail
        refine Calls.mono (max_two l l2 sl sl2 HP.out.1.one HP2.out.1.one HP.out.2.1 HP2.out.2.1 g 0 cp wr HC.out.1 HC.out.2) ?_
        rintro e w2 ⟨rfl, hk2⟩
        by_cases hgt : l.gen < l2.gen
        · replace HRC : Hid (res = (l2, 0)) := Lib.hid (by rw [HRC.out]; show (if l.gen < l2.gen then l2 else l, (0 : Int)) = _; rw [if_pos hgt])
          rw [if_pos hgt]
          go_wp2_with (refine stop_at (o := ⟨none, .store _ _ _, _, _, _, _⟩) ?_)
          refine Stop.mk ?_
          refine wpList_store_agg rfl _ _ rfl ty_lab X 0 rfl (Lab.vals l2 sl2) rfl rfl (lab_one l2 sl2 HP2.out.1.one) _ _ (hk2.block (HK.out.block HX1.out)) (by decide) ?_
          intro w3 hw3
          replace hw3 := hw3.all rfl
          go_wp2
          refine bodyPost_ret (results_lab rfl _ _ X l2 sl2 rfl hw3.cells) rfl ?_
          exact ⟨sl2, by rw [HRC.out]; rfl, by rw [HRC.out]; exact (HP2.out.1.kept hk2).same (fun b hb => hw3.oth b (HP2.out.2.2 b hb)), hw3.kept (HK1.out.trans (HK.out.trans hk2)) HXW.out⟩
        · replace HRC : Hid (res = (l, 0)) := Lib.hid (by rw [HRC.out]; show (if l.gen < l2.gen then l2 else l, (0 : Int)) = _; rw [if_neg hgt])
          rw [if_neg hgt]
          go_wp2_with (refine stop_at (o := ⟨none, .store _ _ _, _, _, _, _⟩) ?_)
          refine Stop.mk ?_
          refine wpList_store_agg rfl _ _ rfl ty_lab X 0 rfl (Lab.vals l sl) rfl rfl (lab_one l sl HP.out.1.one) _ _ (hk2.block (HK.out.block HX1.out)) (by decide) ?_
          intro w3 hw3
          replace hw3 := hw3.all rfl
          go_wp2
          refine bodyPost_ret (results_lab rfl _ _ X l sl rfl hw3.cells) rfl ?_
          exact ⟨sl, by rw [HRC.out]; rfl, by rw [HRC.out]; exact (HP.out.1.kept hk2).same (fun b hb => hw3.oth b (HP.out.2.2 b hb)), hw3.kept (HK1.out.trans (HK.out.trans hk2)) HXW.out⟩
      · exfalso
        have := hlen2.out
        simp at this
end
end Go.Proofs.Ytglplhmclfekfaa
