/- metalog.Scan walked. -/
import Derived.Test.YtpeclkhppgabfaaDoorMrc
namespace Go.Proofs.YtpeclkhppgabfaaDoor
open Go.RowKit
set_option linter.unusedVariables false
set_option linter.unusedSimpArgs false

theorem bytes_info : (Tryd.prog.info? 25).map (fun i => (i.zero, i.size, i.bytes)) = some (some (.slice none 0 0), 1, 24) := by kernel_rfl
theorem ty_rows : ElemT Tryd.prog 41 25 1 24 := by
  refine ⟨Tryd.underlying41, ?_, by decide⟩
  have h1 := bytes_info
  cases hi : Tryd.prog.info? 25 with
  | none => simp [hi] at h1
  | some i =>
    simp only [hi, Option.map_some, Option.some.injEq, Prod.mk.injEq] at h1
    exact ⟨i, _, rfl, h1.1, h1.2.1, h1.2.2, rfl⟩
/-- the slice v, in a block of its own made since W0, reads the rows of bytes R, each in a block of its own -/
structure RIn (W0 W : World) (v : Value) (R : List (List Int)) : Prop where
  vs : ∃ vs : List Value, vs.length = R.length ∧ W.ownsRow 0 25 1 v R.length vs ∧ ∀ i, i < R.length → W.ownsRow W0.heap.size 5 1 (vs.getD i undef) (R.getD i []).length (u8s (R.getD i []))
  fresh : ∀ g, v.ownBlock = some g → W0.heap.size ≤ g
theorem RIn.nil (W0 W : World) : RIn W0 W (.slice none 0 0) [] := ⟨⟨[], rfl, World.ownsRow_nil W _ _ _, fun i h => absurd h (Nat.not_lt_zero _)⟩, fun g h => by simp [Value.ownBlock] at h⟩
theorem RIn.kept {W0 W W' : World} {v : Value} {R : List (List Int)} (h : RIn W0 W v R) (hk : Kept W W') : RIn W0 W' v R := by
  obtain ⟨vs, h1, h2, h3⟩ := h.vs
  exact ⟨⟨vs, h1, ownsRow_kept h2 hk, fun i hi => ownsRow_kept (h3 i hi) hk⟩, h.fresh⟩
theorem RIn.slice {W0 W : World} {v : Value} {R : List (List Int)} (h : RIn W0 W v R) : ∃ ao cap, v = .slice ao R.length cap := by
  obtain ⟨vs, h1, h2, h3⟩ := h.vs
  rcases owns_form h2 with ⟨rfl, h0, _⟩ | ⟨g, cap, rfl, _⟩
  · exact ⟨none, 0, by rw [h0]⟩
  · exact ⟨_, cap, rfl⟩
theorem fill_cell (cells : Array Value) (v : Value) (hc : cells.size = 1) (hv : v.cells = #[v]) : Instr.fill (fun i => some (i * 1, 1)) cells [(0, v)] = some [v].toArray := by
  obtain ⟨c1, e1, s1, k1⟩ := fill_one (place := fun i => some (i * 1, 1)) (cells := cells) (i := 0) (off := 0) (n := 1) (v := v) (rest := []) rfl (by rw [hv]; rfl) (by omega)
  rw [e1]
  show some c1 = _
  congr 1
  refine Array.ext_getElem? fun k => ?_
  rw [k1 k, hv]
  by_cases a : k < 1
  · rw [if_pos ⟨by omega, by omega⟩]; rfl
  · rw [if_neg (by omega), Array.getElem?_eq_none (by omega), Array.getElem?_eq_none (by simp; omega)]
theorem wpList_one_bytes {ops : Array Oper} {rest : List Oper} {o : Oper} {a : Act} {w : World} {Q : Exit → Act → World → Prop} (hg : o.guard = none) (x : Operand) (ho : o.op = .buildSlice 41 1 #[(0, x)])
    (v : Value) (hv : v.cells = #[v]) (hx : a.eval x = v)
    (h : ∀ w1, Hid (w1.heap[w.heap.size]? = some (.cells [v].toArray 25 (0, 0))) → w.heap.size < w1.heap.size → Kept w w1 → wpList Tryd.prog ops Q rest (a.put o.dst (.slice (some ⟨w.heap.size, 0, none⟩) 1 1)) w1) : wpList Tryd.prog ops Q (o :: rest) a w := by
  have h1 := bytes_info
  cases hi : Tryd.prog.info? 25 with
  | none => simp [hi] at h1
  | some i =>
    simp only [hi, Option.map_some, Option.some.injEq, Prod.mk.injEq] at h1
    refine wpList_buildSlice hg _ 25 1 _ ho [v].toArray i _ Tryd.underlying41 hi h1.1 (by rw [h1.2.1]; decide) (by rw [h1.2.1]; decide) ?_ (h _ (Lib.hid (heap_alloc_new w _)) (by simp) ((Kept.refl _).alloc _))
    have he : (#[(0, x)].map fun (i, x) => ((i, a.eval x) : Nat × Value)).toList = [(0, v)] := by simp [hx]
    rw [he, h1.2.1]
    exact fill_cell _ v (by simp) hv
theorem wpList_append_bytes {ops : Array Oper} {rest : List Oper} {o : Oper} {a : Act} {W0 W : World} {v : Value} {Q : Exit → Act → World → Prop} (hgd : o.guard = none) (s x : Operand) (ho : o.op = .call { callee := .builtin .append, args := #[s, x], argTypes := #[41, 41] })
    (R : List (List Int)) (hs : a.eval s = v) (hv : RIn W0 W v R) (hl : R.length < 20000) (b : Nat) (hx : a.eval x = .slice (some ⟨b, 0, none⟩) 1 1) (sv : Value) (z : List Int) (hz : W.ownsRow W0.heap.size 5 1 sv z.length (u8s z)) (hK : Kept W0 W) (hb : W.heap[b]? = some (.cells [sv].toArray 25 (0, 0)))
    (h : ∀ v' W', RIn W0 W' v' (R ++ [z]) → Kept W0 W' → wpList Tryd.prog ops Q rest (a.put o.dst v') W') : wpList Tryd.prog ops Q (o :: rest) a W := by
  refine wpList_plain hgd fun K hK' => ?_
  obtain ⟨vs, h1, h2, h3⟩ := hv.vs
  obtain ⟨v', W', hr, h4, h5⟩ := own_append ty_rows (b := b) h2 hl (by decide) [sv] rfl (fun j u hu => by
    have := cell_of_row W b j _ _ _ hb
    rw [this]; simpa using hu) (fun u hu => by rw [List.mem_singleton.1 hu]; exact (own_slice hz).2) o.type
  have key : ∀ (x : Value) (y : List Int), W.ownsRow W0.heap.size 5 1 x y.length (u8s y) → W'.ownsRow W0.heap.size 5 1 x y.length (u8s y) := fun x y hxy => own_same hxy fun g hg => h5.blk (own_lt hxy hg) (fun e => by
    rcases h2.2 with ⟨rfl, _⟩ | ⟨g', cap, cur, rfl, _, hg', _⟩
    · simp [Value.ownBlock] at e
    · simp only [Value.ownBlock, Option.some.injEq] at e
      subst e
      exact own_ne hxy hg' (by decide) _ hg rfl)
  unfold Oper.wp execOp
  simp only [ho, resolve, invoke, builtin, Sem.run_bind, Sem.run_pure, Result.andThen_ok, List.map_toArray, List.map_cons, List.map_nil, hs, hx, hr]
  refine hK' _ _ (h v' W' ⟨⟨vs ++ [sv], by rw [List.length_append, List.length_append, h1]; rfl, by rw [List.length_append]; exact h4, fun i hi => ?_⟩, fun g hg' => ?_⟩ ?_)
  · by_cases e : i < R.length
    · have e1 : (vs ++ [sv]).getD i undef = vs.getD i undef := by rw [List.getD_eq_getElem?_getD, List.getElem?_append_left (by omega), ← List.getD_eq_getElem?_getD]
      have e2 : (R ++ [z]).getD i [] = R.getD i [] := by rw [List.getD_eq_getElem?_getD, List.getElem?_append_left e, ← List.getD_eq_getElem?_getD]
      rw [e1, e2]
      exact key _ _ (h3 i e)
    · have ei : i = R.length := by rw [List.length_append, List.length_singleton] at hi; omega
      have e1 : (vs ++ [sv]).getD i undef = sv := by rw [List.getD_eq_getElem?_getD, List.getElem?_append_right (by omega), ei, h1]; simp
      have e2 : (R ++ [z]).getD i [] = z := by rw [List.getD_eq_getElem?_getD, List.getElem?_append_right (by omega), ei]; simp
      rw [e1, e2]
      exact key _ _ hz
  · rcases h5 with ⟨e, _⟩ | ⟨g', e, h6, _, _⟩
    · exact hv.fresh g (e ▸ hg')
    · rw [e] at hg'; injection hg' with hg'
      have := hK.size; omega
  · rcases h5 with ⟨_, hb⟩ | ⟨_, _, _, _, hk⟩
    · exact But.to_kept hK hb (fun k hk => hv.fresh k hk)
    · exact hK.trans hk
theorem moreL_len {rd : Rd} {live : List Int} {gen p num parts : Int} : ∀ (k : Nat) (l : List (List Int)), (moreL rd live gen p num parts k l).1.length ≤ l.length + k
  | 0, l => by unfold moreL; simp
  | k + 1, l => by
    unfold moreL
    split
    · simp
    · have := moreL_len (rd := rd) (live := live) (gen := gen) (p := p) (num := num) (parts := parts) k (l ++ [(findL rd (p + l.length) gen (soNext gen num l.length parts) live 0).s])
      rw [List.length_append, List.length_singleton] at this
      omega
theorem recL_len {rd : Rd} {live : List Int} {gen num : Int} {p : Nat} (hp : p ≤ 48) : p + (recL rd live gen p num).1.length ≤ 48 := by
  unfold recL
  split
  · simpa using hp
  · split
    · simpa using hp
    · split
      · simpa using hp
      · rename_i h1 h2 h3
        split
        · simpa using hp
        · rename_i h4
          have hok : (findL rd p gen (soFirst num) live 0).ok = true := by simpa using h3
          have hp1 := isTag_parts (findL_ok p gen (soFirst num) live 0 hok).1
          have := moreL_len (rd := rd) (live := live) (gen := gen) (p := p) (num := num) (parts := (tagRaw (findL rd p gen (soFirst num) live 0).s).parts) ((tagRaw (findL rd p gen (soFirst num) live 0).s).parts - 1).toNat [(findL rd p gen (soFirst num) live 0).s]
          rw [List.length_singleton] at this
          omega
section
variable {w0 W : World} {R : Nat → Prop} {q : Nat} {T : BankT}
set_option maxHeartbeats 4000000
set_option maxRecDepth 100000
theorem meta_Scan (h : BK w0 R W q T) (u : T.Use) (B c : Nat) (L : List Int) (hlv : Cells W B 0 (ints L)) (hBW : B < W.heap.size) (hL : L.length ≤ 100) (gen : Int) :
    Calls Tryd.prog 30 #[.pointer (some ⟨q, 0, none⟩), .slice (some ⟨B, 0, none⟩) L.length c, .int .i64 gen] W fun e w' => ∃ v, e = .returned (.tuple #[v, .int .i64 ((scanL T.read L gen 48 0 []).2.1 : Int), .int .i64 (scanL T.read L gen 48 0 []).2.2]) ∧ RIn W w' v (scanL T.read L gen 48 0 []).1 ∧ Kept W w' := by
  obtain ⟨res, hres⟩ : ∃ res, scanL T.read L gen 48 0 [] = res := ⟨_, rfl⟩
  rw [hres]
  have HRES := Lib.hid hres
  have HB := Lib.hid h; have HU := Lib.hid u; have HLV := Lib.hid hlv; have HBW := Lib.hid hBW
  clear h u hlv hBW hres
  go_enter Tryd.func30, Tryd.ntmps30
  go_wp2_with (refine stop_at (o := ⟨some 9, _, _, _, _, _⟩) ?_)
  refine Stop.mk ?_
  refine wpList_new_row rfl rfl _ _ rfl rfl ty_scan [.pointer none, .slice none 0 0, .int .i64 0] (fun w => by kernel_rfl) rfl [.pointer (some ⟨q, 0, none⟩), .slice (some ⟨B, 0, none⟩) L.length c, .int .i64 gen] rfl rfl (by intro u hu; simp at hu; rcases hu with rfl | rfl | rfl <;> rfl) rfl ?_
  intro w1 hz1 hs1 hk1
  have HX1 := hz1
  have HK1 := Lib.hid hk1
  have HXW := Lib.hid (Nat.le_refl W.heap.size)
  generalize hX : W.heap.size = X at hz1 HX1 HXW ⊢
  have HXE := Lib.hid hX
  clear hz1 hs1 hk1 hX
  go_wp2
  go_loopw [10, 11] (fun v i wr => ∃ (p f : Nat) (out : List (List Int)), p ≤ 48 ∧ 48 ≤ p + f ∧ out.length ≤ p ∧ i = .int .i64 p ∧ Hid (scanL T.read L gen f p out = res) ∧ Hid (RIn w1 wr v out) ∧ Hid (Kept w1 wr)) (fun _ i _ => 48 - (intOf i).toNat)
  case atStart => exact ⟨0, 48, [], by decide, by decide, by decide, rfl, HRES, Lib.hid (RIn.nil _ _), Lib.hid (Kept.refl _)⟩
  case round =>
    obtain ⟨p, f, out, hp, hpf, hop, rfl, HRES, HR, HK⟩ := hrel
    obtain ⟨wo, hwo⟩ : ∃ wo, wo = wr := ⟨_, rfl⟩
    subst hwo
    obtain ⟨ao, cap, hv⟩ : ∃ ao cap, u10 = Value.slice ao out.length cap := HR.out.slice
    subst hv
    by_cases hlt : p < 48
    · obtain ⟨f', rfl⟩ : ∃ f', f = f' + 1 := ⟨f - 1, by omega⟩
      have HKW := Lib.hid (HK1.out.trans HK.out)
      have HX := Lib.hid (HK.out.block HX1.out)
      have HRL := Lib.hid (recL_len (rd := T.read) (live := L) (gen := gen) (num := (out.length : Int)) hp)
      have HREC := Lib.hid (meta_record (HB.out.kept HKW.out).1 HU.out B c L (HLV.out.kept HKW.out) (Nat.lt_of_lt_of_le HBW.out HKW.out.size) hL gen (out.length : Int) p hp)
      unfold scanL at HRES
      rw [if_neg (by omega)] at HRES
      generalize recL T.read L gen (p : Int) (out.length : Int) = r at *
      obtain ⟨l, e⟩ := r
      simp only [] at HRES HRL HREC
      go_wp2_with (refine stop_at (o := ⟨some 23, _, _, _, _, _⟩) ?_)
      refine Stop.mk ?_
      refine wpList_load_agg rfl _ rfl ty_scan X 0 rfl _ (by simpa using Cells.of_block HX.out) rfl ?_
      go_wp2_with fail
      refine Calls.mono HREC.out ?_
      rintro e' w2 ⟨v, rfl, hsl, hsec, hfr, hk2⟩
      have HK2 := Lib.hid (HK.out.trans hk2)
      have HR2 := Lib.hid (HR.out.kept hk2)
      have HS2 := Lib.hid (And.intro hsl hsec)
      obtain ⟨ao2, cap2, hv2⟩ : ∃ ao2 cap2, v = Value.slice ao2 l.length cap2 := by
        obtain ⟨ao2, cap2, e, _⟩ := hsl.form
        exact ⟨ao2, cap2, e⟩
      subst hv2
      have hl48 : l.length ≤ 48 := by have := HRL.out; omega
      clear hsl hsec hfr hk2 HREC HX HK HR HKW
      by_cases he : e = 0
      · subst he
        rw [if_neg (by decide)] at HRES
        by_cases hl : l = []
        · rw [if_pos hl] at HRES
          have hl0 : l.length = 0 := by rw [hl]; rfl
          have HL0 := Lib.hid hl0
          clear hl hl0
          rw [HL0.out]
          go_wp2
          go_ret3
          exact ⟨_, by rw [← HRES.out]; rfl, by rw [← HRES.out]; exact ⟨HR2.out.vs.elim fun vs h => ⟨vs, h.1, h.2.1, fun i hi => ownsRow_base (h.2.2 i hi) HK1.out.size⟩, fun g hg => Nat.le_trans HK1.out.size (HR2.out.fresh g hg)⟩, HK1.out.trans HK2.out⟩
        · rw [if_neg hl] at HRES
          have hlp : 0 < l.length := List.length_pos_iff.2 hl
          have hlb : ((l.length : Int) == 0) = false := by simp; omega
          have HSS := Lib.hid (HS2.out.1.secSl HS2.out.2)
          clear hl
          go_wp2_with fail
          refine Calls.mono (record_Join gen (out.length : Int) _ l _ HSS.out (by omega)) ?_
          rintro e' w3 ⟨sv, rfl, hown, hk3⟩
          have HK3 := Lib.hid (HK2.out.trans hk3)
          have HR3 := Lib.hid (HR2.out.kept hk3)
          have HO3 := Lib.hid (ownsRow_base hown HK2.out.size)
          have HSV := Lib.hid (own_slice hown)
          generalize (joinB gen (out.length : Int) l).getD [] = z at *
          generalize (joinB gen (out.length : Int) l).isSome = zb at *
          clear hown hk3 HK2 HR2 HSS HS2
          go_wp2_with (refine stop_at (o := ⟨some 46, _, _, _, _, _⟩) ?_)
          refine Stop.mk ?_
          refine wpList_one_bytes rfl _ rfl sv HSV.out.1 rfl ?_
          intro w4 hz4 hs4 hk4
          have HK4 := Lib.hid (HK3.out.trans hk4)
          refine wpList_append_bytes rfl _ _ rfl out rfl (HR3.out.kept hk4) (by omega) w3.heap.size rfl sv z (ownsRow_kept HO3.out hk4) HK4.out hz4.out ?_
          intro v' w5 hr5 hk5
          have HR5 := Lib.hid hr5
          have HK5 := Lib.hid hk5
          have hrl := HRL.out
          clear hr5 hk5 hz4 hs4 hk4 HK4 HK3 HR3 HO3
          go_wp2
          go_roundw
          case rel => exact ⟨p + l.length, f', out ++ [z], hrl, by omega, by rw [List.length_append, List.length_singleton]; omega, by go_num, HRES, HR5, HK5⟩
          case measure => simp [intOf]; omega
      · have heb : (e == 0) = false := by simpa using he
        rw [if_pos he] at HRES
        clear he
        go_wp2
        go_ret3
        exact ⟨_, by rw [← HRES.out]; rfl, by rw [← HRES.out]; exact RIn.nil _ _, HK1.out.trans HK2.out⟩
    · have hge : 48 ≤ p := by omega
      have HRR : Hid (res = (out, p, 0)) := Lib.hid (by
        have := HRES.out
        cases f with
        | zero => unfold scanL at this; exact this.symm
        | succ f => unfold scanL at this; rw [if_pos hge] at this; exact this.symm)
      clear HRES
      go_wp2
      go_ret3
      exact ⟨_, by rw [HRR.out]; rfl, by rw [HRR.out]; exact ⟨HR.out.vs.elim fun vs h => ⟨vs, h.1, h.2.1, fun i hi => ownsRow_base (h.2.2 i hi) HK1.out.size⟩, fun g hg => Nat.le_trans HK1.out.size (HR.out.fresh g hg)⟩, HK1.out.trans HK.out⟩
end
end Go.Proofs.YtpeclkhppgabfaaDoor
