/- The document's bank: Write where nobody fails and nothing is armed (gen_rwrite.py). -/
import Derived.Test.YtcbghpcohbgcjaaRkc
import Derived.Test.YtcbghpcohbgcjaaMja
namespace Go.Proofs.Ytcbghpcohbgcjaa
open Go.RowKit
set_option linter.unusedVariables false
set_option linter.unusedSimpArgs false

theorem nodup_pair {D : List (Nat × Nat × Nat)} (h : (D.flatMap fun d => [d.2.1, d.2.2]).Nodup) {i j : Nat} (hi : i < D.length) (hj : j < D.length) : D[i].2.1 ≠ D[j].2.2 ∧ (i ≠ j → D[i].2.2 ≠ D[j].2.2) := by
  have hl : (D.flatMap fun d => [d.2.1, d.2.2]).length = D.length * 2 := by
    clear h hi hj
    induction D with
    | nil => rfl
    | cons x D ih => rw [List.flatMap_cons, List.length_append, ih, List.length_cons]; simp; omega
  have a1 : ∀ k (hk : k < D.length), (D.flatMap fun d => [d.2.1, d.2.2])[k * 2]? = some D[k].2.1 := fun k hk => by
    have := flatMap_at D (fun d => [d.2.1, d.2.2]) 2 (fun _ _ => rfl) k 0 hk (by decide)
    simpa using this
  have a2 : ∀ k (hk : k < D.length), (D.flatMap fun d => [d.2.1, d.2.2])[k * 2 + 1]? = some D[k].2.2 := fun k hk => by
    have := flatMap_at D (fun d => [d.2.1, d.2.2]) 2 (fun _ _ => rfl) k 1 hk (by decide)
    simpa using this
  constructor
  · intro e
    have := (List.getElem?_inj (i := i * 2) (j := j * 2 + 1) (by omega) h).1 (by rw [a1 i hi, a2 j hj, e])
    omega
  · intro hij e
    have := (List.getElem?_inj (i := i * 2 + 1) (j := j * 2 + 1) (by omega) h).1 (by rw [a2 i hi, a2 j hj, e])
    omega
theorem RT.d_up {T : RT} {k : Nat} (m : RMed) (h : k < T.l.length) (j : Nat) : (T.up k m).d j = if j = k then m else T.d j := by
  unfold RT.d RT.up
  simp only [List.getD_eq_getElem?_getD, List.getElem?_set]
  by_cases e : k = j
  · subst e; simp [h]
  · simp [e, Ne.symm e]
/-- a write that is carried out -/
def RT.put (T : RT) (d a : Nat) (s : List Int) : RT :=
  { T.up d { T.d d with new := (T.d d).new.set a s } with n := T.n + 1, loose := if (d, a) ∈ T.loose then T.loose else T.loose ++ [(d, a)] }
section
variable {w w1 : World} {Y : RLay} {T : RT}
theorem own_ne {w : World} {base e size n base' e' size' n' : Nat} {v v' : Value} {xs xs' : List Value} (h : w.ownsRow base e size v n xs) (h' : w.ownsRow base' e' size' v' n' xs') (he : e' ≠ e) {g : Nat} (hg : v'.ownBlock = some g) : v.ownBlock ≠ some g := by
  rcases h'.2 with ⟨rfl, _⟩ | ⟨g', cap, cur, rfl, _, hh, _⟩
  · cases hg
  · simp only [Value.ownBlock, Option.some.injEq] at hg
    subst hg
    exact own_other h hh he
theorem RefD.put_bank (h : RefD w Y T) {lv' : Value} {T' : RT} (hl : T'.l = T.l) (hw : Wrote w w1 Y.q (rbank { Y with lv := lv' } T') 90) (hloo : w.ownsRow 0 31 2 lv' T'.loose.length (pvals T'.loose)) : RefD w1 { Y with lv := lv' } T' := by
  have hd : ∀ k, T'.d k = T.d k := fun k => by unfold RT.d; rw [hl]
  have n1 : Y.Lv.ownBlock ≠ some Y.q := own_other h.lst h.bank (by decide)
  have n2 : lv'.ownBlock ≠ some Y.q := own_other hloo h.bank (by decide)
  refine ⟨hw.blk, by rw [hl]; exact h.len, own_same h.lst fun g hg => hw.oth g (fun e => n1 (e ▸ hg)), own_same hloo fun g hg => hw.oth g (fun e => n2 (e ▸ hg)), fun k hk => ?_, fun k hk => ?_, fun k hk => ?_, h.dd, h.dn⟩
  · show w1.heap[Y.D[k].1]? = some (.cells (rmed Y.D[k] (T'.d k)).toArray _ _)
    rw [hd, hw.oth _ (block_ty (h.dsk k hk) h.bank (by decide))]; exact h.dsk k hk
  · show w1.heap[Y.D[k].2.1]? = _
    rw [hd, hw.oth _ (block_ty (h.flu k hk) h.bank (by decide))]; exact h.flu k hk
  · show w1.heap[Y.D[k].2.2]? = _
    rw [hd, hw.oth _ (block_ty (h.new k hk) h.bank (by decide))]; exact h.new k hk
theorem RefD.put_loose {w9 w10 : World} (h : RefD w Y T) {v' : Value} {L : List (Nat × Nat)} (hg : Grw w w9 Y.lv v') (hown : w9.ownsRow 0 31 2 v' L.length (pvals L))
    (hw : Wrote w9 w10 Y.q (rbank { Y with lv := v' } { T with loose := L }) 90) : RefD w10 { Y with lv := v' } { T with loose := L } := by
  have k9 : ∀ {b : Nat} {cs : Array Value} {t : TypeId}, w.heap[b]? = some (.cells cs t (0, 0)) → t ≠ 31 → w9.heap[b]? = some (.cells cs t (0, 0)) := fun hb ht => (hg.blk (Array.getElem?_eq_some_iff.1 hb).1 (own_other h.loo hb ht)).trans hb
  have b9 := k9 h.bank (by decide)
  have l9 : w9.ownsRow 0 130 1 Y.Lv Y.D.length (rptrs Y.D) := own_same h.lst fun g hgl => hg.blk (own_lt h.lst hgl) (own_ne h.loo h.lst (by decide) hgl)
  have n1 : Y.Lv.ownBlock ≠ some Y.q := own_other l9 b9 (by decide)
  have n2 : v'.ownBlock ≠ some Y.q := own_other hown b9 (by decide)
  have fwd : ∀ {b : Nat} {cs : Array Value} {t : TypeId}, w.heap[b]? = some (.cells cs t (0, 0)) → t ≠ 31 → t ≠ 90 → w10.heap[b]? = some (.cells cs t (0, 0)) := fun hb ht ht2 => by
    rw [hw.oth _ (block_ty (k9 hb ht) b9 ht2)]; exact k9 hb ht
  exact ⟨hw.blk, h.len, own_same l9 fun g hgl => hw.oth g (fun e => n1 (e ▸ hgl)), own_same hown fun g hgl => hw.oth g (fun e => n2 (e ▸ hgl)), fun k hk => fwd (h.dsk k hk) (by decide) (by decide), fun k hk => fwd (h.flu k hk) (by decide) (by decide), fun k hk => fwd (h.new k hk) (by decide) (by decide), h.dd, h.dn⟩
theorem RefD.put_new (h : RefD w Y T) {k : Nat} (hk : k < Y.D.length) {l : List (List Int)} (hll : l.length = (T.d k).new.length) (hw : Wrote w w1 Y.D[k].2.2 (secs l) 36) : RefD w1 Y (T.up k { T.d k with new := l }) := by
  have hkT : k < T.l.length := by rw [← h.len]; exact hk
  have bn := h.new k hk
  have hup : ∀ j, (T.up k { T.d k with new := l }).d j = if j = k then { T.d k with new := l } else T.d j := fun j => RT.d_up _ hkT j
  refine ⟨?_, by simp [RT.up]; exact h.len, own_same h.lst fun g hg => hw.oth g (fun e => (own_other h.lst bn (by decide)) (e ▸ hg)), own_same h.loo fun g hg => hw.oth g (fun e => (own_other h.loo bn (by decide)) (e ▸ hg)), fun j hj => ?_, fun j hj => ?_, fun j hj => ?_, h.dd, h.dn⟩
  · rw [hw.oth _ (block_ty h.bank bn (by decide))]; exact h.bank
  · rw [hw.oth _ (block_ty (h.dsk j hj) bn (by decide)), hup, h.dsk j hj]
    by_cases e : j = k
    · subst e; rw [if_pos rfl]; simp [rmed, hll]
    · rw [if_neg e]
  · rw [hw.oth _ (nodup_pair h.dn hj hk).1, hup, h.flu j hj]
    by_cases e : j = k
    · subst e; rw [if_pos rfl]
    · rw [if_neg e]
  · by_cases e : j = k
    · subst e; rw [hup, if_pos rfl]; exact hw.blk
    · rw [hw.oth _ ((nodup_pair h.dn hj hk).2 e), hup, if_neg e]; exact h.new j hj
theorem RefD.pl (h : RefD w Y T) : ∃ ao cap, Y.lv = .slice ao T.loose.length cap ∧ ∀ i (hi : i < T.loose.length), ∃ g, ao = some ⟨g, 0, none⟩ ∧ Cells w g (i * 2) [.int .i64 (T.loose[i].1 : Int), .int .i64 (T.loose[i].2 : Int)] := by
  rcases owns_form h.loo with ⟨e, h0, _⟩ | ⟨g, cap, e, _, _, _, hc⟩
  · exact ⟨none, 0, by rw [e, h0], fun k hk => by omega⟩
  · refine ⟨_, cap, e, fun i hi => ⟨g, rfl, fun j hj => ?_⟩⟩
    have hpl : (pvals T.loose).length = T.loose.length * 2 := h.loo.1
    have hj2 : j < 2 := hj
    have := hc (i * 2 + j) (by omega)
    rw [Nat.zero_add] at this
    rw [this]
    have hat := flatMap_at T.loose (fun p => [Value.int .i64 (p.1 : Int), .int .i64 (p.2 : Int)]) 2 (fun _ _ => rfl) i j hi hj2
    have hlt : i * 2 + j < (pvals T.loose).length := by omega
    have : (pvals T.loose)[i * 2 + j]? = some ((pvals T.loose)[i * 2 + j]) := List.getElem?_eq_getElem hlt
    unfold pvals at this ⊢
    rw [hat] at this
    rw [List.getElem?_eq_getElem hj] at this
    exact this.symm
end
theorem ty_places : ElemT Try.prog 88 31 2 16 := by
  refine ⟨Try.underlying88, ?_, by decide⟩
  have h1 : (Try.prog.info? 31).map (fun i => (i.zero, i.size, i.bytes)) = some (some (.agg #[.int .i64 0, .int .i64 0]), 2, 16) := by kernel_rfl
  cases hi : Try.prog.info? 31 with
  | none => simp [hi] at h1
  | some i =>
    simp [hi] at h1
    exact ⟨i, _, rfl, h1.1, h1.2.1, h1.2.2, rfl⟩
theorem size_places : (Try.prog.info? 88).map (·.size) = some 1 := by kernel_rfl
theorem pvals_snoc (L : List (Nat × Nat)) (p : Nat × Nat) : pvals (L ++ [p]) = pvals L ++ [.int .i64 (p.1 : Int), .int .i64 (p.2 : Int)] := by simp [pvals]
theorem exec_load_plcO {W : World} {a : Act} {o : Oper} (x : Operand) (ho : o.op = .load 31 x) (b off : Nat) (hx : a.eval x = .pointer (some ⟨b, off, none⟩)) (xs : List Value) (hl : xs.length = 2) (hc : Cells W b off xs) :
    (execOp a.eval o).run Try.prog W = .ok (.value (.agg xs.toArray)) W := by
  obtain ⟨⟨d, hd1, hd2⟩, hs⟩ := ty_plc
  unfold execOp
  simp only [ho, hx, Instr.loadAt, Instr.sureAddr, Sem.run_bind, Sem.run_pure, Result.andThen_ok, run_loadVar_mid W b off 31 xs d (rangeAt_of_cells hc) hd1 hd2 (by rw [hs, hl])]
theorem exec_eq_plcB {W : World} {a : Act} {o : Oper} (x y : Operand) {t' : TypeId} (ho : o.op = .binOp .eql 31 x y t') (p q r s : Int) (b : Bool) (hb : (p == r && q == s) = b) (hx : a.eval x = .agg #[.int .i64 p, .int .i64 q]) (hy : a.eval y = .agg #[.int .i64 r, .int .i64 s]) :
    (execOp a.eval o).run Try.prog W = .ok (.value (.bool b)) W := by rw [← hb]; exact exec_eq_plc x y ho p q r s hx hy
/-- nobody fails, nothing is armed -/
structure RT.Calm (T : RT) : Prop where
  ok : T.Ok
  up : T.down = false
  arm : T.armed = 0
  dead : ∀ k, k < T.l.length → (T.d k).dead = false
  fail : ∀ k, k < T.l.length → (T.d k).fail = 0
  n : 0 ≤ T.n ∧ T.n < 1000000000
section
variable {w : World} {Y : RLay} {T : RT}
set_option maxHeartbeats 2000000
set_option maxRecDepth 100000
theorem ref_Write_calm (h : RefD w Y T) (c : T.Calm) {d a : Nat} (hd : d < T.l.length) (ha : a < (T.d d).new.length) (hmany : T.loose.length < 9000) {s : List Int} (hs : s.length = 64) :
    Calls Try.prog 79 #[.pointer (some ⟨Y.q, 0, none⟩), .agg #[.int .i64 (d : Int), .int .i64 (a : Int)], .agg (u8s s).toArray] w fun e w' => e = .returned (.int .i64 0) ∧
      ∃ Y' : RLay, RefD w' Y' (T.put d a s) ∧ Y'.q = Y.q ∧ (∀ b, Y'.In b → Y.In b ∨ w.heap.size ≤ b) ∧ But Y.In w w' := by
  have hdD : d < Y.D.length := by rw [h.len]; exact hd
  have hl32 := c.ok.len
  have hsz : ∀ k, k < T.l.length → (T.d k).new.length ≤ 4096 := fun k hk => by
    unfold RT.d; rw [List.getD_eq_getElem?_getD, List.getElem?_eq_getElem hk]; exact (c.ok.med _ (List.getElem_mem hk)).len
  have okd : (T.d d).Ok := by
    unfold RT.d; rw [List.getD_eq_getElem?_getD, List.getElem?_eq_getElem hd]; exact c.ok.med _ (List.getElem_mem hd)
  have hpl : T.placeE (d : Int) (a : Int) = 0 := by
    have hm : T.mayE (d : Int) = 0 := by unfold RT.mayE; rw [if_neg (by omega), Int.toNat_natCast, c.dead d hd, if_neg (by decide), c.up, if_neg (by decide)]
    unfold RT.placeE; rw [hm, if_neg (by decide), Int.toNat_natCast, if_neg (by omega)]
  obtain ⟨n0, n1⟩ := c.n
  have H := Lib.hid h; have HC := Lib.hid c; have HS := Lib.hid hs; have HSZ := Lib.hid hsz; have HOK := Lib.hid okd; have HPL := Lib.hid hpl; have HAL := Lib.hid ha; have HDD := Lib.hid hdD; have HMANY := Lib.hid hmany
  have hup := c.up
  have HIN : Hid (∀ b, Y.In b → b < w.heap.size) := Lib.hid fun b hb => h.lt hb
  clear h c hs hsz okd hpl ha hmany
  go_enter Try.func79, Try.ntmps79
  go_wp2_with (refine stop_at (o := ⟨some 4, _, _, _, _, _⟩) ?_)
  refine Stop.mk ?_
  refine wpList_box_row rfl _ _ rfl [.int .i64 (d : Int), .int .i64 (a : Int)] rfl ?_
  intro w1 hz hs1 hk1
  have HX1 := hz
  have HK1 := Lib.hid hk1
  have HXs : Hid (w.heap.size < w1.heap.size) := Lib.hid hs1
  generalize hXe : w.heap.size = X at HX1 HXs
  have HXe := Lib.hid hXe
  clear hz hs1 hk1 hXe
  go_wp2_with (refine stop_at (o := ⟨some 5, _, _, _, _, _⟩) ?_)
  refine Stop.mk ?_
  refine wpList_box_row rfl _ _ rfl (u8s s) rfl ?_
  intro w2 hz hs2 hk2
  have HX2 := Lib.hid (hk2.block HX1.out)
  have HZ2 := hz
  have HK2 := Lib.hid (HK1.out.trans hk2)
  have HZs : Hid (w1.heap.size < w2.heap.size ∧ X < w1.heap.size) := Lib.hid ⟨hs2, HXs.out⟩
  generalize w1.heap.size = Z at *
  clear hz hs2 hk2 HX1 HK1 HXs
  have H2 := Lib.hid (H.out.kept HK2.out)
  have HXq : Hid (X ≠ Y.q ∧ Z ≠ Y.q) := Lib.hid ⟨block_ty HX2.out H2.out.bank (by decide), block_ty HZ2.out H2.out.bank (by decide)⟩
  have b2 := H2.out.b2
  have b3 := H2.out.b3
  rw [hup] at b2
  go_wp2_with (refine stop_at (o := ⟨none, .store _ _ _, _, _, _, _⟩) ?_)
  refine Stop.mk ?_
  refine wpList_set_cell rfl _ _ rfl size_int Y.q 3 rfl (.int .i64 (T.n + 1)) rfl rfl rfl _ _ H2.out.bank (by simp [rbank]) ?_
  intro w3 hw3
  have H3 : Hid (RefD w3 Y { T with n := T.n + 1 }) := Lib.hid (H2.out.put_bank (lv' := Y.lv) (T' := { T with n := T.n + 1 }) rfl hw3 H2.out.loo)
  have HX3 := Lib.hid ((hw3.oth X HXq.out.1).trans HX2.out)
  have HZ3 := Lib.hid ((hw3.oth Z HXq.out.2).trans HZ2.out)
  have HB3 : Hid (But Y.In w w3) := Lib.hid ((But.kept HK2.out).trans (But.wrote hw3 (.inl rfl)))
  have hsz3 : Hid (w2.heap.size = w3.heap.size) := Lib.hid hw3.size.symm
  clear hw3 HX2 HZ2 b2 b3 H2 HK2 H
  obtain ⟨ao, cap, hL, hrow⟩ := H3.out.lform
  obtain ⟨g, rfl, _⟩ := hrow d hdD
  have b0 := H3.out.b0
  rw [hL] at b0
  have HROW := Lib.hid hrow
  have HLF := Lib.hid hL
  clear hrow hL hup
  have hlen' : ({ T with n := T.n + 1 } : RT).l.length = T.l.length := rfl
  rw [hlen'] at b0
  clear hlen'
  have HT : Hid (∀ k, ({ T with n := T.n + 1 } : RT).d k = T.d k) := Lib.hid fun _ => rfl
  generalize hTl : T.l.length = m at *
  have HTL := Lib.hid hTl; clear hTl
  go_upto_block 0 with fail
  go_cut [] (fun wc => Hid (wc = w3))
  case first =>
    go_wp2
    go_loop [7] (fun i => ∃ k : Nat, k ≤ m ∧ i = .int .i64 k) (fun i => m - (intOf i).toNat)
    case atStart => exact ⟨0, Nat.zero_le _, rfl⟩
    case round =>
      obtain ⟨k, hk, rfl⟩ := hrel
      by_cases hlt : k < m
      · have hkD : k < Y.D.length := by rw [H3.out.len]; show k < T.l.length; rw [HTL.out]; exact hlt
        obtain ⟨g', hg, cr⟩ := HROW.out k hkD
        injection hg with hg
        injection hg with hg
        subst hg
        have cf := H3.out.d3 hkD
        rw [HT.out, HC.out.fail k (by rw [HTL.out]; exact hlt)] at cf
        generalize Y.D[k].1 = bd at *
        go_wp2
        go_round
        case rel => exact ⟨k + 1, hlt, by go_num⟩
        case measure => simp [intOf]; omega
      · have hkm : m ≤ k := by omega
        go_wp2
        go_meet
        case rel => exact Lib.hid rfl
  case rest =>
    obtain rfl := hcut.out
    have b4 := H3.out.b4
    rw [show ({ T with n := T.n + 1 } : RT).armed = 0 from HC.out.arm] at b4
    obtain ⟨p0, p1⟩ := Pl.of HX3.out
    have HP := Lib.hid (ref_place H3.out (by show T.l.length ≤ 32; rw [HTL.out]; exact hl32) (fun k hk => HSZ.out k (by rw [← HTL.out]; exact hk)) (d : Int) (a : Int))
    rw [show ({ T with n := T.n + 1 } : RT).placeE (d : Int) (a : Int) = 0 from HPL.out] at HP
    go_wp2_with fail
    refine Calls.mono HP.out ?_
    rintro e w4 ⟨rfl, hk4⟩
    have H4 := Lib.hid (H3.out.kept hk4)
    have HX4 := Lib.hid (hk4.block HX3.out)
    have HZ4 := Lib.hid (hk4.block HZ3.out)
    have HB4 := Lib.hid (HB3.out.trans (But.kept hk4))
    replace b0 := hk4.cell' b0
    obtain ⟨g', hg, cr⟩ := HROW.out d hdD
    injection hg with hg
    injection hg with hg
    subst hg
    replace cr := hk4.cell' cr
    have cn := H4.out.d1 hdD
    rw [HT.out] at cn
    clear hk4 H3 HX3 HZ3 HB3 b4 p0 p1 HP hcut
    have hal := HAL.out
    have hal2 : (T.d d).new.length ≤ 4096 := HSZ.out d hd
    have HNB : Hid (w4.heap[Y.D[d].2.2]? = some (.cells (secs (T.d d).new).toArray 36 (0, 0))) := Lib.hid (H4.out.new d hdD)
    have HJ : Hid (splice (secs (T.d d).new) (a * 64) (u8s s) = secs ((T.d d).new.set a s)) := Lib.hid (splice_flat _ (fun x hx => (HOK.out.new.2 x hx).1) a hal s HS.out)
    have HQ : Hid ((secs (T.d d).new).length = (T.d d).new.length * 64) := Lib.hid (secs_length _ (fun x hx => (HOK.out.new.2 x hx).1))
    have HPN := Lib.hid fun (w5 : World) (hw : Wrote w4.drew w5 Y.D[d].2.2 (secs ((T.d d).new.set a s)) 36) => (H4.out.kept (Kept.refl w4).drew).put_new hdD (l := (T.d d).new.set a s) (by rw [List.length_set]; rfl) hw
    have HBN := Lib.hid fun (w5 : World) (hw : Wrote w4.drew w5 Y.D[d].2.2 (secs ((T.d d).new.set a s)) 36) => (HB4.out.trans (But.kept (Kept.refl w4).drew)).trans (But.wrote hw (.inr (.inr (.inr ⟨_, List.getElem_mem hdD, .inr (.inr rfl)⟩))))
    have HXn : Hid (X ≠ Y.D[d].2.2) := Lib.hid (block_ty HX4.out HNB.out (by decide))
    generalize hbn : Y.D[d].2.2 = bn at *
    generalize hbd : Y.D[d].1 = bd at *
    generalize hzl : (T.d d).new.length = zl at *
    clear hbn hbd hzl
    obtain ⟨p0, p1⟩ := Pl.of HX4.out
    go_upto_region 18 with fail
    have hS : Kept w4 w4.drew := (Kept.refl _).drew
    refine wp_region_calm ?_
    refine wp_region_E (fun W => Kept w4 W) 15 (by kernel_rfl) ?_
    refine wpAnyE_take (i := 0) (v := ?_) (listed' := #[true, false, false, false, false, false, false, false, false, false, false, false, false, false, false, false]) (by rfl) (by kernel_rfl) (by kernel_rfl) calm_put hS (by rfl) ?_ ?_
    rotate_left
    · intro W hW; clear hW; go_simp; try (with_reducible rfl)
    simp only [Act.put, List.getElem_toArray, List.getElem_cons_succ, List.getElem_cons_zero, List.setIfInBounds_toArray, List.set_cons_zero, List.set_cons_succ]
    refine wpAnyE_take (i := 1) (v := ?_) (listed' := #[true, true, false, false, false, false, false, false, false, false, false, false, false, false, false, false]) (by rfl) (by kernel_rfl) (by kernel_rfl) calm_put hS (by rfl) ?_ ?_
    rotate_left
    · intro W hW; clear hW; go_simp; try (with_reducible rfl)
    simp only [Act.put, List.getElem_toArray, List.getElem_cons_succ, List.getElem_cons_zero, List.setIfInBounds_toArray, List.set_cons_zero, List.set_cons_succ]
    refine wpAnyE_take (i := 2) (v := ?_) (listed' := #[true, true, true, false, false, false, false, false, false, false, false, false, false, false, false, false]) (by rfl) (by kernel_rfl) (by kernel_rfl) calm_put hS (by rfl) ?_ ?_
    rotate_left
    · intro W hW; clear hW; go_simp; try (with_reducible rfl)
    simp only [Act.put, List.getElem_toArray, List.getElem_cons_succ, List.getElem_cons_zero, List.setIfInBounds_toArray, List.set_cons_zero, List.set_cons_succ]
    refine wpAnyE_take (i := 3) (v := ?_) (listed' := #[true, true, true, true, false, false, false, false, false, false, false, false, false, false, false, false]) (by rfl) (by kernel_rfl) (by kernel_rfl) calm_put hS (by rfl) ?_ ?_
    rotate_left
    · intro W hW; have b0' := hW.cell' b0; have cr' := hW.cell' cr; have cn' := hW.cell' cn; have p0' := hW.cell' p0; have p1' := hW.cell' p1; go_simp; try (with_reducible rfl)
    simp only [Act.put, List.getElem_toArray, List.getElem_cons_succ, List.getElem_cons_zero, List.setIfInBounds_toArray, List.set_cons_zero, List.set_cons_succ]
    refine wpAnyE_take (i := 4) (v := ?_) (listed' := #[true, true, true, true, true, false, false, false, false, false, false, false, false, false, false, false]) (by rfl) (by kernel_rfl) (by kernel_rfl) calm_put hS (by rfl) ?_ ?_
    rotate_left
    · intro W hW; clear hW; go_simp; try (with_reducible rfl)
    simp only [Act.put, List.getElem_toArray, List.getElem_cons_succ, List.getElem_cons_zero, List.setIfInBounds_toArray, List.set_cons_zero, List.set_cons_succ]
    refine wpAnyE_take (i := 5) (v := ?_) (listed' := #[true, true, true, true, true, true, false, false, false, false, false, false, false, false, false, false]) (by rfl) (by kernel_rfl) (by kernel_rfl) calm_put hS (by rfl) ?_ ?_
    rotate_left
    · intro W hW; have b0' := hW.cell' b0; have cr' := hW.cell' cr; have cn' := hW.cell' cn; have p0' := hW.cell' p0; have p1' := hW.cell' p1; go_simp; try (with_reducible rfl)
    simp only [Act.put, List.getElem_toArray, List.getElem_cons_succ, List.getElem_cons_zero, List.setIfInBounds_toArray, List.set_cons_zero, List.set_cons_succ]
    refine wpAnyE_take (i := 6) (v := ?_) (listed' := #[true, true, true, true, true, true, true, false, false, false, false, false, false, false, false, false]) (by rfl) (by kernel_rfl) (by kernel_rfl) calm_put hS (by rfl) ?_ ?_
    rotate_left
    · intro W hW; clear hW; go_simp; try (with_reducible rfl)
    simp only [Act.put, List.getElem_toArray, List.getElem_cons_succ, List.getElem_cons_zero, List.setIfInBounds_toArray, List.set_cons_zero, List.set_cons_succ]
    refine wpAnyE_take (i := 7) (v := ?_) (listed' := #[true, true, true, true, true, true, true, true, false, false, false, false, false, false, false, false]) (by rfl) (by kernel_rfl) (by kernel_rfl) calm_put hS (by rfl) ?_ ?_
    rotate_left
    · intro W hW; have b0' := hW.cell' b0; have cr' := hW.cell' cr; have cn' := hW.cell' cn; have p0' := hW.cell' p0; have p1' := hW.cell' p1; go_simp; try (with_reducible rfl)
    simp only [Act.put, List.getElem_toArray, List.getElem_cons_succ, List.getElem_cons_zero, List.setIfInBounds_toArray, List.set_cons_zero, List.set_cons_succ]
    refine wpAnyE_take (i := 8) (v := ?_) (listed' := #[true, true, true, true, true, true, true, true, true, false, false, false, false, false, false, false]) (by rfl) (by kernel_rfl) (by kernel_rfl) calm_put hS (by rfl) ?_ ?_
    rotate_left
    · intro W hW; clear hW; go_simp; try (with_reducible rfl)
    simp only [Act.put, List.getElem_toArray, List.getElem_cons_succ, List.getElem_cons_zero, List.setIfInBounds_toArray, List.set_cons_zero, List.set_cons_succ]
    refine wpAnyE_take (i := 9) (v := ?_) (listed' := #[true, true, true, true, true, true, true, true, true, true, false, false, false, false, false, false]) (by rfl) (by kernel_rfl) (by kernel_rfl) calm_put hS (by rfl) ?_ ?_
    rotate_left
    · intro W hW; clear hW; go_simp; try (with_reducible rfl)
    simp only [Act.put, List.getElem_toArray, List.getElem_cons_succ, List.getElem_cons_zero, List.setIfInBounds_toArray, List.set_cons_zero, List.set_cons_succ]
    refine wpAnyE_take (i := 10) (v := ?_) (listed' := #[true, true, true, true, true, true, true, true, true, true, true, false, false, false, false, false]) (by rfl) (by kernel_rfl) (by kernel_rfl) calm_put hS (by rfl) ?_ ?_
    rotate_left
    · intro W hW; have b0' := hW.cell' b0; have cr' := hW.cell' cr; have cn' := hW.cell' cn; have p0' := hW.cell' p0; have p1' := hW.cell' p1; go_simp; try (with_reducible rfl)
    simp only [Act.put, List.getElem_toArray, List.getElem_cons_succ, List.getElem_cons_zero, List.setIfInBounds_toArray, List.set_cons_zero, List.set_cons_succ]
    refine wpAnyE_take (i := 11) (v := ?_) (listed' := #[true, true, true, true, true, true, true, true, true, true, true, true, false, false, false, false]) (by rfl) (by kernel_rfl) (by kernel_rfl) calm_put hS (by rfl) ?_ ?_
    rotate_left
    · intro W hW; clear hW; go_simp; try (with_reducible rfl)
    simp only [Act.put, List.getElem_toArray, List.getElem_cons_succ, List.getElem_cons_zero, List.setIfInBounds_toArray, List.set_cons_zero, List.set_cons_succ]
    refine wpAnyE_take (i := 12) (v := ?_) (listed' := #[true, true, true, true, true, true, true, true, true, true, true, true, true, false, false, false]) (by rfl) (by kernel_rfl) (by kernel_rfl) calm_put hS (by rfl) ?_ ?_
    rotate_left
    · intro W hW; have b0' := hW.cell' b0; have cr' := hW.cell' cr; have cn' := hW.cell' cn; have p0' := hW.cell' p0; have p1' := hW.cell' p1; go_simp; try (with_reducible rfl)
    simp only [Act.put, List.getElem_toArray, List.getElem_cons_succ, List.getElem_cons_zero, List.setIfInBounds_toArray, List.set_cons_zero, List.set_cons_succ]
    refine wpAnyE_take (i := 13) (v := .agg (u8s s).toArray) (listed' := #[true, true, true, true, true, true, true, true, true, true, true, true, true, true, false, false]) (by rfl) (by kernel_rfl) (by kernel_rfl) calm_put hS (by rfl) ?_ ?_
    · intro W hW; have b0' := hW.cell' b0; have cr' := hW.cell' cr; have cn' := hW.cell' cn; have p0' := hW.cell' p0; have p1' := hW.cell' p1; exact exec_load_sec _ rfl Z rfl s HS.out (Cells.of_block (hW.block HZ4.out))
    simp only [Act.put, List.getElem_toArray, List.getElem_cons_succ, List.getElem_cons_zero, List.setIfInBounds_toArray, List.set_cons_zero, List.set_cons_succ]
    refine wpAnyE_take (i := 14) (v := ?_) (listed' := #[true, true, true, true, true, true, true, true, true, true, true, true, true, true, true, false]) (by rfl) (by kernel_rfl) (by kernel_rfl) calm_put hS (by rfl) ?_ ?_
    rotate_left
    · intro W hW; clear hW; go_simp; try (with_reducible rfl)
    simp only [Act.put, List.getElem_toArray, List.getElem_cons_succ, List.getElem_cons_zero, List.setIfInBounds_toArray, List.set_cons_zero, List.set_cons_succ]
    refine wpAnyE_one (i := 15) (listed' := #[true, true, true, true, true, true, true, true, true, true, true, true, true, true, true, true]) (by rfl) (by kernel_rfl) (by kernel_rfl) (by rfl) (fun K hK => ?_)
    simp only [Act.put, List.getElem_toArray, List.getElem_cons_succ, List.getElem_cons_zero, List.setIfInBounds_toArray, List.set_cons_zero, List.set_cons_succ]
    refine wp_store_agg _ _ rfl ty_sec bn (a * 64) rfl (u8s s) rfl (by rw [u8s_length, HS.out]) (u8s_one _) _ _ (hS.block HNB.out) (by rw [HQ.out]; omega) ?_
    intro w5 hw5
    rw [HJ.out] at hw5
    refine hK _ _ (fun h => absurd rfl h) ?_; clear hK K
    refine wpAnyE_done (by kernel_rfl) ?_ _
    refine calm_normal ?_
    have H5 := Lib.hid (HPN.out w5 hw5)
    have HB5 := Lib.hid (HBN.out w5 hw5)
    have HX5 := Lib.hid ((hw5.oth X HXn.out).trans ((Kept.refl w4).drew.block HX4.out))
    clear hS p0 p1 cr cn b0 hw5 HPN HBN HXn HNB HJ HQ H4 HX4 HZ4 HB4 hal hal2
    obtain ⟨lo, lc, hlv, hrowl⟩ := H5.out.pl
    have c1 := H5.out.b1
    rw [hlv] at c1
    have HROWL := Lib.hid hrowl
    have HLV := Lib.hid hlv
    clear hrowl hlv
    have hT1 : ∀ m' : RMed, (({ T with n := T.n + 1 } : RT).up d m').loose = T.loose := fun _ => rfl
    have HLL : Hid (∀ i (hi : i < T.loose.length), ∃ g, lo = some ⟨g, 0, none⟩ ∧ Cells w5 g (i * 2) [.int .i64 (T.loose[i].1 : Int), .int .i64 (T.loose[i].2 : Int)]) := HROWL
    obtain ⟨ll, hll⟩ : ∃ ll, T.loose.length = ll := ⟨_, rfl⟩
    have HLVF : Hid (Y.lv = .slice lo ll lc) := Lib.hid (by rw [← hll]; exact HLV.out)
    replace c1 : w5.cell? ⟨Y.q, 1, none⟩ = some (.slice lo ll lc) := by rw [← hll]; exact c1
    clear HROWL HLV hT1
    have HPUT : Hid (∀ L, (if (d, a) ∈ T.loose then T.loose else T.loose ++ [(d, a)]) = L → T.put d a s = { (({ T with n := T.n + 1 } : RT).up d { ({ T with n := T.n + 1 } : RT).d d with new := (T.d d).new.set a s }) with loose := L }) := Lib.hid fun L hL => by unfold RT.put; rw [hL]; rfl
    have hmany : ll < 9000 := by rw [← hll]; exact HMANY.out
    have HLLN := Lib.hid hll; clear hll
    go_wp2
    go_loopw [9] (fun i wr => ∃ k : Nat, k ≤ ll ∧ i = .int .i64 k ∧ Hid (Kept w5 wr) ∧ Hid (∀ j, j < k → T.loose[j]? ≠ some (d, a))) (fun i _ => ll - (intOf i).toNat)
    case atStart => exact ⟨0, Nat.zero_le _, rfl, Lib.hid (Kept.refl _), Lib.hid fun j hj => absurd hj (Nat.not_lt_zero _)⟩
    case round =>
      obtain ⟨k, hk, rfl, HKW, HNO⟩ := hrel
      have c1' := HKW.out.cell' c1
      by_cases hlt : k < ll
      · have hkl : k < T.loose.length := by rw [HLLN.out]; exact hlt
        obtain ⟨lg, rfl, hcl⟩ := HLL.out k hkl
        have HCL := Lib.hid (Cells.kept hcl HKW.out)
        have hget : T.loose[k]? = some T.loose[k] := List.getElem?_eq_getElem hkl
        have HGET := Lib.hid hget
        have heq : (((T.loose[k].1 : Int) == (d : Int)) && ((T.loose[k].2 : Int) == (a : Int))) = true ∨ (((T.loose[k].1 : Int) == (d : Int)) && ((T.loose[k].2 : Int) == (a : Int))) = false := by cases (((T.loose[k].1 : Int) == (d : Int)) && ((T.loose[k].2 : Int) == (a : Int))) <;> simp
        have HKEY : Hid ((((T.loose[k].1 : Int) == (d : Int)) && ((T.loose[k].2 : Int) == (a : Int))) = true ↔ T.loose[k] = (d, a)) := Lib.hid (by
          simp only [Bool.and_eq_true, beq_iff_eq]
          constructor
          · rintro ⟨e1, e2⟩; exact Prod.ext (by omega) (by omega)
          · intro e; rw [e]; exact ⟨rfl, rfl⟩)
        clear hcl hget
        generalize T.loose[k] = pk at *
        have HXW := Lib.hid (HKW.out.block HX5.out)
        go_upto_region 22 with fail
        have hS : Kept wr wr.drew := (Kept.refl _).drew
        rcases heq with heq | heq
        · have HEQ := Lib.hid heq
          refine wp_region_calm ?_
          refine wp_region_E (fun W => Kept wr W) 100 (by kernel_rfl) ?_
          refine wpAnyE_take (i := 0) (v := ?_) (listed' := #[true, false, false, false, false, false, false, false, false]) (by rfl) (by kernel_rfl) (by kernel_rfl) calm_put hS (by rfl) ?_ ?_
          rotate_left
          · intro W hW; clear hW; go_simp; try (with_reducible rfl)
          simp only [Act.put, List.getElem_toArray, List.getElem_cons_succ, List.getElem_cons_zero, List.setIfInBounds_toArray, List.set_cons_zero, List.set_cons_succ]
          refine wpAnyE_take (i := 1) (v := ?_) (listed' := #[true, true, false, false, false, false, false, false, false]) (by rfl) (by kernel_rfl) (by kernel_rfl) calm_put hS (by rfl) ?_ ?_
          rotate_left
          · intro W hW; clear hW; go_simp; try (with_reducible rfl)
          simp only [Act.put, List.getElem_toArray, List.getElem_cons_succ, List.getElem_cons_zero, List.setIfInBounds_toArray, List.set_cons_zero, List.set_cons_succ]
          refine wpAnyE_take (i := 2) (v := ?_) (listed' := #[true, true, true, false, false, false, false, false, false]) (by rfl) (by kernel_rfl) (by kernel_rfl) calm_put hS (by rfl) ?_ ?_
          rotate_left
          · intro W hW; clear hW; go_simp; try (with_reducible rfl)
          simp only [Act.put, List.getElem_toArray, List.getElem_cons_succ, List.getElem_cons_zero, List.setIfInBounds_toArray, List.set_cons_zero, List.set_cons_succ]
          refine wpAnyE_take (i := 3) (v := ?_) (listed' := #[true, true, true, true, false, false, false, false, false]) (by rfl) (by kernel_rfl) (by kernel_rfl) calm_put hS (by rfl) ?_ ?_
          rotate_left
          · intro W hW; have c1'' := hW.cell' c1'; go_simp; try (with_reducible rfl)
          simp only [Act.put, List.getElem_toArray, List.getElem_cons_succ, List.getElem_cons_zero, List.setIfInBounds_toArray, List.set_cons_zero, List.set_cons_succ]
          refine wpAnyE_take (i := 4) (v := ?_) (listed' := #[true, true, true, true, true, false, false, false, false]) (by rfl) (by kernel_rfl) (by kernel_rfl) calm_put hS (by rfl) ?_ ?_
          rotate_left
          · intro W hW; clear hW; go_simp; try (with_reducible rfl)
          simp only [Act.put, List.getElem_toArray, List.getElem_cons_succ, List.getElem_cons_zero, List.setIfInBounds_toArray, List.set_cons_zero, List.set_cons_succ]
          refine wpAnyE_take (i := 5) (v := ?_) (listed' := #[true, true, true, true, true, true, false, false, false]) (by rfl) (by kernel_rfl) (by kernel_rfl) calm_put hS (by rfl) ?_ ?_
          rotate_left
          · intro W hW; clear hW; go_simp; try (with_reducible rfl)
          simp only [Act.put, List.getElem_toArray, List.getElem_cons_succ, List.getElem_cons_zero, List.setIfInBounds_toArray, List.set_cons_zero, List.set_cons_succ]
          refine wpAnyE_take (i := 6) (v := .agg #[.int .i64 (pk.1 : Int), .int .i64 (pk.2 : Int)]) (listed' := #[true, true, true, true, true, true, true, false, false]) (by rfl) (by kernel_rfl) (by kernel_rfl) calm_put hS (by rfl) ?_ ?_
          · intro W hW; have c1'' := hW.cell' c1'; exact exec_load_plcO _ rfl lg (k * 2) rfl [.int .i64 (pk.1 : Int), .int .i64 (pk.2 : Int)] rfl (Cells.kept HCL.out hW)
          simp only [Act.put, List.getElem_toArray, List.getElem_cons_succ, List.getElem_cons_zero, List.setIfInBounds_toArray, List.set_cons_zero, List.set_cons_succ]
          refine wpAnyE_take (i := 7) (v := .agg #[.int .i64 (d : Int), .int .i64 (a : Int)]) (listed' := #[true, true, true, true, true, true, true, true, false]) (by rfl) (by kernel_rfl) (by kernel_rfl) calm_put hS (by rfl) ?_ ?_
          · intro W hW; have c1'' := hW.cell' c1'; exact exec_load_plc _ rfl X rfl [.int .i64 (d : Int), .int .i64 (a : Int)] rfl (Cells.of_block (hW.block HXW.out))
          simp only [Act.put, List.getElem_toArray, List.getElem_cons_succ, List.getElem_cons_zero, List.setIfInBounds_toArray, List.set_cons_zero, List.set_cons_succ]
          refine wpAnyE_take (i := 8) (v := .bool true) (listed' := #[true, true, true, true, true, true, true, true, true]) (by rfl) (by kernel_rfl) (by kernel_rfl) calm_put hS (by rfl) ?_ ?_
          · intro W hW; clear hW; exact exec_eq_plcB _ _ rfl _ _ _ _ true HEQ.out rfl rfl
          simp only [Act.put, List.getElem_toArray, List.getElem_cons_succ, List.getElem_cons_zero, List.setIfInBounds_toArray, List.set_cons_zero, List.set_cons_succ]
          refine wpAnyE_done (by kernel_rfl) ?_ _
          refine calm_normal ?_
          have hmem : (d, a) ∈ T.loose := by
            rw [HKEY.out.1 HEQ.out] at HGET
            exact List.mem_of_getElem? HGET.out
          have HFIN := Lib.hid (HPUT.out _ (if_pos hmem))
          have HK2 := Lib.hid (HKW.out.trans hS)
          clear heq hmem hS
          go_wp2
          go_ret
          exact ⟨rfl, Y, by rw [HFIN.out]; exact H5.out.kept HK2.out, rfl, fun b hb => .inl hb, HB5.out.trans (But.kept HK2.out)⟩
        · have HEQ := Lib.hid heq
          refine wp_region_calm ?_
          refine wp_region_E (fun W => Kept wr W) 100 (by kernel_rfl) ?_
          refine wpAnyE_take (i := 0) (v := ?_) (listed' := #[true, false, false, false, false, false, false, false, false]) (by rfl) (by kernel_rfl) (by kernel_rfl) calm_put hS (by rfl) ?_ ?_
          rotate_left
          · intro W hW; clear hW; go_simp; try (with_reducible rfl)
          simp only [Act.put, List.getElem_toArray, List.getElem_cons_succ, List.getElem_cons_zero, List.setIfInBounds_toArray, List.set_cons_zero, List.set_cons_succ]
          refine wpAnyE_take (i := 1) (v := ?_) (listed' := #[true, true, false, false, false, false, false, false, false]) (by rfl) (by kernel_rfl) (by kernel_rfl) calm_put hS (by rfl) ?_ ?_
          rotate_left
          · intro W hW; clear hW; go_simp; try (with_reducible rfl)
          simp only [Act.put, List.getElem_toArray, List.getElem_cons_succ, List.getElem_cons_zero, List.setIfInBounds_toArray, List.set_cons_zero, List.set_cons_succ]
          refine wpAnyE_take (i := 2) (v := ?_) (listed' := #[true, true, true, false, false, false, false, false, false]) (by rfl) (by kernel_rfl) (by kernel_rfl) calm_put hS (by rfl) ?_ ?_
          rotate_left
          · intro W hW; clear hW; go_simp; try (with_reducible rfl)
          simp only [Act.put, List.getElem_toArray, List.getElem_cons_succ, List.getElem_cons_zero, List.setIfInBounds_toArray, List.set_cons_zero, List.set_cons_succ]
          refine wpAnyE_take (i := 3) (v := ?_) (listed' := #[true, true, true, true, false, false, false, false, false]) (by rfl) (by kernel_rfl) (by kernel_rfl) calm_put hS (by rfl) ?_ ?_
          rotate_left
          · intro W hW; have c1'' := hW.cell' c1'; go_simp; try (with_reducible rfl)
          simp only [Act.put, List.getElem_toArray, List.getElem_cons_succ, List.getElem_cons_zero, List.setIfInBounds_toArray, List.set_cons_zero, List.set_cons_succ]
          refine wpAnyE_take (i := 4) (v := ?_) (listed' := #[true, true, true, true, true, false, false, false, false]) (by rfl) (by kernel_rfl) (by kernel_rfl) calm_put hS (by rfl) ?_ ?_
          rotate_left
          · intro W hW; clear hW; go_simp; try (with_reducible rfl)
          simp only [Act.put, List.getElem_toArray, List.getElem_cons_succ, List.getElem_cons_zero, List.setIfInBounds_toArray, List.set_cons_zero, List.set_cons_succ]
          refine wpAnyE_take (i := 5) (v := ?_) (listed' := #[true, true, true, true, true, true, false, false, false]) (by rfl) (by kernel_rfl) (by kernel_rfl) calm_put hS (by rfl) ?_ ?_
          rotate_left
          · intro W hW; clear hW; go_simp; try (with_reducible rfl)
          simp only [Act.put, List.getElem_toArray, List.getElem_cons_succ, List.getElem_cons_zero, List.setIfInBounds_toArray, List.set_cons_zero, List.set_cons_succ]
          refine wpAnyE_take (i := 6) (v := .agg #[.int .i64 (pk.1 : Int), .int .i64 (pk.2 : Int)]) (listed' := #[true, true, true, true, true, true, true, false, false]) (by rfl) (by kernel_rfl) (by kernel_rfl) calm_put hS (by rfl) ?_ ?_
          · intro W hW; have c1'' := hW.cell' c1'; exact exec_load_plcO _ rfl lg (k * 2) rfl [.int .i64 (pk.1 : Int), .int .i64 (pk.2 : Int)] rfl (Cells.kept HCL.out hW)
          simp only [Act.put, List.getElem_toArray, List.getElem_cons_succ, List.getElem_cons_zero, List.setIfInBounds_toArray, List.set_cons_zero, List.set_cons_succ]
          refine wpAnyE_take (i := 7) (v := .agg #[.int .i64 (d : Int), .int .i64 (a : Int)]) (listed' := #[true, true, true, true, true, true, true, true, false]) (by rfl) (by kernel_rfl) (by kernel_rfl) calm_put hS (by rfl) ?_ ?_
          · intro W hW; have c1'' := hW.cell' c1'; exact exec_load_plc _ rfl X rfl [.int .i64 (d : Int), .int .i64 (a : Int)] rfl (Cells.of_block (hW.block HXW.out))
          simp only [Act.put, List.getElem_toArray, List.getElem_cons_succ, List.getElem_cons_zero, List.setIfInBounds_toArray, List.set_cons_zero, List.set_cons_succ]
          refine wpAnyE_take (i := 8) (v := .bool false) (listed' := #[true, true, true, true, true, true, true, true, true]) (by rfl) (by kernel_rfl) (by kernel_rfl) calm_put hS (by rfl) ?_ ?_
          · intro W hW; clear hW; exact exec_eq_plcB _ _ rfl _ _ _ _ false HEQ.out rfl rfl
          simp only [Act.put, List.getElem_toArray, List.getElem_cons_succ, List.getElem_cons_zero, List.setIfInBounds_toArray, List.set_cons_zero, List.set_cons_succ]
          refine wpAnyE_done (by kernel_rfl) ?_ _
          refine calm_normal ?_
          have HK2 := Lib.hid (HKW.out.trans hS)
          have HNO2 : Hid (∀ j, j < k + 1 → T.loose[j]? ≠ some (d, a)) := Lib.hid fun j hj => by
            by_cases e : j = k
            · rw [e, HGET.out]
              intro e2
              injection e2 with e2
              have := HKEY.out.2 e2
              rw [HEQ.out] at this; cases this
            · exact HNO.out j (by omega)
          clear heq hS
          go_wp2
          go_roundw
          case rel => exact ⟨k + 1, hlt, by go_num, HK2, HNO2⟩
          case measure => simp [intOf]; omega
      · have hkl : ll ≤ k := by omega
        have hnm : (d, a) ∉ T.loose := fun hm => by
          obtain ⟨j, hj, e⟩ := List.getElem_of_mem hm
          exact HNO.out j (by rw [HLLN.out] at hj; omega) (by rw [List.getElem?_eq_getElem hj, e])
        have HFIN := Lib.hid (HPUT.out _ (if_neg hnm))
        have H6 := Lib.hid (H5.out.kept (HKW.out.trans (Kept.refl wr).drew))
        have HX6 := Lib.hid (((HKW.out.trans (Kept.refl wr).drew)).block HX5.out)
        have HB6 := Lib.hid (HB5.out.trans (But.kept (HKW.out.trans (Kept.refl wr).drew)))
        clear hnm HNO
        go_upto_region 24 with fail
        have hS : wr.drew.cell? ⟨Y.q, 1, none⟩ = some (.slice lo ll lc) ∧ Pl wr.drew X (d : Int) (a : Int) := ⟨(Kept.refl _).drew.cell' c1', Pl.of HX6.out⟩
        obtain ⟨B, hB⟩ : ∃ B, B = Obj.cells #[Value.int .i64 (d : Int), .int .i64 (a : Int)] 31 := ⟨_, rfl⟩
        obtain ⟨w8, hw8⟩ : ∃ w8, w8 = (wr.alloc B).drew := ⟨_, rfl⟩
        have hk8 : Kept wr.drew w8 := by rw [hw8]; show Kept wr.drew (wr.drew.alloc B); exact (Kept.refl _).alloc _
        have bb : w8.heap[wr.drew.heap.size]? = some B := by rw [hw8]; exact heap_alloc_new wr.drew B
        rw [hB] at bb
        subst hB
        have h8 := H6.out.kept hk8
        obtain ⟨v', w9, hrun, hown, hgrw⟩ := own_append ty_places (b := wr.drew.heap.size) h8.loo (by show T.loose.length < 20000; rw [HLLN.out]; omega) (by decide) [.int .i64 (d : Int), .int .i64 (a : Int)] rfl (fun j u hu => by
          match j with
          | 0 => simp at hu; subst hu; exact cell_of_row _ _ 0 _ _ _ bb
          | 1 => simp at hu; subst hu; exact cell_of_row _ _ 1 _ _ _ bb
          | j + 2 => simp at hu) (one_plc _ _) 88
        have hnq : Y.lv.ownBlock ≠ some Y.q := own_other h8.loo h8.bank (by decide)
        have hq9 : w9.heap[Y.q]? = w8.heap[Y.q]? := hgrw.blk (h8.lt (.inl rfl)) hnq
        have hS8 : w8.cell? ⟨Y.q, 1, none⟩ = some (.slice lo ll lc) ∧ Pl w8 X (d : Int) (a : Int) := ⟨hk8.cell' hS.1, hS.2.kept hk8⟩
        have hxn : Y.lv.ownBlock ≠ some X := fun e => by
          have h1 : Y.In X := .inr (.inr (.inl e))
          have h2 := HIN.out X h1
          have h3 := HXe.out
          omega
        have hS9 : w9.cell? ⟨Y.q, 1, none⟩ = some (.slice lo ll lc) ∧ Pl w9 X (d : Int) (a : Int) := ⟨(World.cell?_of_block (a := ⟨Y.q, 1, none⟩) hq9).trans hS8.1, hS8.2.same (hgrw.blk (Array.getElem?_eq_some_iff.1 (hk8.block HX6.out)).1 hxn)⟩
        obtain ⟨bo, cap', hvf⟩ : ∃ bo cap', v' = .slice bo (T.loose.length + 1) cap' := by
          rcases hown.2 with ⟨_, h0⟩ | ⟨g, c, cur, e, _⟩
          · cases h0
          · exact ⟨_, c, e⟩
        have HB9 := Lib.hid (hq9.trans h8.bank)
        have H8 := Lib.hid h8
        have HOWN := Lib.hid hown; have HGRW := Lib.hid hgrw; have HVF := Lib.hid hvf; have HK8 := Lib.hid hk8
        clear bb h8 hnq hq9 hxn hown hgrw hvf hk8
        refine wp_region_calm ?_
        refine wp_region_E (fun W => W.cell? ⟨Y.q, 1, none⟩ = some (.slice lo ll lc) ∧ Pl W X (d : Int) (a : Int)) 10 (by kernel_rfl) ?_
        refine wpAnyE_take (i := 0) (v := ?_) (listed' := #[true, false, false, false, false, false, false, false, false, false, false]) (by rfl) (by kernel_rfl) (by kernel_rfl) calm_put hS (by rfl) ?_ ?_
        rotate_left
        · intro W hW; clear hW; go_simp; try (with_reducible rfl)
        simp only [Act.put, List.getElem_toArray, List.getElem_cons_succ, List.getElem_cons_zero, List.setIfInBounds_toArray, List.set_cons_zero, List.set_cons_succ]
        refine wpAnyE_take (i := 1) (v := ?_) (listed' := #[true, true, false, false, false, false, false, false, false, false, false]) (by rfl) (by kernel_rfl) (by kernel_rfl) calm_put hS (by rfl) ?_ ?_
        rotate_left
        · intro W hW; clear hW; go_simp; try (with_reducible rfl)
        simp only [Act.put, List.getElem_toArray, List.getElem_cons_succ, List.getElem_cons_zero, List.setIfInBounds_toArray, List.set_cons_zero, List.set_cons_succ]
        refine wpAnyE_take (i := 2) (v := ?_) (listed' := #[true, true, true, false, false, false, false, false, false, false, false]) (by rfl) (by kernel_rfl) (by kernel_rfl) calm_put hS (by rfl) ?_ ?_
        rotate_left
        · intro W hW; clear hW; go_simp; try (with_reducible rfl)
        simp only [Act.put, List.getElem_toArray, List.getElem_cons_succ, List.getElem_cons_zero, List.setIfInBounds_toArray, List.set_cons_zero, List.set_cons_succ]
        refine wpAnyE_take (i := 3) (v := ?_) (listed' := #[true, true, true, true, false, false, false, false, false, false, false]) (by rfl) (by kernel_rfl) (by kernel_rfl) calm_put hS (by rfl) ?_ ?_
        rotate_left
        · intro W hW; clear hW; go_simp; try (with_reducible rfl)
        simp only [Act.put, List.getElem_toArray, List.getElem_cons_succ, List.getElem_cons_zero, List.setIfInBounds_toArray, List.set_cons_zero, List.set_cons_succ]
        refine wpAnyE_take (i := 4) (v := ?_) (listed' := #[true, true, true, true, true, false, false, false, false, false, false]) (by rfl) (by kernel_rfl) (by kernel_rfl) calm_put hS (by rfl) ?_ ?_
        rotate_left
        · intro W hW; obtain ⟨c1'', p0, p1⟩ := hW; go_simp; try (with_reducible rfl)
        simp only [Act.put, List.getElem_toArray, List.getElem_cons_succ, List.getElem_cons_zero, List.setIfInBounds_toArray, List.set_cons_zero, List.set_cons_succ]
        refine wpAnyE_take (i := 5) (v := ?_) (listed' := #[true, true, true, true, true, true, false, false, false, false, false]) (by rfl) (by kernel_rfl) (by kernel_rfl) calm_put hS (by rfl) ?_ ?_
        rotate_left
        · intro W hW; obtain ⟨c1'', p0, p1⟩ := hW; go_simp; try (with_reducible rfl)
        simp only [Act.put, List.getElem_toArray, List.getElem_cons_succ, List.getElem_cons_zero, List.setIfInBounds_toArray, List.set_cons_zero, List.set_cons_succ]
        refine wpAnyE_one (i := 6) (listed' := #[true, true, true, true, true, true, true, false, false, false, false]) (by rfl) (by kernel_rfl) (by kernel_rfl) (by rfl) (fun K hK => ?_)
        simp only [Act.put, List.getElem_toArray, List.getElem_cons_succ, List.getElem_cons_zero, List.setIfInBounds_toArray, List.set_cons_zero, List.set_cons_succ]
        go_wp2
        rw [← hw8]
        have hS := hS8
        refine hK _ _ (fun _ => hS) ?_; clear hK K
        refine wpAnyE_one (i := 7) (listed' := #[true, true, true, true, true, true, true, true, false, false, false]) (by rfl) (by kernel_rfl) (by kernel_rfl) (by rfl) (fun K hK => ?_)
        simp only [Act.put, List.getElem_toArray, List.getElem_cons_succ, List.getElem_cons_zero, List.setIfInBounds_toArray, List.set_cons_zero, List.set_cons_succ]
        refine wp_append_run rfl rfl rfl (by rw [HLVF.out] at hrun; exact hrun) ?_
        have hS := hS9
        refine hK _ _ (fun _ => hS) ?_; clear hK K
        refine wpAnyE_one (i := 8) (listed' := #[true, true, true, true, true, true, true, true, true, false, false]) (by rfl) (by kernel_rfl) (by kernel_rfl) (by rfl) (fun K hK => ?_)
        simp only [Act.put, List.getElem_toArray, List.getElem_cons_succ, List.getElem_cons_zero, List.setIfInBounds_toArray, List.set_cons_zero, List.set_cons_succ]
        go_wp2
        refine hK _ _ (fun _ => hS9) ?_; clear hK K
        refine wpAnyE_take (i := 9) (v := ?_) (listed' := #[true, true, true, true, true, true, true, true, true, true, false]) (by rfl) (by kernel_rfl) (by kernel_rfl) calm_put hS (by rfl) ?_ ?_
        rotate_left
        · intro W hW; clear hW; go_simp; try (with_reducible rfl)
        simp only [Act.put, List.getElem_toArray, List.getElem_cons_succ, List.getElem_cons_zero, List.setIfInBounds_toArray, List.set_cons_zero, List.set_cons_succ]
        refine wpAnyE_one (i := 10) (listed' := #[true, true, true, true, true, true, true, true, true, true, true]) (by rfl) (by kernel_rfl) (by kernel_rfl) (by rfl) (fun K hK => ?_)
        simp only [Act.put, List.getElem_toArray, List.getElem_cons_succ, List.getElem_cons_zero, List.setIfInBounds_toArray, List.set_cons_zero, List.set_cons_succ]
        refine wp_set_cell _ _ rfl size_places Y.q 1 rfl v' rfl (by rw [HVF.out]; rfl) (by rw [HVF.out]; rfl) _ _ HB9.out (by simp [rbank]) ?_
        intro w10 hw10
        refine hK _ _ (fun h => absurd rfl h) ?_; clear hK K
        refine wpAnyE_done (by kernel_rfl) ?_ _
        refine calm_normal ?_
        have hsz8 := HK8.out.size
        have hszr := HB6.out.size
        have HFF : Hid (RefD w10 { Y with lv := v' } (T.put d a s)) := Lib.hid (by
          rw [HFIN.out]
          exact H8.out.put_loose HGRW.out (by rw [pvals_snoc, List.length_append]; exact HOWN.out) hw10)
        have HIN2 : Hid (∀ b, ({ Y with lv := v' } : RLay).In b → Y.In b ∨ w.heap.size ≤ b) := Lib.hid (by
          rintro b (hb | hb | hb | hb)
          · exact .inl (.inl hb)
          · exact .inl (.inr (.inl hb))
          · rcases HGRW.out with ⟨e, _⟩ | ⟨g', e, hge, _, _⟩
            · exact .inl (.inr (.inr (.inl (e ▸ hb))))
            · rw [e] at hb; injection hb with hb; exact .inr (by omega)
          · exact .inl (.inr (.inr (.inr hb))))
        have HBF : Hid (But Y.In w w10) := Lib.hid (by
          have hG6 : But Y.In w8 w9 := by
            rcases HGRW.out with ⟨_, hb⟩ | ⟨_, _, _, _, hk⟩
            · exact hb.mono fun i hi => .inr (.inr (.inl hi))
            · exact But.kept hk
          exact ((HB6.out.trans (But.kept HK8.out)).trans hG6).trans (But.wrote hw10 (.inl rfl)))
        clear hw10 hrun hS hS8 hS9
        go_wp2
        go_ret
        exact ⟨rfl, { Y with lv := v' }, HFF.out, rfl, HIN2.out, HBF.out⟩
end
end Go.Proofs.Ytcbghpcohbgcjaa
