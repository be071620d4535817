/- A disk.Bank: a law's own bank; one sector is settled. -/
import Derived.Test.YtglplhmclfekfaaGreatEA
namespace Go.Proofs.YtglplhmclfekfaaGreat
open Go.RowKit
set_option linter.unusedVariables false
set_option linter.unusedSimpArgs false

theorem flat_len (l : List (List Int)) (h : ∀ s ∈ l, s.length = 64) : l.flatten.length = l.length * 64 := by
  induction l with
  | nil => rfl
  | cons x l ih =>
    rw [List.flatten_cons, List.length_append, h x (by simp), ih (fun s hs => h s (by simp [hs])), List.length_cons]; omega
theorem list_split (l : List (List Int)) (a : Nat) (ha : a < l.length) : ∃ l1 l2, l = l1 ++ l.getD a [] :: l2 ∧ l1.length = a ∧ ∀ s, l.set a s = l1 ++ s :: l2 := by
  refine ⟨l.take a, l.drop (a + 1), ?_, by simp; omega, fun s => ?_⟩
  · rw [List.getD_eq_getElem?_getD, List.getElem?_eq_getElem ha, Option.getD_some, List.getElem_cons_drop, List.take_append_drop]
  · rw [List.set_eq_take_append_cons_drop, if_pos ha]
theorem secs_split (l1 : List (List Int)) (x : List Int) (l2 : List (List Int)) : secs (l1 ++ x :: l2) = u8s l1.flatten ++ (u8s x ++ u8s l2.flatten) := by
  simp [secs, u8s]
theorem splice_mid (A X B S : List Value) (n : Nat) (hA : A.length = n) (hX : S.length = X.length) : splice (A ++ (X ++ B)) n S = A ++ (S ++ B) := by
  subst hA
  unfold splice
  rw [List.take_append_of_le_length (Nat.le_refl _), List.take_length, hX, ← List.drop_drop, List.drop_left, List.drop_left]
theorem sec_mem {l l1 l2 : List (List Int)} {x : List Int} (e : l = l1 ++ x :: l2) (h : ∀ s ∈ l, s.length = 64) : x.length = 64 ∧ l1.flatten.length = l1.length * 64 := by
  subst e
  exact ⟨h x (by simp), flat_len l1 (fun s hs => h s (by simp [hs]))⟩
theorem splice_flat (l : List (List Int)) (h : ∀ s ∈ l, s.length = 64) (a : Nat) (ha : a < l.length) (s : List Int) (hs : s.length = 64) : splice (secs l) (a * 64) (u8s s) = secs (l.set a s) := by
  obtain ⟨l1, l2, e, h1, e2⟩ := list_split l a ha
  obtain ⟨hx, hl⟩ := sec_mem e h
  rw [e2, secs_split]
  generalize l.getD a [] = x at *
  subst e
  rw [secs_split, splice_mid _ _ _ _ _ (by rw [u8s_length, hl, h1]) (by rw [u8s_length, u8s_length, hs, hx])]
theorem cells_sec {w : World} {b : Nat} {l : List (List Int)} (hc : Cells w b 0 (secs l)) (h : ∀ s ∈ l, s.length = 64) {a : Nat} (ha : a < l.length) : Cells w b (a * 64) (u8s (l.getD a [])) := by
  obtain ⟨l1, l2, e, h1, _⟩ := list_split l a ha
  obtain ⟨hx, hl⟩ := sec_mem e h
  generalize l.getD a [] = x at *
  subst e
  rw [secs_split] at hc
  have hA : (u8s l1.flatten).length = a * 64 := by rw [u8s_length, hl, h1]
  generalize u8s l1.flatten = A at *
  generalize u8s l2.flatten = B at *
  intro j hj
  have := hc (a * 64 + j) (by simp only [List.length_append]; omega)
  rw [Nat.zero_add] at this
  rw [this]
  congr 1
  rw [List.getElem_append_right (by omega), List.getElem_append_left (by omega)]
  simp only [hA, Nat.add_sub_cancel_left]
theorem Cells.left {w : World} {b off : Nat} {xs ys : List Value} (h : Cells w b off (xs ++ ys)) : Cells w b off xs := fun j hj => by
  rw [h j (by rw [List.length_append]; omega), List.getElem_append_left hj]
theorem splice_flatJ (l : List (List Int)) (h : ∀ s ∈ l, s.length = 64) (a : Nat) (ha : a < l.length) (s : List Int) (hs : s.length = 64) (J : List Value) : splice (secs l ++ J) (a * 64) (u8s s) = secs (l.set a s) ++ J := by
  obtain ⟨l1, l2, e, h1, e2⟩ := list_split l a ha
  obtain ⟨hx, hl⟩ := sec_mem e h
  rw [e2, secs_split]
  generalize l.getD a [] = x at *
  subst e
  rw [secs_split]
  simp only [List.append_assoc]
  rw [splice_mid _ _ _ _ _ (by rw [u8s_length, hl, h1]) (by rw [u8s_length, u8s_length, hs, hx])]
theorem secs_length (l : List (List Int)) (h : ∀ s ∈ l, s.length = 64) : (secs l).length = l.length * 64 := by rw [secs, u8s_length, flat_len l h]

/-- a law's own bank; R: the law's other blocks -/
structure BO (w0 : World) (R : Nat → Prop) (W : World) (Y : Lay) (T : BankT) : Prop where
  d : BankD W Y T
  keeps : Kept w0 W
  own : ∀ b, Y.In T.l.length b → w0.heap.size ≤ b
  off : ∀ k, R k → k < W.heap.size ∧ ¬ Y.In T.l.length k
/-- The blocks that R names are as they were. -/
def SameR (R : Nat → Prop) (W W' : World) : Prop := ∀ k, R k → W'.heap[k]? = W.heap[k]?
theorem SameR.refl (R : Nat → Prop) (W : World) : SameR R W W := fun _ _ => rfl
theorem SameR.trans {R : Nat → Prop} {a b c : World} (h : SameR R a b) (k : SameR R b c) : SameR R a c := fun i hi => (k i hi).trans (h i hi)
theorem SameR.cells {R : Nat → Prop} {a b : World} (h : SameR R a b) {B off : Nat} {xs : List Value} (hB : R B) (hc : Cells a B off xs) : Cells b B off xs := fun j hj => by
  rw [← hc j hj]; exact World.cell?_of_block (h B hB)
section
variable {w0 W W' : World} {R : Nat → Prop} {Y : Lay} {T T' : BankT}
theorem BO.step (h : BO w0 R W Y T) (hd : BankD W' Y T') (hl : T'.l.length = T.l.length) (hb : But (Y.In T.l.length) W W') : BO w0 R W' Y T' ∧ SameR R W W' :=
  ⟨⟨hd, But.to_kept h.keeps hb h.own, by rw [hl]; exact h.own, fun k hk => ⟨Nat.lt_of_lt_of_le (h.off k hk).1 hb.size, by rw [hl]; exact (h.off k hk).2⟩⟩, fun k hk => hb.block k (h.off k hk).1 (h.off k hk).2⟩
theorem BO.kept (h : BO w0 R W Y T) (hk : Kept W W') : BO w0 R W' Y T ∧ SameR R W W' := h.step (h.d.kept hk) rfl (But.kept hk)
theorem BO.less {R' : Nat → Prop} (h : BO w0 R W Y T) (hr : ∀ k, R' k → R k) : BO w0 R' W Y T := ⟨h.d, h.keeps, h.own, fun k hk => h.off k (hr k hk)⟩
theorem BO.more (h : BO w0 R W Y T) (hk : Kept W W') (B : Nat) (h1 : W.heap.size ≤ B) (h2 : B < W'.heap.size) : BO w0 (fun k => R k ∨ k = B) W' Y T := by
  refine ⟨h.d.kept hk, h.keeps.trans hk, h.own, fun k hk' => ?_⟩
  rcases hk' with h' | rfl
  · exact ⟨Nat.lt_of_lt_of_le (h.off k h').1 hk.size, (h.off k h').2⟩
  · exact ⟨h2, fun hs => by have := h.d.lt hs; omega⟩
theorem BO.wrote (h : BO w0 R W Y T) {B : Nat} {cs : List Value} {t : TypeId} (hw : Wrote W W' B cs t) (hB : R B) (hb : w0.heap.size ≤ B) : BO w0 R W' Y T :=
  ⟨h.d.same fun b hb' => hw.oth b (fun e => (h.off B hB).2 (e ▸ hb')), hw.kept h.keeps hb, h.own, fun k hk => by rw [hw.size]; exact h.off k hk⟩
end
theorem BankT.up_self {T : BankT} {k : Nat} (m : Med) (h : k < T.l.length) : (T.up k m).d k = m := by rw [BankT.d_up m h, if_pos rfl]
section
variable {w w1 : World} {Y : Lay} {T : BankT} {k : Nat}
theorem BankD.wrote_flu (h : BankD w Y T) (hk : k < T.l.length) {l : List (List Int)} (hw : Wrote w w1 (Y.A (3 + 4 * k)) (secs l ++ Y.J (3 + 4 * k)) 43) : BankD w1 Y (T.up k { T.d k with flu := l }) ∧ But (Y.In T.l.length) w w1 :=
  have ne : ∀ i, i ≠ 3 → 2 ≤ i → i ≤ 5 → Y.A (i + 4 * k) ≠ Y.A (3 + 4 * k) := fun i h1 h2 h3 => h.ne (by omega) (by omega) (by omega) (by omega)
  ⟨h.put_med hk _ (j := 3) (by decide) (by decide) (fun b hb => hw.oth b hb) ((hw.oth _ (ne 2 (by decide) (by decide) (by decide))).trans (h.med k hk)) hw.blk ((hw.oth _ (ne 4 (by decide) (by decide) (by decide))).trans (h.new k hk)) ((hw.oth _ (ne 5 (by decide) (by decide) (by decide))).trans (h.sin k hk)), But.wrote hw (Y.in_ hk 3 (by decide) (by decide))⟩
theorem BankD.wrote_new (h : BankD w Y T) (hk : k < T.l.length) {l : List (List Int)} (hw : Wrote w w1 (Y.A (4 + 4 * k)) (secs l ++ Y.J (4 + 4 * k)) 43) : BankD w1 Y (T.up k { T.d k with new := l }) ∧ But (Y.In T.l.length) w w1 :=
  have ne : ∀ i, i ≠ 4 → 2 ≤ i → i ≤ 5 → Y.A (i + 4 * k) ≠ Y.A (4 + 4 * k) := fun i h1 h2 h3 => h.ne (by omega) (by omega) (by omega) (by omega)
  ⟨h.put_med hk _ (j := 4) (by decide) (by decide) (fun b hb => hw.oth b hb) ((hw.oth _ (ne 2 (by decide) (by decide) (by decide))).trans (h.med k hk)) ((hw.oth _ (ne 3 (by decide) (by decide) (by decide))).trans (h.flu k hk)) hw.blk ((hw.oth _ (ne 5 (by decide) (by decide) (by decide))).trans (h.sin k hk)), But.wrote hw (Y.in_ hk 4 (by decide) (by decide))⟩
theorem BankD.wrote_sin (h : BankD w Y T) (hk : k < T.l.length) {l : List Int} (hl : l.length = (T.d k).sin.length) (hw : Wrote w w1 (Y.A (5 + 4 * k)) (ints l ++ Y.J (5 + 4 * k)) 3) : BankD w1 Y (T.up k { T.d k with sin := l }) ∧ But (Y.In T.l.length) w w1 :=
  have ne : ∀ i, i ≠ 5 → 2 ≤ i → i ≤ 5 → Y.A (i + 4 * k) ≠ Y.A (5 + 4 * k) := fun i h1 h2 h3 => h.ne (by omega) (by omega) (by omega) (by omega)
  ⟨h.put_med hk _ (j := 5) (by decide) (by decide) (fun b hb => hw.oth b hb) (by
    have e : medVals Y k { T.d k with sin := l } = medVals Y k (T.d k) := by simp [medVals, hl]
    rw [e]; exact (hw.oth _ (ne 2 (by decide) (by decide) (by decide))).trans (h.med k hk)) ((hw.oth _ (ne 3 (by decide) (by decide) (by decide))).trans (h.flu k hk)) ((hw.oth _ (ne 4 (by decide) (by decide) (by decide))).trans (h.new k hk)) hw.blk, But.wrote hw (Y.in_ hk 5 (by decide) (by decide))⟩
theorem BankD.wrote_med (h : BankD w Y T) (hk : k < T.l.length) {d : Bool} {f : Int} (hw : Wrote w w1 (Y.A (2 + 4 * k)) (medVals Y k { T.d k with dead := d, fail := f }) 84) : BankD w1 Y (T.up k { T.d k with dead := d, fail := f }) ∧ But (Y.In T.l.length) w w1 :=
  have ne : ∀ i, i ≠ 2 → 2 ≤ i → i ≤ 5 → Y.A (i + 4 * k) ≠ Y.A (2 + 4 * k) := fun i h1 h2 h3 => h.ne (by omega) (by omega) (by omega) (by omega)
  ⟨h.put_med hk _ (j := 2) (by decide) (by decide) (fun b hb => hw.oth b hb) hw.blk ((hw.oth _ (ne 3 (by decide) (by decide) (by decide))).trans (h.flu k hk)) ((hw.oth _ (ne 4 (by decide) (by decide) (by decide))).trans (h.new k hk)) ((hw.oth _ (ne 5 (by decide) (by decide) (by decide))).trans (h.sin k hk)), But.wrote hw (Y.in_ hk 2 (by decide) (by decide))⟩
theorem BankD.wrote_bank (h : BankD w Y T) {T' : BankT} (hl : T'.l = T.l) (hw : Wrote w w1 (Y.A 0) (bankVals Y T') 77) : BankD w1 Y T' ∧ But (Y.In T.l.length) w w1 :=
  ⟨h.put_bank hl hw.blk hw.oth, But.wrote hw (Y.in0 _)⟩
end
theorem still_load_agg {P : Program} {ops : Array Oper} {rest : List Oper} {o : Oper} {a : Act} {w : World} {K : Act → Prop} {ty n : Nat} (hw : Region.wanted o (yielded ops a.tmps) = true) (x : Operand) (ho : o.op = .load ty x) (hT : AggT P ty n)
    (b off : Nat) (hx : a.eval x = .pointer (some ⟨b, off, none⟩)) (xs : List Value) (hc : Cells w b off xs) (hl : xs.length = n)
    (h : wpStill P ops w K rest (a.put o.dst (.agg xs.toArray))) : wpStill P ops w K (o :: rest) a := by
  obtain ⟨⟨d, hd1, hd2⟩, hs⟩ := hT
  refine wpStill_val hw ?_ h
  unfold execOp
  simp only [ho, hx, Instr.loadAt, Instr.sureAddr, Sem.run_bind, Sem.run_pure, Result.andThen_ok, run_loadVar_mid w b off ty xs d (rangeAt_of_cells hc) hd1 hd2 (by rw [hs, hl])]
section
variable {w : World} {Y : Lay} {T : BankT}
/-- a disk's own cells -/
theorem BankD.cells (h : BankD w Y T) {k : Nat} (hk : k < T.l.length) : Cells w (Y.A (2 + 4 * k)) 0 (medVals Y k (T.d k)) := Cells.of_block (h.med k hk)

set_option maxHeartbeats 1000000 in
set_option maxRecDepth 100000 in
theorem med_settle (h : BankD w Y T) (ok : T.Ok) {k a : Nat} (hk : k < T.l.length) (ha : a < (T.d k).sin.length) (keep : Bool) :
    Calls Tryz.prog 62 #[.pointer (some ⟨Y.A (2 + 4 * k), 0, none⟩), .int .i64 a, .bool keep] w fun e w' => e = .returned (.tuple #[]) ∧ BankD w' Y (T.up k ((T.d k).settle a keep)) ∧ But (Y.In T.l.length) w w' := by
  have hc := h.cells hk
  have c0 : w.cell? ⟨Y.A (2 + 4 * k), 0, none⟩ = some (.slice (some ⟨Y.A (3 + 4 * k), 0, none⟩) (T.d k).sin.length ((T.d k).sin.length + Y.x (3 + 4 * k))) := hc 0 (by simp [medVals])
  have c1 : w.cell? ⟨Y.A (2 + 4 * k), 1, none⟩ = some (.slice (some ⟨Y.A (4 + 4 * k), 0, none⟩) (T.d k).sin.length ((T.d k).sin.length + Y.x (4 + 4 * k))) := hc 1 (by simp [medVals])
  have c2 : w.cell? ⟨Y.A (2 + 4 * k), 2, none⟩ = some (.slice (some ⟨Y.A (5 + 4 * k), 0, none⟩) (T.d k).sin.length ((T.d k).sin.length + Y.x (5 + 4 * k))) := hc 2 (by simp [medVals])
  have okd := ok.d hk
  have n23 : Y.A (2 + 4 * k) ≠ Y.A (3 + 4 * k) := h.ne (by omega) (by omega) (by omega) (by omega)
  have n24 : Y.A (2 + 4 * k) ≠ Y.A (4 + 4 * k) := h.ne (by omega) (by omega) (by omega) (by omega)
  have n25 : Y.A (2 + 4 * k) ≠ Y.A (5 + 4 * k) := h.ne (by omega) (by omega) (by omega) (by omega)
  have n35 : Y.A (3 + 4 * k) ≠ Y.A (5 + 4 * k) := h.ne (by omega) (by omega) (by omega) (by omega)
  have n45 : Y.A (4 + 4 * k) ≠ Y.A (5 + 4 * k) := h.ne (by omega) (by omega) (by omega) (by omega)
  have n34 : Y.A (3 + 4 * k) ≠ Y.A (4 + 4 * k) := h.ne (by omega) (by omega) (by omega) (by omega)
  have i3 := Y.in_ hk 3 (by decide) (by decide)
  have i4 := Y.in_ hk 4 (by decide) (by decide)
  have i5 := Y.in_ hk 5 (by decide) (by decide)
  have hlen := okd.len
  have fl := okd.flu.1
  have nl := okd.new.1
  have sf := cells_sec (Cells.of_block (h.flu k hk)).left (fun s hs => (okd.flu.2 s hs).1) (show a < (T.d k).flu.length by omega)
  have sn := cells_sec (Cells.of_block (h.new k hk)).left (fun s hs => (okd.new.2 s hs).1) (show a < (T.d k).new.length by omega)
  have lf := okd.flu.at ha
  have ln := okd.new.at ha
  have pf := splice_flatJ (T.d k).flu (fun s hs => (okd.flu.2 s hs).1) a (by omega) ((T.d k).new.getD a []) ln.1 (Y.J (3 + 4 * k))
  have pn := splice_flatJ (T.d k).new (fun s hs => (okd.new.2 s hs).1) a (by omega) ((T.d k).flu.getD a []) lf.1 (Y.J (4 + 4 * k))
  have qf := secs_length (T.d k).flu (fun s hs => (okd.flu.2 s hs).1)
  have qn := secs_length (T.d k).new (fun s hs => (okd.new.2 s hs).1)
  have hi := ints_length (T.d k).sin
  have hset : ∀ x : Int, (ints (T.d k).sin ++ Y.J (5 + 4 * k)).set a (.int .i64 x) = ints ((T.d k).sin.set a x) ++ Y.J (5 + 4 * k) := fun x => by rw [List.set_append_left _ _ (by rw [ints_length]; exact ha)]; simp [ints]
  have e0 : (T.d k).settle a false = { T.d k with new := (T.d k).new.set a ((T.d k).flu.getD a []), sin := (T.d k).sin.set a 0 } := rfl
  have e1 : (T.d k).settle a true = { T.d k with flu := (T.d k).flu.set a ((T.d k).new.getD a []), sin := (T.d k).sin.set a 0 } := rfl
  generalize (T.d k).flu.getD a [] = xf at *
  generalize (T.d k).new.getD a [] = xn at *
  have E0 := Lib.hid e0; clear e0
  have E1 := Lib.hid e1; clear e1
  have H := Lib.hid h; clear h
  have HC := Lib.hid hc; clear hc
  have SF := Lib.hid sf; clear sf
  have SN := Lib.hid sn; clear sn
  have LF := Lib.hid lf.1; have LN := Lib.hid ln.1; clear lf ln
  have PF := Lib.hid pf; clear pf
  have PN := Lib.hid pn; clear pn
  have QF := Lib.hid qf; clear qf
  have QN := Lib.hid qn; clear qn
  have HI := Lib.hid hi; clear hi
  have HSET := Lib.hid hset; clear hset
  have FL := Lib.hid fl; clear fl
  have NL := Lib.hid nl; clear nl
  clear okd ok
  rcases keep with _ | _
  · go_enter Tryz.func62, Tryz.ntmps62
    go_wp2
    refine wp_still_tail 13 (by kernel_rfl) (by kernel_rfl) fun ws hks hhs => ?_
    have c0' := hks.cell' c0
    have c1' := hks.cell' c1
    have c2' := hks.cell' c2
    simp only [List.take_succ_cons, List.take_zero, List.drop_succ_cons, List.drop_zero]
    iterate 11 still_step
    refine still_load_agg rfl _ rfl ty_sec (Y.A (3 + 4 * k)) (a * 64) rfl _ (SF.out.kept hks) (by rw [u8s_length, LF.out]) ?_
    iterate 1 still_step
    refine wpStill_nil ?_
    refine wpList_store_agg rfl _ _ rfl ty_sec (Y.A (4 + 4 * k)) (a * 64) rfl _ rfl (by rw [u8s_length, LF.out]) (u8s_one _) _ _ (hks.block_eq (H.out.lt i4) |>.trans (H.out.new k hk)) (by rw [List.length_append, QN.out, NL.out]; omega) ?_
    intro w1 hw1
    rw [PN.out] at hw1
    obtain ⟨B1, U1⟩ := (H.out.kept hks).wrote_new hk hw1
    have d2 : w1.cell? ⟨Y.A (2 + 4 * k), 2, none⟩ = some (.slice (some ⟨Y.A (5 + 4 * k), 0, none⟩) (T.d k).sin.length ((T.d k).sin.length + Y.x (5 + 4 * k))) := (World.cell?_of_block (hw1.oth _ n24)).trans c2'
    have b5 := (hw1.oth _ n45.symm).trans ((H.out.kept hks).sin k hk)
    have HB1 := Lib.hid B1; have HU1 := Lib.hid U1; have HB5 := Lib.hid b5
    clear B1 U1 b5 hw1 c0' c1' c2' hhs
    go_wp2_with (refine stop_at (o := ⟨none, .store _ _ _, _, _, _, _⟩) ?_)
    refine Stop.mk ?_
    refine wpList_set_cell rfl _ _ rfl size_int (Y.A (5 + 4 * k)) a rfl (.int .i64 0) rfl rfl rfl _ _ HB5.out (by rw [List.length_append, HI.out]; omega) ?_
    intro w2 hw2
    rw [HSET.out] at hw2
    obtain ⟨B2, U2⟩ := HB1.out.wrote_sin (by rw [BankT.up_len]; exact hk) (by rw [BankT.up_self _ hk, List.length_set]) hw2
    rw [BankT.up_self _ hk, BankT.up_up] at B2
    rw [BankT.up_len] at U2
    have U := ((But.kept hks).trans HU1.out).trans U2
    have B := Lib.hid B2; have U' := Lib.hid U
    clear B2 U2 U hw2
    go_wp2
    go_end0
    exact ⟨rfl, by rw [E0.out]; exact B.out, U'.out⟩
  · go_enter Tryz.func62, Tryz.ntmps62
    go_wp2
    refine wp_still_tail 13 (by kernel_rfl) (by kernel_rfl) fun ws hks hhs => ?_
    have c0' := (hks.cell' c0)
    have c1' := (hks.cell' c1)
    have c2' := (hks.cell' c2)
    simp only [List.take_succ_cons, List.take_zero, List.drop_succ_cons, List.drop_zero]
    iterate 11 still_step
    refine still_load_agg rfl _ rfl ty_sec (Y.A (4 + 4 * k)) (a * 64) rfl _ (SN.out.kept hks) (by rw [u8s_length, LN.out]) ?_
    iterate 1 still_step
    refine wpStill_nil ?_
    refine wpList_store_agg rfl _ _ rfl ty_sec (Y.A (3 + 4 * k)) (a * 64) rfl _ rfl (by rw [u8s_length, LN.out]) (u8s_one _) _ _ (hks.block_eq (H.out.lt i3) |>.trans (H.out.flu k hk)) (by rw [List.length_append, QF.out, FL.out]; omega) ?_
    intro w1 hw1
    rw [PF.out] at hw1
    obtain ⟨B1, U1⟩ := (H.out.kept hks).wrote_flu hk hw1
    have d2 : w1.cell? ⟨Y.A (2 + 4 * k), 2, none⟩ = some (.slice (some ⟨Y.A (5 + 4 * k), 0, none⟩) (T.d k).sin.length ((T.d k).sin.length + Y.x (5 + 4 * k))) := (World.cell?_of_block (hw1.oth _ n23)).trans c2'
    have b5 := (hw1.oth _ n35.symm).trans ((H.out.kept hks).sin k hk)
    have HB1 := Lib.hid B1; have HU1 := Lib.hid U1; have HB5 := Lib.hid b5
    clear B1 U1 b5 hw1 c0' c1' c2' hhs
    go_wp2_with (refine stop_at (o := ⟨none, .store _ _ _, _, _, _, _⟩) ?_)
    refine Stop.mk ?_
    refine wpList_set_cell rfl _ _ rfl size_int (Y.A (5 + 4 * k)) a rfl (.int .i64 0) rfl rfl rfl _ _ HB5.out (by rw [List.length_append, HI.out]; omega) ?_
    intro w2 hw2
    rw [HSET.out] at hw2
    obtain ⟨B2, U2⟩ := HB1.out.wrote_sin (by rw [BankT.up_len]; exact hk) (by rw [BankT.up_self _ hk, List.length_set]) hw2
    rw [BankT.up_self _ hk, BankT.up_up] at B2
    rw [BankT.up_len] at U2
    have U := ((But.kept hks).trans HU1.out).trans U2
    have B := Lib.hid B2; have U' := Lib.hid U
    clear B2 U2 U hw2
    go_wp2
    go_end0
    exact ⟨rfl, by rw [E1.out]; exact B.out, U'.out⟩
end
end Go.Proofs.YtglplhmclfekfaaGreat
