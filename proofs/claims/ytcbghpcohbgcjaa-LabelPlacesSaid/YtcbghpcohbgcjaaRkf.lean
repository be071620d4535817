/- label.Save on a law's bank; law04's sectors: six sectors of a bank, read into a slice. -/
import Derived.Test.YtcbghpcohbgcjaaRke
import Derived.Test.YtcbghpcohbgcjaaLabE
import Derived.Great.BuildSlice
namespace Go.Proofs.Ytcbghpcohbgcjaa
open Go.RowKit
set_option linter.unusedVariables false
set_option linter.unusedSimpArgs false

/-- what label.Save does with a label that is right -/
def BankT.saveL (T : BankT) (l : Lab) : BankT × Int := if (T.write l.member (l.gen.tmod 2) l.sec).2 ≠ 0 then T.write l.member (l.gen.tmod 2) l.sec else (T.write l.member (l.gen.tmod 2) l.sec).1.flushC l.member
section
variable {w0 W : World} {R : Nat → Prop} {q : Nat} {T : BankT}
set_option maxHeartbeats 2000000
set_option maxRecDepth 100000
theorem label_Save (h : BK w0 R W q T) (u : T.Use) (l : Lab) (sl : Value) (hm : MSl W sl l.ms) (hr : rightB l = true) (g : Nat) (hg : l.gen = (g : Int)) (u1 : (T.write l.member (l.gen.tmod 2) l.sec).1.Use) :
    Calls Try.prog 44 #[.pointer (some ⟨q, 0, none⟩), l.val sl] W fun e w' => e = .returned (.int .i64 (T.saveL l).2) ∧ BK w0 R w' q (T.saveL l).1 ∧ SameR R W w' := by
  have hN : l.ms.length ≤ 12 := by
    simp only [rightB, headB, inB, Bool.and_eq_true, decide_eq_true_eq] at hr
    omega
  have HX := Lib.hid (l.sec_length hN)
  have HSL1 := Lib.hid hm.one
  have HMS := Lib.hid hm
  have HPUT := Lib.hid (fun (W' : World) (hm' : MSl W' sl l.ms) => label_Put_ok l sl W' hm' hr)
  obtain ⟨T1, c, hw⟩ : ∃ T1 c, T.write l.member (l.gen.tmod 2) l.sec = (T1, c) := ⟨_, _, rfl⟩
  unfold BankT.saveL
  rw [hw] at u1 ⊢
  simp only [] at u1 ⊢
  obtain ⟨T2, d, hf⟩ : ∃ T2 d, T1.flushC l.member = (T2, d) := ⟨_, _, rfl⟩
  rw [hf]
  obtain ⟨Tr, cr, hres⟩ : ∃ Tr cr, (if c ≠ 0 then (T1, c) else (T2, d)) = (Tr, cr) := ⟨_, _, rfl⟩
  rw [hres]
  have hz : l.gen.tmod 2 = ((g % 2 : Nat) : Int) := by rw [hg, Int.tmod_eq_emod_of_nonneg (by omega)]; rfl
  rw [hz] at hw
  have hz1 : (g : Int) % 2 = ((g % 2 : Nat) : Int) := by omega
  have hz2 : (g : Int).tmod 2 = ((g % 2 : Nat) : Int) := by rw [← hg]; exact hz
  generalize g % 2 = k at *
  have HW := Lib.hid hw; have HF := Lib.hid hf; have HU := Lib.hid u; have HU1 := Lib.hid u1; have HB := Lib.hid h; have HRES := Lib.hid hres
  clear hw hf u u1 h hres hz hm hr hN
  have hv : l.val sl = .agg #[.int .i64 l.array, .int .i64 (g : Int), .int .i64 l.member, .int .i64 l.blocks, sl] := by unfold Lab.val; rw [hg]
  have HV := Lib.hid hv
  generalize l.sec = sec at *
  generalize l.member = m at *
  generalize l.array = ar at *
  generalize l.blocks = bl at *
  rw [hv]
  clear hv hg
  go_enter Try.func44, Try.ntmps44
  go_wp2_with (refine stop_at (o := ⟨some 3, _, _, _, _, _⟩) ?_)
  refine Stop.mk ?_
  refine wpList_box_row rfl _ _ rfl [.int .i64 ar, .int .i64 (g : Int), .int .i64 m, .int .i64 bl, sl] rfl ?_
  intro w1 hz1' hs1 hk1
  have p1 : w1.cell? ⟨W.heap.size, 1, none⟩ = some (.int .i64 (g : Int)) := cell_of_row _ _ 1 _ _ _ hz1'.out
  have p2 : w1.cell? ⟨W.heap.size, 2, none⟩ = some (.int .i64 m) := cell_of_row _ _ 2 _ _ _ hz1'.out
  have HL1 := Lib.hid (Cells.of_block hz1'.out)
  have HB1 := Lib.hid (HB.out.box hk1 hs1)
  have HS := Lib.hid (show SameR R W w1 from (HB.out.kept hk1).2)
  have HM1 := Lib.hid (HMS.out.kept hk1)
  have HLT := Lib.hid hs1
  generalize W.heap.size = X at *
  clear hz1' hs1 hk1 HB HMS
  go_wp2_with (refine stop_at (o := ⟨some 9, _, _, _, _, _⟩) ?_)
  refine Stop.mk ?_
  refine wpList_load_agg rfl _ rfl ty_lab X 0 rfl [.int .i64 ar, .int .i64 (g : Int), .int .i64 m, .int .i64 bl, sl] HL1.out rfl ?_
  rw [← HV.out]
  go_wp2_with fail
  refine Calls.mono (HPUT.out w1 HM1.out) ?_
  rintro e w2 ⟨rfl, hk2⟩
  replace p1 := hk2.cell' p1
  replace p2 := hk2.cell' p2
  have HB2 := Lib.hid (HB1.out.kept hk2).1
  replace HS := Lib.hid (show SameR R W w2 from HS.out.trans fun k hk => (HB1.out.kept hk2).2 k (.inl hk))
  clear hk2 HB1 HM1 HL1 HPUT
  go_wp2_with (refine stop_at (o := ⟨some 5, _, _, _, _, _⟩) ?_)
  refine Stop.mk ?_
  refine wpList_new_row rfl rfl _ _ rfl rfl ty_sec (u8s zeroB) zero_sec (by rw [u8s_length, zeroB_length]) (u8s sec) rfl (by rw [u8s_length, HX.out]) (u8s_one _) rfl ?_
  intro w4 hz4 hs4 hk4
  have HB4 := Lib.hid (HB2.out.kept hk4).1
  have HX4 := hz4
  replace p1 := hk4.cell' p1
  replace p2 := hk4.cell' p2
  replace HS := Lib.hid (show SameR R W w4 from HS.out.trans fun k hk => (HB2.out.kept hk4).2 k (.inl hk))
  clear hz4 hs4 hk4 HB2
  go_wp2_with (refine stop_at (o := ⟨some 23, _, _, _, _, _⟩) ?_)
  refine Stop.mk ?_
  refine wpList_load_agg rfl _ rfl ty_sec w2.heap.size 0 rfl (u8s sec) (by simpa using Cells.of_block HX4.out) (by rw [u8s_length, HX.out]) ?_
  go_wp2_with fail
  refine Calls.mono (st_writeE HB4.out HU.out m (k : Int) HX.out HW.out) ?_
  rintro e w5 ⟨rfl, hb5, hs5⟩
  have HB5 := Lib.hid hb5
  replace p2 := (World.cell?_of_block (a := ⟨X, 2, none⟩) (hs5 X (.inr rfl))).trans p2
  replace HS := Lib.hid (show SameR R W w5 from HS.out.trans fun k hk => hs5 k (.inl hk))
  clear hb5 hs5 HB4 p1
  by_cases hc : c = 0
  · subst hc
    have hres := HRES.out
    rw [if_neg (by decide)] at hres
    obtain ⟨rfl, rfl⟩ : T2 = Tr ∧ d = cr := by cases hres; exact ⟨rfl, rfl⟩
    clear hres HRES
    go_wp2_with fail
    refine Calls.mono (st_flush HB5.out HU1.out m (c := d) (T' := T2) (by rw [HF.out]) (by rw [HF.out])) ?_
    rintro e w6 ⟨rfl, hb6, hs6⟩
    go_wp2
    go_ret
    exact ⟨rfl, hb6.less (fun k hk => .inl hk), HS.out.trans fun k hk => hs6 k (.inl hk)⟩
  · have hres := HRES.out
    rw [if_pos hc] at hres
    obtain ⟨rfl, rfl⟩ : T1 = Tr ∧ c = cr := by cases hres; exact ⟨rfl, rfl⟩
    clear hres HRES
    have hcb : (c == 0) = false := by simpa using hc
    go_wp2
    go_ret
    exact ⟨rfl, HB5.out.less (fun k hk => .inl hk), HS.out⟩
end
theorem ty_secs : ElemT Try.prog 64 36 64 64 := by
  refine ⟨Try.underlying64, ?_, by decide⟩
  have h1 := secs_info
  cases hi : Try.prog.info? 36 with
  | none => simp [hi] at h1
  | some i =>
    simp only [hi, Option.map_some, Option.some.injEq, Prod.mk.injEq] at h1
    exact ⟨i, _, rfl, h1.1, h1.2.1, h1.2.2, by decide⟩
/-- the slice v, in a block of its own, reads L -/
def SL (W : World) (v : Value) (L : List (List Int)) : Prop := W.ownsRow 0 36 64 v L.length (secs L) ∧ ∀ s ∈ L, s.length = 64
theorem SL.nil (W : World) : SL W (.slice none 0 0) [] := ⟨World.ownsRow_nil W _ _ _, fun s h => by cases h⟩
theorem SL.kept {W W' : World} {v : Value} {L : List (List Int)} (h : SL W v L) (hk : Kept W W') : SL W' v L := ⟨ownsRow_kept h.1 hk, h.2⟩
theorem SL.same {W W' : World} {v : Value} {L : List (List Int)} (h : SL W v L) (hs : ∀ g, v.ownBlock = some g → W'.heap[g]? = W.heap[g]?) : SL W' v L := ⟨own_same h.1 hs, h.2⟩
theorem SL.form {W : World} {v : Value} {L : List (List Int)} (h : SL W v L) : ∃ ao cap, v = .slice ao L.length cap ∧ ∀ i (hi : i < L.length), ∃ g, ao = some ⟨g, 0, none⟩ ∧ Cells W g (i * 64) (u8s L[i]) ∧ L[i].length = 64 := by
  rcases owns_form h.1 with ⟨rfl, h0, _⟩ | ⟨g, cap, rfl, hb, hg, hn, hc⟩
  · exact ⟨none, 0, by rw [h0], fun i hi => by omega⟩
  · refine ⟨_, cap, rfl, fun i hi => ⟨g, rfl, ?_, h.2 _ (List.getElem_mem _)⟩⟩
    have := cells_sec hc h.2 hi
    rwa [List.getD_eq_getElem?_getD, List.getElem?_eq_getElem hi, Option.getD_some] at this
theorem secs_snoc (L : List (List Int)) (s : List Int) : secs (L ++ [s]) = secs L ++ u8s s := by simp [secs, u8s]
theorem fill_sec (cells : Array Value) (s : List Int) (hc : cells.size = 64) (hs : s.length = 64) : Instr.fill (fun i => some (i * 64, 64)) cells [(0, .agg (u8s s).toArray)] = some (u8s s).toArray := by
  have hl := u8s_length s
  obtain ⟨r, hr, hsz, hk⟩ := Great.fill_dense (s := 64) (by decide) [.agg (u8s s).toArray] 0 cells (fun v hv => by rw [List.mem_singleton.1 hv]; show (u8s s).toArray.size = 64; rw [List.size_toArray, hl, hs]) (by rw [hc, List.length_singleton]; decide)
  refine hr.trans (congrArg some (Array.ext_getElem? fun k => ?_))
  rw [hk k]
  by_cases h : k < 64
  · rw [if_pos ⟨by omega, by show k < (0 + 1) * 64; omega⟩, Nat.div_eq_of_lt h, Nat.mod_eq_of_lt h]; rfl
  · rw [if_neg (by show ¬ (0 * 64 ≤ k ∧ k < (0 + 1) * 64); omega), Array.getElem?_eq_none (by omega), Array.getElem?_eq_none (by rw [List.size_toArray, hl, hs]; omega)]
/-- '[]api.Sector{s}', and what is appended to -/
theorem wpList_one_sec {ops : Array Oper} {rest : List Oper} {o : Oper} {a : Act} {w : World} {Q : Exit → Act → World → Prop} (hg : o.guard = none) (x : Operand) (ho : o.op = .buildSlice 64 1 #[(0, x)])
    (s : List Int) (hs : s.length = 64) (hx : a.eval x = .agg (u8s s).toArray)
    (h : ∀ w1, Hid (w1.heap[w.heap.size]? = some (.cells (u8s s).toArray 36 (0, 0))) → w.heap.size < w1.heap.size → Kept w w1 → wpList Try.prog ops Q rest (a.put o.dst (.slice (some ⟨w.heap.size, 0, none⟩) 1 1)) w1) : wpList Try.prog ops Q (o :: rest) a w := by
  have h1 := secs_info
  cases hi : Try.prog.info? 36 with
  | none => simp [hi] at h1
  | some i =>
    simp only [hi, Option.map_some, Option.some.injEq, Prod.mk.injEq] at h1
    refine wpList_buildSlice hg _ 36 1 _ ho (u8s s).toArray i _ Try.underlying64 hi h1.1 (by rw [h1.2.1]; decide) (by rw [h1.2.1]; decide) ?_ (h _ (Lib.hid (heap_alloc_new w _)) (by simp) ((Kept.refl _).alloc _))
    have he : (#[(0, x)].map fun (i, x) => ((i, a.eval x) : Nat × Value)).toList = [(0, .agg (u8s s).toArray)] := by simp [hx]
    rw [he, h1.2.1]
    exact fill_sec _ s (by simp) hs
section
variable {w0 W W' : World} {R : Nat → Prop} {q : Nat} {T : BankT} {v v' : Value}
theorem BK.grw (h : BK w0 R W q T) (hg : Grw W W' v v') (hR : ∀ k, v.ownBlock = some k → R k) (h0 : ∀ k, v.ownBlock = some k → w0.heap.size ≤ k) : BK w0 (fun k => R k ∨ v'.ownBlock = some k) W' q T := by
  rcases hg with ⟨e, hb⟩ | ⟨g, e, h1, h2, hk⟩
  · obtain ⟨Y, hy, h⟩ := h
    refine ⟨Y, hy, ⟨h.d.same fun b hb' => hb.block b (h.d.lt hb') (fun e' => (h.off b (hR b e')).2 hb'), But.to_kept h.keeps hb h0, h.own, fun k hk => ?_⟩⟩
    have hk' : R k := by
      rcases hk with hk | hk
      · exact hk
      · exact hR k (e ▸ hk)
    exact ⟨Nat.lt_of_lt_of_le (h.off k hk').1 hb.size, (h.off k hk').2⟩
  · refine (h.more hk g h1 h2).less fun k hk' => ?_
    rcases hk' with hk' | hk'
    · exact .inl hk'
    · rw [e] at hk'; exact .inr (by injection hk' with hk'; exact hk'.symm)
/-- one sector more in a slice beside the bank -/
theorem wpList_append_sec {ops : Array Oper} {rest : List Oper} {o : Oper} {a : Act} {Q : Exit → Act → World → Prop} (hgd : o.guard = none) (s x : Operand) (ho : o.op = .call { callee := .builtin .append, args := #[s, x], argTypes := #[64, 64] })
    (L : List (List Int)) (hs : a.eval s = v) (hv : SL W v L) (hl : L.length < 20000) (b : Nat) (hx : a.eval x = .slice (some ⟨b, 0, none⟩) 1 1) (z : List Int) (hz : z.length = 64) (hb : W.heap[b]? = some (.cells (u8s z).toArray 36 (0, 0)))
    (h : ∀ v' W', SL W' v' (L ++ [z]) → Grw W W' v v' → wpList Try.prog ops Q rest (a.put o.dst v') W') : wpList Try.prog ops Q (o :: rest) a W := by
  refine wpList_plain hgd fun K hK => ?_
  obtain ⟨v', W', hr, h1, h2⟩ := own_append ty_secs (b := b) hv.1 hl (by decide) (u8s z) (by rw [u8s_length, hz]) (fun j u hu => by
    have := cell_of_row W b j _ _ _ hb
    rw [this]; simpa using hu) (u8s_one _) o.type
  unfold Oper.wp execOp
  simp only [ho, resolve, invoke, builtin, Sem.run_bind, Sem.run_pure, Result.andThen_ok, List.map_toArray, List.map_cons, List.map_nil, hs, hx, hr]
  refine hK _ _ (h v' W' ⟨by rw [secs_snoc, List.length_append]; exact h1, fun t ht => ?_⟩ h2)
  rcases List.mem_append.1 ht with ht | ht
  · exact hv.2 t ht
  · rw [List.mem_singleton.1 ht]; exact hz
end
/-- the first six sectors of three disks -/
def BankT.six (T : BankT) : Nat → List (List Int)
  | 0 => []
  | k + 1 => BankT.six T k ++ [T.N (k % 3) (k / 3)]
theorem BankT.six_len (T : BankT) (k : Nat) : (T.six k).length = k := by
  induction k with
  | zero => rfl
  | succ k ih => rw [BankT.six, List.length_append, ih]; rfl
theorem BankT.six_at (T : BankT) (k i : Nat) (h : i < (T.six k).length) : (T.six k)[i] = T.N (i % 3) (i / 3) := by
  induction k with
  | zero => exact absurd h (Nat.not_lt_zero _)
  | succ k ih =>
    have hl := T.six_len k
    by_cases e : i < k
    · have : (T.six (k + 1))[i]? = (T.six k)[i]? := by rw [BankT.six, List.getElem?_append_left (by omega)]
      rw [List.getElem?_eq_getElem h, List.getElem?_eq_getElem (by omega)] at this
      rw [Option.some.inj this]; exact ih (by omega)
    · have e2 : i = k := by rw [BankT.six_len] at h; omega
      subst e2
      have : (T.six (i + 1))[i]? = some (T.N (i % 3) (i / 3)) := by rw [BankT.six, List.getElem?_append_right (by omega), hl]; simp
      rw [List.getElem?_eq_getElem h] at this
      exact Option.some.inj this
section
variable {w0 W : World} {R : Nat → Prop} {q : Nat} {T : BankT}
set_option maxHeartbeats 2000000
set_option maxRecDepth 100000
theorem law_sectors {z : Nat} (h : BK w0 R W q T) (u : T.Use) (hs : Still T 3 z) (hz : 2 ≤ z) :
    Calls Try.prog 41 #[.pointer (some ⟨q, 0, none⟩)] W fun e w' => ∃ v, e = .returned v ∧ SL w' v (T.six 6) ∧ BK w0 (fun k => R k ∨ v.ownBlock = some k) w' q T ∧ Kept W w' := by
  have HB0 := Lib.hid h; have HI := Lib.hid hs; have HZ := Lib.hid hz
  have HW := Lib.hid h.keeps
  have HU := Lib.hid u
  clear h hs hz u
  go_enter Try.func41, Try.ntmps41
  go_wp2
  go_loopw [3, 4] (fun v i wr => ∃ k : Nat, k ≤ 6 ∧ i = .int .i64 k ∧ Hid (SL wr v (T.six k) ∧ ∀ g, v.ownBlock = some g → W.heap.size ≤ g) ∧ Hid (BK w0 (fun k => R k ∨ v.ownBlock = some k) wr q T) ∧ Hid (Kept W wr)) (fun _ i _ => 6 - (intOf i).toNat)
  case atStart => exact ⟨0, Nat.zero_le _, rfl, Lib.hid ⟨SL.nil _, fun g h => by simp [Value.ownBlock] at h⟩, Lib.hid (HB0.out.less fun k hk => hk.elim id (fun h => by simp [Value.ownBlock] at h)), Lib.hid (Kept.refl _)⟩
  case round =>
    obtain ⟨k, hk, rfl, HS, HB, HK⟩ := hrel
    by_cases hlt : k < 6
    · have hdm : ((k : Int) % 3) = ((k % 3 : Nat) : Int) := by omega
      have hdq : ((k : Int) / 3) = ((k / 3 : Nat) : Int) := by omega
      have hdqt : (k : Int).tdiv 3 = ((k / 3 : Nat) : Int) := by rw [Int.tdiv_eq_ediv_of_nonneg (by omega)]; exact hdq
      have hdmt : (k : Int).tmod 3 = ((k % 3 : Nat) : Int) := by rw [Int.tmod_eq_emod_of_nonneg (by omega)]; exact hdm
      have hd3 : k % 3 < 3 := by omega
      have ha2 : k / 3 < z := by have := HZ.out; omega
      have HN : Hid (T.six (k + 1) = T.six k ++ [T.N (k % 3) (k / 3)]) := Lib.hid rfl
      have HR := Lib.hid (HI.out.read hd3 ha2)
      have HN64 : Hid ((T.N (k % 3) (k / 3)).length = 64) := Lib.hid (by have := (BankT.read_sec HI.out.inv ((k % 3 : Nat) : Int) ((k / 3 : Nat) : Int)).1; rw [HR.out] at this; exact this)
      have HL6 := Lib.hid (T.six_len k)
      generalize k % 3 = d at *
      generalize k / 3 = a at *
      generalize T.N d a = s at *
      clear hd3 ha2
      go_wp2_with fail
      refine Calls.mono (st_read HB.out HU.out (d : Int) (a : Int) HR.out) ?_
      rintro e w2 ⟨rfl, hb, hk2⟩
      have HB2 := Lib.hid hb
      have HS2 := Lib.hid (And.intro (HS.out.1.kept hk2) HS.out.2)
      have HK2 := Lib.hid (HK.out.trans hk2)
      clear hb hk2 HB HS HK hdm hdq hdqt hdmt
      go_wp2_with (refine stop_at (o := ⟨some 5, _, _, _, _, _⟩) ?_)
      refine Stop.mk ?_
      refine wpList_new_row rfl rfl _ _ rfl rfl ty_sec (u8s zeroB) zero_sec (by rw [u8s_length, zeroB_length]) (u8s s) rfl (by rw [u8s_length, HN64.out]) (u8s_one _) rfl ?_
      intro w4 hz4 hs4 hk4
      have HX4 := hz4
      have HB4 := Lib.hid (HB2.out.kept hk4).1
      have HS4 := Lib.hid (And.intro (HS2.out.1.kept hk4) HS2.out.2)
      have HK4 := Lib.hid (HK2.out.trans hk4)
      generalize w2.heap.size = X at *
      clear hz4 hs4 hk4 HB2 HS2 HK2
      go_wp2_with (refine stop_at (o := ⟨some 24, _, _, _, _, _⟩) ?_)
      refine Stop.mk ?_
      refine wpList_load_agg rfl _ rfl ty_sec X 0 rfl (u8s s) (by simpa using Cells.of_block HX4.out) (by rw [u8s_length, HN64.out]) ?_
      refine wpList_one_sec rfl _ rfl s HN64.out rfl ?_
      intro w5 hz5 hs5 hk5
      have HB5 := Lib.hid (HB4.out.kept hk5).1
      have HS5 := Lib.hid (And.intro (HS4.out.1.kept hk5) HS4.out.2)
      have HK5 := Lib.hid (HK4.out.trans hk5)
      clear hs5 hk5 HB4 HS4 HK4 HX4
      refine wpList_append_sec rfl _ _ rfl (T.six k) rfl HS5.out.1 (by rw [HL6.out]; omega) w4.heap.size rfl s HN64.out hz5.out ?_
      intro v' w6 hsl hgr
      have HB6 : Hid (BK w0 (fun k => R k ∨ v'.ownBlock = some k) w6 q T) := Lib.hid ((HB5.out.grw hgr (fun k hk => .inr hk) (fun k hk => Nat.le_trans HW.out.size (HS5.out.2 k hk))).less fun k hk => hk.elim (fun h => .inl (.inl h)) .inr)
      have HS6 : Hid (SL w6 v' (T.six (k + 1)) ∧ ∀ g, v'.ownBlock = some g → W.heap.size ≤ g) := Lib.hid ⟨by rw [HN.out]; exact hsl, fun g hg => by
        rcases hgr with ⟨e, _⟩ | ⟨g', e, h1, _, _⟩
        · exact HS5.out.2 g (e ▸ hg)
        · rw [e] at hg; injection hg with hg
          have := HK5.out.size; omega⟩
      have HK6 : Hid (Kept W w6) := Lib.hid (by
        rcases hgr with ⟨_, hb⟩ | ⟨_, _, _, _, hk⟩
        · exact But.to_kept HK5.out hb (fun k hk => HS5.out.2 k hk)
        · exact HK5.out.trans hk)
      clear hsl hgr hz5 HB5 HS5 HK5
      go_wp2
      go_roundw
      case rel => exact ⟨k + 1, hlt, by go_num, HS6, HB6, HK6⟩
      case measure => simp [intOf]; omega
    · have hk6 : k = 6 := by omega
      subst hk6
      clear hlt
      go_wp2
      go_ret
      exact ⟨_, rfl, HS.out.1, HB.out, HK.out⟩
end
set_option maxRecDepth 100000 in
theorem open_ssrc {H : Type} {enc : TypeId × Value → H} {w : World} {base : Nat} {spare : Nat → Bool} {held : Bool} {fuel : Nat} {v : Value} {x : DataW H × List MemPlace}
    (h : DataW.trod enc Try.prog w base spare held fuel 64 [v] = some x) : ∃ l, SSrc w v l := by
  rcases Go.Deep.open_slice Try.underlying64 h with ⟨hcs, _⟩ | ⟨a, len, cap, m, n, D, Pl, hcs, _, hl, hmx, hm, _, hi⟩
  · simp at hcs; subst hcs; exact ⟨[], SSrc.nil w⟩
  simp at hcs
  subst hcs
  have hlm : len ≤ m := by rw [hm]; split <;> omega
  have hu : Try.prog.underlying 36 = some (.array 64 5) := by kernel_rfl
  have hC : Try.prog.cellsOf 36 = 64 := by kernel_rfl
  have hC1 : Try.prog.cellsOf 5 = 1 := by kernel_rfl
  have key : ∀ i, ∃ s : List Int, i < len → (∀ j, j < 64 → w.cell? ((a.add (i * 64)).add j) = some (.int .u8 (s.getD j 0))) ∧ s.length = 64 ∧ ∀ x ∈ s, IsByte x := by
    intro i
    by_cases hil : i < len
    · obtain ⟨cs', hc, ht⟩ := hi i (by omega)
      rw [hC] at hc
      obtain ⟨_, hcl, hat⟩ := World.cells?_some hc
      obtain ⟨xs, n', _, _, _, hxl, hf⟩ := DataW.trod_array hu ht
      have k2 : ∀ j, ∃ z : Int, j < 64 → cs'[j]? = some (.int .u8 z) ∧ IsByte z := by
        intro j
        by_cases hj : j < 64
        · have h1 := hf j hj
          rw [hC1, Nat.mul_one, List.getElem?_eq_getElem (by omega)] at h1
          have h2 : (cs'.drop j).take 1 = [cs'[j]] := by rw [List.drop_eq_getElem_cons (by omega)]; rfl
          rw [h2] at h1
          obtain ⟨z, hz, _, hw⟩ := DataW.trod_int Try.underlying5 h1
          simp at hz
          refine ⟨z, fun _ => ⟨by rw [List.getElem?_eq_getElem (by omega), hz], ?_⟩⟩
          simp [Lit.wf, IntKind.min, IntKind.max, IntKind.signed, IntKind.bits] at hw
          exact ⟨by omega, by omega⟩
        · exact ⟨0, fun h => absurd h hj⟩
      obtain ⟨f, hf'⟩ := Classical.axiomOfChoice k2
      refine ⟨(List.range 64).map f, fun _ => ⟨fun j hj => ?_, by simp, fun x hx => ?_⟩⟩
      · have h1 := (hf' j hj).1
        have h2 := hat j (by omega)
        rw [h2, h1]
        simp [List.getD_eq_getElem?_getD, hj]
      · simp only [List.mem_map, List.mem_range] at hx
        obtain ⟨j, hj, rfl⟩ := hx
        exact (hf' j hj).2
    · exact ⟨[], fun h' => absurd h' hil⟩
  obtain ⟨f, hf⟩ := Classical.axiomOfChoice key
  refine ⟨(List.range len).map f, some a, cap, by simp, by simpa using hl, hmx, fun k hk => ?_⟩
  have hk' : k < len := by simpa using hk
  obtain ⟨h1, h2, h3⟩ := hf k hk'
  obtain ⟨b, off, spot⟩ := a
  have hsp := World.cell?_spot ((hf 0 (by omega)).1 0 (by decide))
  have hspot : spot = none := by simpa [Addr.add] using hsp
  subst hspot
  have e : ((List.range len).map f)[k] = f k := by simp
  refine ⟨b, off, rfl, ?_, by rw [e]; exact h2, by rw [e]; exact h3⟩
  rw [e]
  intro j hj
  rw [u8s_length, h2] at hj
  have := h1 j hj
  simp only [Addr.add_mid] at this
  rw [this]
  simp [u8s, List.getD_eq_getElem?_getD, List.getElem?_eq_getElem (show j < (f k).length by omega)]
end Go.Proofs.Ytcbghpcohbgcjaa
