/- metalog's record walked. -/
import Derived.Test.YtpeclkhppgabfaaDoorFnd
namespace Go.Proofs.YtpeclkhppgabfaaDoor
open Go.RowKit
set_option linter.unusedVariables false
set_option linter.unusedSimpArgs false

theorem ty_scan : AggT Tryd.prog 105 3 := ⟨⟨_, Tryd.underlying105, rfl⟩, by kernel_rfl⟩
theorem findL_ok {rd : Rd} (p gen : Int) (so : Tag → Bool) : ∀ (L : List Int) (n : Nat), (findL rd p gen so L n).ok = true → isTag (findL rd p gen so L n).s = true ∧ (findL rd p gen so L n).n ≠ 0
  | [], n, h => by unfold findL at h; cases h
  | d :: L, n, h => by
    unfold findL at h ⊢
    split at h
    · rename_i h1; rw [if_pos h1]; exact findL_ok p gen so L n h
    · rename_i h1
      rw [if_neg h1]
      split at h
      · cases h
      · rename_i h2
        rw [if_neg h2]
        split at h
        · rename_i h3; rw [if_pos h3]; exact ⟨h3.1, Nat.succ_ne_zero _⟩
        · rename_i h3; rw [if_neg h3]; exact findL_ok p gen so L (n + 1) h
theorem findL_n {rd : Rd} (p gen : Int) (so : Tag → Bool) : ∀ (L : List Int) (n : Nat), (findL rd p gen so L n).n ≤ n + L.length
  | [], n => by unfold findL; simp
  | d :: L, n => by
    have h1 := findL_n (rd := rd) p gen so L n
    have h2 := findL_n (rd := rd) p gen so L (n + 1)
    unfold findL
    rw [List.length_cons]
    split
    · omega
    · split
      · show n ≤ _; omega
      · split
        · show n + 1 ≤ _; omega
        · omega
theorem isTag_parts {s : List Int} (h : isTag s = true) : 1 ≤ (tagRaw s).parts ∧ (tagRaw s).parts ≤ 40 := by
  unfold isTag tagBad at h
  simp only [Bool.not_eq_true', Bool.or_eq_false_iff, decide_eq_false_iff_not] at h
  have h1 := h.1.1.1.1.1.1
  have h2 := h.1.1.1.1.1.2
  omega
theorem wpList_box_one {P : Program} {ops : Array Oper} {rest : List Oper} {o : Oper} {a : Act} {w : World} {Q : Exit → Act → World → Prop} (hgd : Region.wanted o (yielded ops a.tmps) = true) (T : TypeId) (x : Operand) (ho : o.op = .box T x) (v : Value) (hx : a.eval x = v) (hv : v.cells = #[v])
    (h : ∀ w1, Hid (w1.heap[w.heap.size]? = some (.cells [v].toArray T (0, 0))) → w.heap.size < w1.heap.size → Kept w w1 → wpList P ops Q rest (a.put o.dst (.pointer (some ⟨w.heap.size, 0, none⟩))) w1) : wpList P ops Q (o :: rest) a w := by
  refine BigFrame.wpList_want hgd fun K hK => ?_
  unfold Oper.wp execOp
  simp only [ho, hx, Instr.box, newVar, newRow, Sem.run_bind, Result.andThen_ok, Sem.run_pure, run_newObj_alloc, hv]
  exact hK _ _ (h _ (Lib.hid (heap_alloc_new w _)) (by simp) ((Kept.refl _).alloc _))
theorem but_kept {W W' : World} {P : Nat} (h : But (fun k => k = P) W W') {w : World} (hk : Kept w W) (hP : w.heap.size ≤ P) : Kept w W' := But.to_kept hk h (fun i hi => hi ▸ hP)
theorem SL.but {W W' : World} {v : Value} {L : List (List Int)} {P : Nat} (h : SL W v L) (hb : But (fun k => k = P) W W') {co : Array Value} {t : TypeId} (hP : W.heap[P]? = some (.cells co t (0, 0))) (ht : t ≠ 39) : SL W' v L :=
  h.same fun g hg => hb.block g (own_lt h.1 hg) (own_ne h.1 hP ht g hg)
theorem SL.grew {W0 W W' : World} {v v' : Value} (hK : Kept W0 W) (hf : ∀ g, v.ownBlock = some g → W0.heap.size ≤ g) (hgr : Grw W W' v v') : Kept W0 W' ∧ ∀ g, v'.ownBlock = some g → W0.heap.size ≤ g := by
  rcases hgr with ⟨e, hb⟩ | ⟨g', e, h1, _, hk⟩
  · exact ⟨But.to_kept hK hb (fun k hk => hf k hk), fun g hg => hf g (e ▸ hg)⟩
  · refine ⟨hK.trans hk, fun g hg => ?_⟩
    rw [e] at hg; injection hg with hg
    have := hK.size; omega
theorem SL.one {W : World} {G : Nat} {s : List Int} (hs : s.length = 64) (h : W.heap[G]? = some (.cells (u8s s).toArray 39 (0, 0))) : SL W (.slice (some ⟨G, 0, none⟩) 1 1) [s] := by
  refine ⟨⟨by simp [secs, u8s_length, hs], .inr ⟨G, 1, _, rfl, Nat.zero_le _, h, Nat.le_refl _, by decide, by simp [u8s_length, hs], ?_⟩⟩, fun x hx => by rw [List.mem_singleton.1 hx]; exact hs⟩
  have e : secs [s] = u8s s := by simp [secs]
  rw [e, List.length_singleton]
  exact List.take_of_length_le (by rw [u8s_length, hs]; decide)
def lenOf : Value → Nat
  | .slice _ n _ => n
  | _ => 0
section
variable {w0 W : World} {R : Nat → Prop} {q : Nat} {T : BankT}
set_option maxHeartbeats 4000000
set_option maxRecDepth 100000
theorem meta_record (h : BK w0 R W q T) (u : T.Use) (B c : Nat) (L : List Int) (hlv : Cells W B 0 (ints L)) (hBW : B < W.heap.size) (hL : L.length ≤ 100) (gen num : Int) (p : Nat) (hp : p ≤ 48) :
    Calls Tryd.prog 54 #[.agg #[.pointer (some ⟨q, 0, none⟩), .slice (some ⟨B, 0, none⟩) L.length c, .int .i64 gen], .int .i64 (p : Int), .int .i64 num] W fun e w' => ∃ v, e = .returned (.tuple #[v, .int .i64 (recL T.read L gen p num).2]) ∧ SL w' v (recL T.read L gen p num).1 ∧ (∀ s ∈ (recL T.read L gen p num).1, SecB s) ∧ (∀ g, v.ownBlock = some g → W.heap.size ≤ g) ∧ Kept W w' := by
  obtain ⟨res, hres⟩ : ∃ res, recL T.read L gen p num = res := ⟨_, rfl⟩
  rw [hres]
  unfold recL at hres
  have HRES := Lib.hid hres
  have HB := Lib.hid h; have HU := Lib.hid u; have HLV := Lib.hid hlv; have HBW := Lib.hid hBW
  have HW0 := Lib.hid h.keeps.size
  have HOK := Lib.hid (findL_ok (rd := T.read) (p : Int) gen (soFirst num) L 0)
  have HFN := Lib.hid (findL_n (rd := T.read) (p : Int) gen (soFirst num) L 0)
  have HFS := Lib.hid (findL_sec u.inv (p : Int) gen (soFirst num) L 0)
  clear h u hlv hBW hres
  go_enter Tryd.func54, Tryd.ntmps54
  go_wp2_with (refine stop_at (o := ⟨some 3, _, _, _, _, _⟩) ?_)
  refine Stop.mk ?_
  refine wpList_box_row rfl _ _ rfl [.pointer (some ⟨q, 0, none⟩), .slice (some ⟨B, 0, none⟩) L.length c, .int .i64 gen] rfl ?_
  intro w1 hz1 hs1 hk1
  refine wpList_box_one rfl _ _ rfl (.int .i64 num) rfl rfl ?_
  intro w2 hz2 hs2 hk2
  have HX2 := Lib.hid (hk2.block hz1.out)
  have HK2 := Lib.hid (hk1.trans hk2)
  have HP2 := hz2
  have HXP := Lib.hid hs1
  have HPL := Lib.hid (show w1.heap.size < w2.heap.size from hs2)
  have HBK2 := Lib.hid ((HB.out.kept hk1).1.more hk2 w1.heap.size (Nat.le_refl _) hs2)
  have HGP := Lib.hid (show W.heap.size ≤ w1.heap.size ∧ w0.heap.size ≤ w1.heap.size by have := hk1.size; have := HW0.out; omega)
  generalize w1.heap.size = P at *
  have hXW := Lib.hid (show W.heap.size ≤ W.heap.size ∧ B < W.heap.size from ⟨Nat.le_refl _, HBW.out⟩)
  clear hz1 hs1 hk1 hz2 hs2 hk2
  generalize hX : W.heap.size = X at HX2 HXP hXW ⊢
  have HXE := Lib.hid hX
  clear hX
  go_wp2_with (refine stop_at (o := ⟨some 21, _, _, _, _, _⟩) ?_)
  refine Stop.mk ?_
  refine wpList_load_agg rfl _ rfl ty_scan X 0 rfl _ (by simpa using Cells.of_block HX2.out) rfl ?_
  go_wp2_with fail
  refine Calls.mono (find_first HBK2.out HU.out P (.inr rfl) HGP.out.2 B c L (HLV.out.kept HK2.out) (by have := hXW.out.2; have := HXP.out; omega) hL gen (p : Int) (by omega) (soFirst num) (fun w => w.cell? ⟨P, 0, none⟩ = some (.int .i64 num)) (cell_of_row _ _ 0 _ _ _ HP2.out) (fun w w' hi hk => hk.cell' hi) (fun w w' g cs t hi hw hg => (World.cell?_of_block (hw.oth P (Ne.symm hg))).trans hi) (fun t w hi => (so_first num t P w hi).mono fun e w' ⟨he, hk⟩ => ⟨he, hk.cell' hi, But.kept hk⟩)) ?_
  rintro e w3 ⟨rfl, hi3, hb3⟩
  have HK3 := Lib.hid (but_kept hb3 HK2.out HGP.out.1)
  have HX3 := Lib.hid ((hb3.block X (Array.getElem?_eq_some_iff.1 HX2.out).1 (by have := HXP.out; omega)).trans HX2.out)
  have HPC3 := Lib.hid hi3
  have HPL3 := Lib.hid (Nat.lt_of_lt_of_le HPL.out hb3.size)
  generalize findL T.read (p : Int) gen (soFirst num) L 0 = r at *
  obtain ⟨s, n, ok, e⟩ := r
  simp only [] at HRES HOK HFN HFS ⊢
  clear hi3 hb3 HX2 HP2 HBK2 HK2 HPL
  go_wp2_with (refine stop_at (o := ⟨some 8, _, _, _, _, _⟩) ?_)
  refine Stop.mk ?_
  refine wpList_new_row rfl rfl _ _ rfl rfl ty_sec (u8s zeroB) zero_sec (by rw [u8s_length, zeroB_length]) (u8s s) rfl (by rw [u8s_length, HFS.out.1]) (u8s_one _) rfl ?_
  intro w4 hz4 hs4 hk4
  have HK4 := Lib.hid (HK3.out.trans hk4)
  have HX4 := Lib.hid (hk4.block HX3.out)
  have HPC4 := Lib.hid (hk4.cell' HPC3.out)
  have HPL4 := Lib.hid (Nat.lt_of_lt_of_le HPL3.out hk4.size)
  have HS4 := hz4
  generalize w3.heap.size = Y at *
  clear hz4 hs4 hk4 HK3 HX3 HPC3 HPL3
  by_cases he : e = 0
  · subst he
    rw [if_neg (by decide)] at HRES
    by_cases hn : n = 0
    · subst hn
      rw [if_pos rfl] at HRES
      go_wp2
      go_ret2
      exact ⟨_, by rw [← HRES.out]; rfl, by rw [← HRES.out]; exact SL.nil _, by rw [← HRES.out]; exact (fun s h => by cases h), (fun g hg => by simp [Value.ownBlock] at hg), HK4.out⟩
    · rw [if_neg hn] at HRES
      have hnb : ((n : Int) == 0) = false := by simpa using hn
      cases ok with
      | false =>
        rw [if_pos rfl] at HRES
        go_wp2
        go_ret2
        exact ⟨_, by rw [← HRES.out]; rfl, by rw [← HRES.out]; exact SL.nil _, by rw [← HRES.out]; exact (fun s h => by cases h), (fun g hg => by simp [Value.ownBlock] at hg), HK4.out⟩
      | true =>
        rw [if_neg (by decide)] at HRES
        obtain ⟨htag, _⟩ := HOK.out rfl
        obtain ⟨hp1, hp40⟩ := isTag_parts htag
        have hc := record_TagOf s w4 HFS.out.2 HFS.out.1
        rw [tagRes_is htag] at hc
        have HC := Lib.hid hc
        obtain ⟨m, hm⟩ := Int.eq_ofNat_of_zero_le (show 0 ≤ (tagRaw s).parts by omega)
        have HM := Lib.hid hm
        rw [hm] at HRES hp1 hp40
        clear hc htag hn hm HOK
        go_wp2_with (refine stop_at (o := ⟨some 40, _, _, _, _, _⟩) ?_)
        refine Stop.mk ?_
        refine wpList_load_agg rfl _ rfl ty_sec Y 0 rfl (u8s s) (by simpa using Cells.of_block HS4.out) (by rw [u8s_length, HFS.out.1]) ?_
        go_wp2_with fail
        refine Calls.mono HC.out ?_
        rintro e w5 ⟨rfl, hk5⟩
        have HK5 := Lib.hid (HK4.out.trans hk5)
        have HX5 := Lib.hid (hk5.block HX4.out)
        have HPC5 := Lib.hid (hk5.cell' HPC4.out)
        have HPL5 := Lib.hid (Nat.lt_of_lt_of_le HPL4.out hk5.size)
        have HS5 := Lib.hid (hk5.block HS4.out)
        clear hk5 HK4 HX4 HPC4 HPL4 HS4 HC
        go_wp2_with (refine stop_at (o := ⟨some 12, _, _, _, _, _⟩) ?_)
        refine Stop.mk ?_
        refine wpList_new_row rfl rfl _ _ rfl rfl ty_tag tag0.vals zero_tag rfl (tagRaw s).vals rfl rfl (tag_one _) rfl ?_
        intro w6 hz6 hs6 hk6
        have HK6 := Lib.hid (HK5.out.trans hk6)
        have HX6 := Lib.hid (hk6.block HX5.out)
        have HPC6 := Lib.hid (hk6.cell' HPC5.out)
        have HPL6 := Lib.hid (Nat.lt_of_lt_of_le HPL5.out hk6.size)
        have HS6 := Lib.hid (hk6.block HS5.out)
        have v3 : w6.cell? ⟨w5.heap.size, 3, none⟩ = some (.int .i64 (m : Int)) := by
          rw [cell_of_row _ _ 3 _ _ _ hz6.out, ← HM.out]; rfl
        have HVL := Lib.hid (show w5.heap.size < w6.heap.size from hs6)
        generalize w5.heap.size = V at *
        clear hz6 hs6 hk6 HK5 HX5 HPC5 HPL5 HS5
        by_cases hfit : 48 < (p : Int) + (m : Int)
        · rw [if_pos hfit] at HRES
          go_wp2
          go_ret2
          exact ⟨_, by rw [← HRES.out]; rfl, by rw [← HRES.out]; exact SL.nil _, by rw [← HRES.out]; exact (fun s h => by cases h), (fun g hg => by simp [Value.ownBlock] at hg), HK6.out⟩
        · rw [if_neg hfit] at HRES
          go_wp2_with (refine stop_at (o := ⟨some 49, _, _, _, _, _⟩) ?_)
          refine Stop.mk ?_
          refine wpList_load_agg rfl _ rfl ty_sec Y 0 rfl (u8s s) (by simpa using Cells.of_block HS6.out) (by rw [u8s_length, HFS.out.1]) ?_
          refine wpList_one_sec rfl _ rfl s HFS.out.1 rfl ?_
          intro w7 hz7 hs7 hk7
          have HG6 := Lib.hid (Nat.le_refl w6.heap.size)
          have HSL7 : Hid (SL w7 (.slice (some ⟨w6.heap.size, 0, none⟩) 1 1) [s] ∧ (∀ x ∈ [s], SecB x) ∧ ∀ g, (Value.slice (some ⟨w6.heap.size, 0, none⟩) 1 1).ownBlock = some g → w6.heap.size ≤ g) := Lib.hid ⟨SL.one HFS.out.1 hz7.out, (fun x hx => by rw [List.mem_singleton.1 hx]; exact HFS.out), fun g hg => by simp only [Value.ownBlock, Option.some.injEq] at hg; omega⟩
          have HK7 := Lib.hid hk7
          have HM1 : Hid (((m : Int) - 1).toNat = m - 1) := Lib.hid (by omega)
          rw [HM1.out] at HRES
          have hm1 : 1 ≤ m := by omega
          have hm40 : m ≤ 40 := by omega
          have HXX := Lib.hid (show X < w6.heap.size from (Array.getElem?_eq_some_iff.1 HX6.out).1)
          generalize hG : w6.heap.size = G at *
          have HGE := Lib.hid hG
          have HV3 := Lib.hid v3
          clear hz7 hs7 hk7 hG v3 hp1 hp40 HG6
          go_wp2
          go_loopw [14] (fun v wr => ∃ (k : Nat) (l : List (List Int)), 1 ≤ l.length ∧ l.length + k = m ∧ Hid (moreL T.read L gen (p : Int) num (m : Int) k l = res) ∧ Hid (SL wr v l ∧ (∀ x ∈ l, SecB x) ∧ ∀ g, v.ownBlock = some g → w6.heap.size ≤ g) ∧ Hid (Kept w6 wr)) (fun v _ => m - lenOf v)
          case atStart => exact ⟨m - 1, [s], Nat.le_refl _, by show 1 + (m - 1) = m; omega, HRES, Lib.hid ⟨HSL7.out.1, HSL7.out.2.1, by rw [HGE.out]; exact HSL7.out.2.2⟩, HK7⟩
          case round =>
            obtain ⟨k, l, hl1, hlk, HRES, HS, HK⟩ := hrel
            obtain ⟨wo, hwo⟩ : ∃ wo, wo = wr := ⟨_, rfl⟩
            subst hwo
            clear HSL7
            obtain ⟨ao, cap, hv⟩ : ∃ ao cap, u14 = Value.slice ao l.length cap := by
              obtain ⟨ao, cap, e, _⟩ := HS.out.1.form
              exact ⟨ao, cap, e⟩
            subst hv
            have v3 := HK.out.cell' HV3.out
            have x2 : wo.cell? ⟨X, 2, none⟩ = some (.int .i64 gen) := cell_of_row _ _ 2 _ _ _ (HK.out.block HX6.out)
            have p0 := HK.out.cell' HPC6.out
            by_cases hlt : l.length < m
            · obtain ⟨k', rfl⟩ : ∃ k', k = k' + 1 := ⟨k - 1, by omega⟩
              unfold moreL at HRES
              go_wp2_with (refine stop_at (o := ⟨some 15, _, _, _, _, _⟩) ?_)
              refine Stop.mk ?_
              refine wpList_new_row rfl rfl _ _ rfl rfl ty_tag tag0.vals zero_tag rfl (Tag.vals ⟨gen, num, (l.length : Int), (m : Int), 0⟩) rfl rfl (tag_one _) rfl ?_
              intro w8 hz8 hs8 hk8
              have HK8 := Lib.hid (HK.out.trans hk8)
              have HKW := Lib.hid (HK6.out.trans HK.out)
              have HBK := Lib.hid ((HB.out.kept HKW.out).1.more hk8 wo.heap.size (Nat.le_refl _) hs8)
              have HP8 := hz8
              have HS8 := Lib.hid (And.intro (HS.out.1.kept hk8) HS.out.2)
              have HX8 := Lib.hid (HK8.out.block HX6.out)
              have HLV8 := Lib.hid (HLV.out.kept (HKW.out.trans hk8))
              have HGE8 := Lib.hid (show w6.heap.size ≤ wo.heap.size ∧ w0.heap.size ≤ wo.heap.size ∧ B ≠ wo.heap.size by have := HK.out.size; have := HKW.out.size; have := HBW.out; have := HW0.out; omega)
              generalize wo.heap.size = P2 at *
              clear hz8 hs8 hk8 HK HS v3 x2 p0
              go_wp2_with (refine stop_at (o := ⟨some 65, _, _, _, _, _⟩) ?_)
              refine Stop.mk ?_
              refine wpList_load_agg rfl _ rfl ty_scan X 0 rfl _ (by simpa using Cells.of_block HX8.out) rfl ?_
              go_wp2_with fail
              refine Calls.mono (find_next HBK.out HU.out P2 (.inr rfl) HGE8.out.2.1 B c L HLV8.out HGE8.out.2.2 hL gen ((p : Int) + (l.length : Int)) (by omega) (soNext gen num (l.length : Int) (m : Int)) (fun w => ∃ x, w.heap[P2]? = some (.cells (Tag.vals ⟨gen, num, (l.length : Int), (m : Int), x⟩).toArray 74 (0, 0))) ⟨0, HP8.out⟩ (fun w w' ⟨x, hi⟩ hk => ⟨x, hk.block hi⟩) (fun w w' g cs t ⟨x, hi⟩ hw hg => ⟨x, (hw.oth P2 (Ne.symm hg)).trans hi⟩) (fun t w ⟨x, hi⟩ => (so_next gen num (l.length : Int) (m : Int) x t P2 w hi).mono fun e w' ⟨he, hi', hb⟩ => ⟨he, ⟨_, hi'⟩, hb⟩)) ?_
              rintro e w9 ⟨rfl, ⟨x9, hi9⟩, hb9⟩
              have HK9 := Lib.hid (but_kept hb9 HK8.out HGE8.out.1)
              have HS9 := Lib.hid (And.intro (HS8.out.1.but hb9 HP8.out (by decide)) HS8.out.2)
              have HF2 := Lib.hid (findL_sec HU.out.inv ((p : Int) + (l.length : Int)) gen (soNext gen num (l.length : Int) (m : Int)) L 0)
              generalize findL T.read ((p : Int) + (l.length : Int)) gen (soNext gen num (l.length : Int) (m : Int)) L 0 = r at *
              obtain ⟨s2, n2, ok2, e2⟩ := r
              simp only [] at HRES HF2 ⊢
              clear hi9 hb9 HBK HP8 HS8 HX8 HLV8 HK8
              go_wp2_with (refine stop_at (o := ⟨some 16, _, _, _, _, _⟩) ?_)
              refine Stop.mk ?_
              refine wpList_new_row rfl rfl _ _ rfl rfl ty_sec (u8s zeroB) zero_sec (by rw [u8s_length, zeroB_length]) (u8s s2) rfl (by rw [u8s_length, HF2.out.1]) (u8s_one _) rfl ?_
              intro w10 hz10 hs10 hk10
              have HK10 := Lib.hid (HK9.out.trans hk10)
              have HS10 := Lib.hid (And.intro (HS9.out.1.kept hk10) HS9.out.2)
              have HY10 := hz10
              generalize w9.heap.size = Y2 at *
              clear hz10 hs10 hk10 HK9 HS9
              by_cases he : e2 = 0
              · subst he
                cases ok2 with
                | false =>
                  rw [if_pos (.inr rfl)] at HRES
                  go_wp2
                  go_ret2
                  exact ⟨_, by rw [← HRES.out]; rfl, by rw [← HRES.out]; exact SL.nil _, by rw [← HRES.out]; exact (fun s h => by cases h), (fun g hg => by simp [Value.ownBlock] at hg), HK6.out.trans HK10.out⟩
                | true =>
                  rw [if_neg (by simp)] at HRES
                  go_wp2_with (refine stop_at (o := ⟨some 84, _, _, _, _, _⟩) ?_)
                  refine Stop.mk ?_
                  refine wpList_load_agg rfl _ rfl ty_sec Y2 0 rfl (u8s s2) (by simpa using Cells.of_block HY10.out) (by rw [u8s_length, HF2.out.1]) ?_
                  refine wpList_one_sec rfl _ rfl s2 HF2.out.1 rfl ?_
                  intro w11 hz11 hs11 hk11
                  have HK11 := Lib.hid (HK10.out.trans hk11)
                  refine wpList_append_sec (v := .slice ao l.length cap) rfl _ _ rfl l rfl (HS10.out.1.kept hk11) (by omega) w10.heap.size rfl s2 HF2.out.1 hz11.out ?_
                  intro v' w12 hsl hgr
                  obtain ⟨hk12, hf12⟩ := SL.grew HK11.out HS10.out.2.2 hgr
                  have HK12 := Lib.hid hk12
                  have HS12 : Hid (SL w12 v' (l ++ [s2]) ∧ (∀ x ∈ l ++ [s2], SecB x) ∧ ∀ g, v'.ownBlock = some g → w6.heap.size ≤ g) := Lib.hid ⟨hsl, fun x hx => by
                    rcases List.mem_append.1 hx with hx | hx
                    · exact HS10.out.2.1 x hx
                    · rw [List.mem_singleton.1 hx]; exact HF2.out, hf12⟩
                  have hll : (l ++ [s2]).length = l.length + 1 := by rw [List.length_append]; rfl
                  obtain ⟨ao2, cap2, hv2⟩ : ∃ ao2 cap2, v' = Value.slice ao2 (l.length + 1) cap2 := by
                    obtain ⟨ao2, cap2, e, _⟩ := hsl.form
                    rw [hll] at e
                    exact ⟨ao2, cap2, e⟩
                  subst hv2
                  have HLL := Lib.hid hll
                  clear hsl hgr hk12 hf12 hz11 hs11 hk11 hll HK11 HK10 HS10 HY10
                  go_wp2
                  go_roundw
                  case rel => exact ⟨k', l ++ [s2], by rw [HLL.out]; omega, by rw [HLL.out]; omega, HRES, HS12, HK12⟩
                  case measure => simp [lenOf]; omega
              · have heb2 : (e2 == 0) = false := by simpa using he
                rw [if_pos (.inl he)] at HRES
                have hnb2 : (e2 != 0) = true := by simpa using he
                clear he
                cases ok2
                all_goals
                  go_wp2
                  go_ret2
                  exact ⟨_, by rw [← HRES.out]; rfl, by rw [← HRES.out]; exact SL.nil _, by rw [← HRES.out]; exact (fun s h => by cases h), (fun g hg => by simp [Value.ownBlock] at hg), HK6.out.trans HK10.out⟩
            · obtain rfl : k = 0 := by omega
              have HRR : Hid (res = (l, 0)) := Lib.hid (by have := HRES.out; unfold moreL at this; exact this.symm)
              clear HRES
              go_wp2
              go_ret2
              exact ⟨_, by rw [HRR.out]; rfl, by rw [HRR.out]; exact HS.out.1, by rw [HRR.out]; exact HS.out.2.1, (fun g hg => Nat.le_trans HK6.out.size (HS.out.2.2 g hg)), HK6.out.trans HK.out⟩
  · have heb : (e == 0) = false := by simpa using he
    rw [if_pos he] at HRES
    clear he
    go_wp2
    go_ret2
    exact ⟨_, by rw [← HRES.out]; rfl, by rw [← HRES.out]; exact SL.nil _, by rw [← HRES.out]; exact (fun s h => by cases h), (fun g hg => by simp [Value.ownBlock] at hg), HK4.out⟩
end
end Go.Proofs.YtpeclkhppgabfaaDoor
