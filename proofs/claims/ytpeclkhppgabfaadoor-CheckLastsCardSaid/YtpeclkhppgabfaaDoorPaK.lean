/- PaK: several texts in one: Who Lda. -/
import Derived.Test.YtpeclkhppgabfaaDoorPaJ
/- check.whole walked. -/
namespace Go.Proofs.YtpeclkhppgabfaaDoor
open Go.RowKit
set_option linter.unusedVariables false
set_option linter.unusedSimpArgs false

/-- a row of rows of parts -/
def AllIn (W0 W : World) (G : Nat) (A : List (List (List Int))) : Prop := ∃ vs : List Value, vs.length = A.length ∧ W.heap[G]? = some (.cells vs.toArray 70 (0, 0)) ∧ ∀ i, i < A.length → PIn W0 W (vs.getD i undef) (A.getD i [])
theorem AllIn.kept {W0 W W' : World} {G : Nat} {A : List (List (List Int))} (h : AllIn W0 W G A) (hk : Kept W W') : AllIn W0 W' G A := by
  obtain ⟨vs, h1, h2, h3⟩ := h
  exact ⟨vs, h1, hk.block h2, fun i hi => (h3 i hi).kept hk⟩
theorem AllIn.at {W0 W : World} {G : Nat} {A : List (List (List Int))} (h : AllIn W0 W G A) {k : Nat} (hk : k < A.length) : ∃ ao cap, W.cell? ⟨G, k, none⟩ = some (.slice ao (A.getD k []).length cap) ∧ ∀ i (hi : i < (A.getD k []).length), ∃ g, ao = some ⟨g, 0, none⟩ ∧ W0.heap.size ≤ g ∧ Cells W g (i * 69) (partVals ((A.getD k []).getD i [])) ∧ SecB ((A.getD k []).getD i []) := by
  obtain ⟨vs, h1, h2, h3⟩ := h
  obtain ⟨ao, cap, e, hf⟩ := (h3 k hk).form
  refine ⟨ao, cap, ?_, hf⟩
  rw [cell_of_row W G k _ _ _ h2, ← e, List.getElem?_toArray, List.getD_eq_getElem?_getD, List.getElem?_eq_getElem (by omega)]
  rfl
theorem partVals_at {s : List Int} (h : s.length = 64) (j : Nat) : (partVals s)[64 + j]? = (tagRaw s).vals[j]? := by
  unfold partVals
  rw [List.getElem?_append_right (by rw [u8s_length]; omega), u8s_length, h]
  congr 1; omega
theorem part_head {W : World} {P : Nat} {s : List Int} (h : Cells W P 0 (partVals s)) : Cells W P 0 (u8s s) := fun j hj => by
  have := h j (by unfold partVals; rw [List.length_append]; omega)
  rw [this]
  unfold partVals
  rw [List.getElem_append_left hj]
theorem SL.secSl {W : World} {v : Value} {L : List (List Int)} (h : SL W v L) (hs : ∀ s ∈ L, SecB s) : SecSl W v L := by
  rcases owns_form h.1 with ⟨rfl, h0, _⟩ | ⟨g, cap, rfl, hb, hg, hn, hc⟩
  · exact ⟨none, 0, by rw [h0], by omega, fun k hk => by omega⟩
  · exact ⟨_, cap, rfl, hn, fun k hk => ⟨g, 0, rfl, by rw [Nat.zero_add]; exact cells_sec hc h.2 hk, getD_sec hs hk⟩⟩
theorem wholeTo_len {A : List (List (List Int))} {t : Tag} : ∀ {k : Nat} {l : List (List Int)}, wholeTo A t k = some l → l.length = k
  | 0, l, h => by unfold wholeTo at h; cases h; rfl
  | k + 1, l, h => by
    unfold wholeTo at h
    cases h1 : wholeTo A t k with
    | none => rw [h1] at h; cases h
    | some l' =>
      rw [h1] at h
      simp only [] at h
      split at h
      · cases h
      · rename_i s _
        cases h
        rw [List.length_append, wholeTo_len h1, List.length_singleton]
theorem find_at {α : Type} (f : α → Bool) (d : α) : ∀ (row : List α) (m : Nat), m < row.length → (∀ i, i < m → f (row.getD i d) = false) → f (row.getD m d) = true → row.find? f = some (row.getD m d)
  | [], m, hm, _, _ => by simp at hm
  | a :: row, 0, _, _, h => by
    have h' : f a = true := h
    rw [List.find?_cons_of_pos h']; rfl
  | a :: row, m + 1, hm, hn, h => by
    have h0 : f a = false := hn 0 (by omega)
    rw [List.find?_cons_of_neg (by rw [h0]; decide)]
    exact find_at f d row m (by simpa using hm) (fun i hi => hn (i + 1) (by omega)) h
theorem find_none_at {α : Type} (f : α → Bool) (d : α) (row : List α) (hn : ∀ i, i < row.length → f (row.getD i d) = false) : row.find? f = none := by
  rw [List.find?_eq_none]
  intro x hx
  obtain ⟨i, hi, rfl⟩ := List.getElem_of_mem hx
  have := hn i hi
  rw [List.getD_eq_getElem?_getD, List.getElem?_eq_getElem hi] at this
  simpa using this
section
variable {W0 W : World} {G : Nat}
set_option maxHeartbeats 4000000
set_option maxRecDepth 100000
theorem check_whole {A : List (List (List Int))} (hA : AllIn W0 W G A) (hl : A.length = 32) (hrl : ∀ i, (A.getD i []).length ≤ 1000) (t : Tag) (hp : 0 ≤ t.parts ∧ t.parts ≤ 32) :
    Calls Tryd.prog 38 #[.slice (some ⟨G, 0, none⟩) 32 32, t.val] W fun e w' => ∃ v, e = .returned (.tuple #[v, .bool (wholeB A t).isSome]) ∧ w'.ownsRow W.heap.size 5 1 v ((wholeB A t).getD []).length (u8s ((wholeB A t).getD [])) ∧ Kept W w' := by
  obtain ⟨res, hres⟩ : ∃ res, wholeB A t = res := ⟨_, rfl⟩
  rw [hres]
  unfold wholeB at hres
  obtain ⟨n, hn⟩ := Int.eq_ofNat_of_zero_le hp.1
  rw [hn] at hres
  have HRES := Lib.hid (show (match wholeTo A t n with | none => none | some l => joinB t.gen 0 l) = res from hres)
  have HA := Lib.hid hA
  have HN := Lib.hid hn
  have HRL := Lib.hid hrl
  clear hrl
  have hn32 : n ≤ 32 := by omega
  clear hres hA hp
  have hv : t.val = .agg #[.int .i64 t.gen, .int .i64 t.num, .int .i64 t.part, .int .i64 (n : Int), .int .i64 t.len] := by unfold Tag.val; rw [hn]
  rw [hv]
  clear hv hn
  go_enter Tryd.func38, Tryd.ntmps38
  go_wp2_with (refine stop_at (o := ⟨some 3, _, _, _, _, _⟩) ?_)
  refine Stop.mk ?_
  refine wpList_box_row rfl _ _ rfl [.int .i64 t.gen, .int .i64 t.num, .int .i64 t.part, .int .i64 (n : Int), .int .i64 t.len] rfl ?_
  intro w1 hz1 hs1 hk1
  have h0 : w1.cell? ⟨W.heap.size, 0, none⟩ = some (.int .i64 t.gen) := cell_of_row _ _ 0 _ _ _ hz1.out
  have h3 : w1.cell? ⟨W.heap.size, 3, none⟩ = some (.int .i64 (n : Int)) := cell_of_row _ _ 3 _ _ _ hz1.out
  have HH := Lib.hid (And.intro h0 h3)
  have HK1 := Lib.hid hk1
  have HWX := Lib.hid (Nat.le_refl W.heap.size)
  generalize hX : W.heap.size = X at h0 h3 HH ⊢
  have HXW := Lib.hid hX
  clear hz1 hs1 hk1 h0 hX HWX
  go_wp2
  clear h3
  go_loopw [6, 12] (fun v i wr => ∃ (k : Nat) (l : List (List Int)), k ≤ n ∧ i = .int .i64 k ∧ Hid (wholeTo A t k = some l) ∧ Hid (SL wr v l ∧ (∀ s ∈ l, SecB s) ∧ ∀ g, v.ownBlock = some g → w1.heap.size ≤ g) ∧ Hid (Kept w1 wr)) (fun _ i _ => n - (intOf i).toNat)
  case atStart => exact ⟨0, [], Nat.zero_le _, rfl, Lib.hid rfl, Lib.hid ⟨SL.nil _, (fun s h => by cases h), fun g h => by simp [Value.ownBlock] at h⟩, Lib.hid (Kept.refl _)⟩
  case round =>
    obtain ⟨k, l, hk, rfl, HW, HS, HK⟩ := hrel
    obtain ⟨wo, hwo⟩ : ∃ wo, wo = wr := ⟨_, rfl⟩
    subst hwo
    by_cases hlt : k < n
    · have hkA : k < A.length := by omega
      obtain ⟨ao, cap, hcell, hrow⟩ := (HA.out.kept (HK1.out.trans HK.out)).at hkA
      have HROW := Lib.hid hrow
      have HLK := Lib.hid (wholeTo_len HW.out)
      obtain ⟨row, hrw⟩ : ∃ row, A.getD k [] = row := ⟨_, rfl⟩
      have HRW := Lib.hid hrw
      rw [hrw] at hcell HROW
      have hrl1 : row.length ≤ 1000 := by rw [← hrw]; exact HRL.out k
      obtain ⟨ao', cap', hsv⟩ : ∃ ao' cap', u6 = Value.slice ao' k cap' := by
        obtain ⟨ao', cap', e, _⟩ := HS.out.1.form
        rw [HLK.out] at e
        exact ⟨ao', cap', e⟩
      subst hsv
      have hk32 : (k : Int) < 32 := by omega
      clear hrow hrw hl
      go_wp2
      go_loopw [6, 20] (fun v j wx => ∃ m : Nat, m ≤ row.length ∧ v = Value.slice ao' k cap' ∧ j = .int .i64 m ∧ Hid (∀ i, i < m → mayPick t k (row.getD i []) = false) ∧ Hid (Kept wo wx)) (fun _ j _ => row.length - (intOf j).toNat)
      case atStart => exact ⟨0, Nat.zero_le _, rfl, rfl, Lib.hid (fun i h => absurd h (Nat.not_lt_zero _)), Lib.hid (Kept.refl _)⟩
      case round =>
        obtain ⟨m, hm, rfl, rfl, HNO, HKX⟩ := hrel
        by_cases hml : m < row.length
        · obtain ⟨g, rfl, hg0, hgc, hsec⟩ := HROW.out m hml
          have HC := Lib.hid (hgc.kept HKX.out)
          have HSB := Lib.hid hsec
          obtain ⟨s, hse⟩ : ∃ s, row.getD m [] = s := ⟨_, rfl⟩
          have HSE := Lib.hid hse
          rw [hse] at HC HSB
          have HPL := Lib.hid (partVals_len HSB.out.1)
          clear hgc hsec hse hcell
          go_wp2_with (refine stop_at (o := ⟨some 23, _, _, _, _, _⟩) ?_)
          refine Stop.mk ?_
          refine wpList_load_agg rfl _ rfl ty_part g (m * 69) rfl (partVals s) HC.out HPL.out ?_
          refine wpList_new_row rfl rfl _ _ rfl rfl ty_part (List.replicate 64 (Value.int .u8 0) ++ List.replicate 5 (Value.int .i64 0)) zero_part rfl (partVals s) rfl HPL.out (partVals_one s) rfl ?_
          intro w3 hz3 hs3 hk3
          have HKY := Lib.hid (HKX.out.trans hk3)
          have hcl := (by simpa using Cells.of_block hz3.out : Cells w3 wr.heap.size 0 (partVals s))
          have k0 : w3.cell? ⟨wr.heap.size, 64, none⟩ = some (.int .i64 (tagRaw s).gen) := by
            rw [cell_of_row _ _ 64 _ _ _ hz3.out, List.getElem?_toArray]; exact partVals_at HSB.out.1 0
          have k2 : w3.cell? ⟨wr.heap.size, 66, none⟩ = some (.int .i64 (tagRaw s).part) := by
            rw [cell_of_row _ _ 66 _ _ _ hz3.out, List.getElem?_toArray]; exact partVals_at HSB.out.1 2
          have k3 : w3.cell? ⟨wr.heap.size, 67, none⟩ = some (.int .i64 (tagRaw s).parts) := by
            rw [cell_of_row _ _ 67 _ _ _ hz3.out, List.getElem?_toArray]; exact partVals_at HSB.out.1 3
          have x0 := (HK.out.trans HKY.out).cell' HH.out.1
          have x3 := (HK.out.trans HKY.out).cell' HH.out.2
          have HPH := Lib.hid (part_head hcl)
          generalize wr.heap.size = Y at *
          clear hz3 hs3 hk3 HKX hcl
          rcases hb1 : ((tagRaw s).gen == t.gen) with _ | _
          · have HNX : Hid (∀ i, i < m + 1 → mayPick t k (row.getD i []) = false) := Lib.hid fun i hi => by
              by_cases e : i = m
              · rw [e, HSE.out]; unfold mayPick; rw [hb1]; rfl
              · exact HNO.out i (by omega)
            go_wp2
            go_roundw
            case rel => exact ⟨m + 1, hml, rfl, by go_num, HNX, HKY⟩
            case measure => simp [intOf]; omega
          · rcases hb2 : ((tagRaw s).part == (k : Int)) with _ | _
            · have HNX : Hid (∀ i, i < m + 1 → mayPick t k (row.getD i []) = false) := Lib.hid fun i hi => by
                by_cases e : i = m
                · rw [e, HSE.out]; unfold mayPick; rw [hb1, hb2]; rfl
                · exact HNO.out i (by omega)
              go_wp2
              go_roundw
              case rel => exact ⟨m + 1, hml, rfl, by go_num, HNX, HKY⟩
              case measure => simp [intOf]; omega
            · rcases hb3 : ((tagRaw s).parts == (n : Int)) with _ | _
              · have HNX : Hid (∀ i, i < m + 1 → mayPick t k (row.getD i []) = false) := Lib.hid fun i hi => by
                  by_cases e : i = m
                  · rw [e, HSE.out]; unfold mayPick; rw [hb1, hb2, HN.out, hb3]; rfl
                  · exact HNO.out i (by omega)
                go_wp2
                go_roundw
                case rel => exact ⟨m + 1, hml, rfl, by go_num, HNX, HKY⟩
                case measure => simp [intOf]; omega
              · have HPK : Hid (mayPick t k s = true) := Lib.hid (by unfold mayPick; rw [hb1, hb2, HN.out, hb3]; rfl)
                go_wp2_with (refine stop_at (o := ⟨some 47, _, _, _, _, _⟩) ?_)
                refine Stop.mk ?_
                refine wpList_load_agg rfl _ rfl ty_sec Y 0 rfl (u8s s) HPH.out (by rw [u8s_length, HSB.out.1]) ?_
                refine wpList_one_sec rfl _ rfl s HSB.out.1 rfl ?_
                intro w6 hz6 hs6 hk6
                have HK6 := Lib.hid (HKY.out.trans hk6)
                refine wpList_append_sec (v := .slice ao' k cap') rfl _ _ rfl l rfl (HS.out.1.kept HK6.out) (by rw [HLK.out]; omega) w3.heap.size rfl s HSB.out.1 hz6.out ?_
                intro v' w7 hsl hgr
                have HK7 : Hid (Kept w1 w7) := Lib.hid (by
                  rcases hgr with ⟨_, hb⟩ | ⟨_, _, _, _, hk⟩
                  · exact But.to_kept (HK.out.trans HK6.out) hb (fun k hk => HS.out.2.2 k hk)
                  · exact (HK.out.trans HK6.out).trans hk)
                have hfr : ∀ g, v'.ownBlock = some g → w1.heap.size ≤ g := fun g hg => by
                  rcases hgr with ⟨e, _⟩ | ⟨g', e, h1, _, _⟩
                  · exact HS.out.2.2 g (e ▸ hg)
                  · rw [e] at hg; injection hg with hg
                    have := (HK.out.trans HK6.out).size; omega
                have HS7 := Lib.hid (And.intro hsl (And.intro (show ∀ x ∈ l ++ [s], SecB x from fun x hx => by
                  rcases List.mem_append.1 hx with hx | hx
                  · exact HS.out.2.1 x hx
                  · rw [List.mem_singleton.1 hx]; exact HSB.out) hfr))
                have HW7 : Hid (wholeTo A t (k + 1) = some (l ++ [s])) := Lib.hid (by
                  unfold wholeTo
                  rw [HW.out, HRW.out]
                  have := find_at (mayPick t k) [] row m hml HNO.out (by rw [HSE.out]; exact HPK.out)
                  rw [HSE.out] at this
                  simp only [this])
                obtain ⟨ao2, cap2, hv2⟩ : ∃ ao2 cap2, v' = .slice ao2 (k + 1) cap2 := by
                  obtain ⟨ao2, cap2, e, _⟩ := hsl.form
                  rw [List.length_append, List.length_singleton, HLK.out] at e
                  exact ⟨ao2, cap2, e⟩
                subst hv2
                clear hsl hgr hfr hz6 hs6 hk6 HK6 HNO HPK HSE HKY HPH k0 k2 k3 hb1 hb2 hb3 HPL HC x0 x3
                go_wp2
                go_roundw
                case rel => exact ⟨k + 1, l ++ [s], hlt, by go_num, HW7, HS7, HK7⟩
                case measure => simp [intOf]; omega
        · have hmr : m = row.length := by omega
          have HRR : Hid (res = none) := Lib.hid (by
            rw [← HRES.out]
            have h1 : wholeTo A t (k + 1) = none := by
              unfold wholeTo
              rw [HW.out, HRW.out]
              simp only [find_none_at (mayPick t k) [] row (fun i hi => HNO.out i (by omega))]
            have h2 : ∀ j, wholeTo A t (k + 1 + j) = none := by
              intro j
              induction j with
              | zero => exact h1
              | succ j ih =>
                rw [← Nat.add_assoc]
                unfold wholeTo
                rw [ih]
            have := h2 (n - (k + 1))
            rw [show k + 1 + (n - (k + 1)) = n by omega] at this
            rw [this])
          have hge : row.length ≤ m := by omega
          have HK2 := Lib.hid (HK1.out.trans (HK.out.trans HKX.out))
          clear hmr
          go_wp2
          go_ret2
          refine ⟨_, by rw [HRR.out]; rfl, by rw [HRR.out]; exact World.ownsRow_nil _ _ _ _, HK2.out⟩
    · have hkn : k = n := by omega
      have HRR : Hid (joinB t.gen 0 l = res) := Lib.hid (by rw [← HRES.out, ← hkn, HW.out])
      have hge : n ≤ k := by omega
      have HK2 := Lib.hid (HK1.out.trans HK.out)
      have HSS := Lib.hid (HS.out.1.secSl HS.out.2.1)
      have HLL := Lib.hid (show l.length ≤ 1000000 by rw [wholeTo_len HW.out]; omega)
      have x0 := HK.out.cell' HH.out.1
      clear hkn hl
      go_wp2_with fail
      refine Calls.mono (record_Join t.gen 0 _ l _ HSS.out HLL.out) ?_
      rintro e w5 ⟨sv, rfl, hown, hk5⟩
      have HO := Lib.hid (ownsRow_base hown (HK2.out.size))
      have HK5 := Lib.hid (HK2.out.trans hk5)
      clear hown hk5
      go_wp2
      go_ret2
      refine ⟨sv, by rw [← HRR.out]; rfl, by rw [← HRR.out]; exact HO.out, HK5.out⟩
end
end Go.Proofs.YtpeclkhppgabfaaDoor
/- check.Load: what it has in memory. -/
namespace Go.Proofs.YtpeclkhppgabfaaDoor
open Go.RowKit
set_option linter.unusedVariables false
set_option linter.unusedSimpArgs false

def bestVals (b : Best) (bv : Value) : List Value := [.int .i64 b.area, .int .i64 b.gen, bv, .int .i64 b.seen]
def zeroF : List Value := [.int .i64 0, .int .i64 0, .slice none 0 0, .int .i64 0]
theorem ty_found : AggT Tryd.prog 30 4 := ⟨⟨_, Tryd.underlying30, rfl⟩, by kernel_rfl⟩
theorem zero_found : ∀ w, (zeroValue 30).run Tryd.prog w = .ok (.agg zeroF.toArray) w := fun w => by kernel_rfl
theorem build_found (W : World) : (Instr.build 30 #[]).run Tryd.prog W = .ok (.agg zeroF.toArray) W := run_build W 30 #[] zeroF.toArray (by kernel_rfl)
theorem size_bytes : (Tryd.prog.info? 25).map (·.size) = some 1 := by kernel_rfl
theorem size_rows : (Tryd.prog.info? 70).map (·.size) = some 1 := by kernel_rfl
theorem results_found {fn : Func} {p q : Tmp} (h : fn.results = #[.cell p 30, .tmp q]) (tmps : Array Value) (w : World) (b : Nat) (xs : List Value) (hl : xs.length = 4)
    (hp : tmps.getD p undef = .pointer (some ⟨b, 0, none⟩)) (hc : Cells w b 0 xs) :
    (results fn tmps).run Tryd.prog w = .ok (.tuple #[.agg xs.toArray, tmps.getD q undef]) w := by
  have hp' : tmps[p]?.getD undef = .pointer (some ⟨b, 0, none⟩) := by simpa using hp
  obtain ⟨⟨d, hd1, hd2⟩, hs⟩ := ty_found
  have hr := run_loadVar_mid (P := Tryd.prog) w b 0 30 _ d (rangeAt_of_cells hc) hd1 hd2 (by rw [hs, hl])
  simp [results, h, hp', asAddr, hr]
/-- the best so far, in block E -/
def BestD (W : World) (B0 E : Nat) (b : Best) (bv : Value) : Prop := W.heap[E]? = some (.cells (bestVals b bv).toArray 30 (0, 0)) ∧ W.ownsRow B0 5 1 bv b.bytes.length (u8s b.bytes)
structure LdI (W wr : World) (E F : Nat) (b : Best) (bv : Value) : Prop where
  kept : Kept W wr
  ge : W.heap.size ≤ E ∧ E ≠ F ∧ W.heap.size ≤ F
  best : BestD wr W.heap.size E b bv
  fz : wr.heap[F]? = some (.cells zeroF.toArray 30 (0, 0))
theorem own_ne {w : World} {base e size n : Nat} {v : Value} {xs : List Value} (h : w.ownsRow base e size v n xs) {b : Nat} {cs : Array Value} {t : TypeId} (hb : w.heap[b]? = some (.cells cs t (0, 0))) (ht : t ≠ e) : ∀ g, v.ownBlock = some g → g ≠ b := fun g hg e => by
  subst e
  exact own_other h hb ht hg
theorem bv_one {w : World} {base e size n : Nat} {v : Value} {xs : List Value} (h : w.ownsRow base e size v n xs) : v.cells = #[v] ∧ v.oneCell' = true := own_slice h
section
variable {W wr wr' : World} {E F G : Nat} {b : Best} {bv : Value}
theorem LdI.next (h : LdI W wr E F b bv) (hk : Kept wr wr') : LdI W wr' E F b bv :=
  ⟨h.kept.trans hk, h.ge, ⟨hk.block h.best.1, ownsRow_kept h.best.2 hk⟩, hk.block h.fz⟩
theorem LdI.setE (h : LdI W wr E F b bv) {b' : Best} {bv' : Value} (hw : Wrote wr wr' E (bestVals b' bv') 30) (ho : wr.ownsRow W.heap.size 5 1 bv' b'.bytes.length (u8s b'.bytes)) : LdI W wr' E F b' bv' :=
  ⟨hw.kept h.kept h.ge.1, h.ge, ⟨hw.blk, own_same ho fun g hg => hw.oth g (own_ne ho h.best.1 (by decide) g hg)⟩, (hw.oth F (fun e => h.ge.2.1 e.symm)).trans h.fz⟩
theorem LdI.setG (h : LdI W wr E F b bv) {cs : List Value} {t : TypeId} (hw : Wrote wr wr' G cs t) {co : Array Value} (hG : wr.heap[G]? = some (.cells co 70 (0, 0))) (hge : W.heap.size ≤ G) : LdI W wr' E F b bv := by
  have hE : E ≠ G := fun e => by rw [← e, h.best.1] at hG; injection hG with hG; cases hG
  have hF : F ≠ G := fun e => by rw [← e, h.fz] at hG; injection hG with hG; cases hG
  exact ⟨hw.kept h.kept hge, h.ge, ⟨(hw.oth E hE).trans h.best.1, own_same h.best.2 fun g hg => hw.oth g (own_ne h.best.2 hG (by decide) g hg)⟩, (hw.oth F hF).trans h.fz⟩
end
/-- a row of rows, its values named -/
structure AllV (W0 W : World) (G : Nat) (vs : List Value) (A : List (List (List Int))) : Prop where
  len : vs.length = A.length
  blk : W.heap[G]? = some (.cells vs.toArray 70 (0, 0))
  row : ∀ i, i < A.length → PIn W0 W (vs.getD i undef) (A.getD i [])
section
variable {W0 W W' : World} {E G : Nat} {vs : List Value} {A : List (List (List Int))}
theorem AllV.all (h : AllV W0 W G vs A) : AllIn W0 W G A := ⟨vs, h.len, h.blk, h.row⟩
theorem AllV.next (h : AllV W0 W G vs A) (hk : Kept W W') : AllV W0 W' G vs A := ⟨h.len, hk.block h.blk, fun i hi => (h.row i hi).kept hk⟩
theorem AllV.setE (h : AllV W0 W G vs A) {cs : List Value} {t : TypeId} (hw : Wrote W W' E cs t) {co : Array Value} (hE : W.heap[E]? = some (.cells co 30 (0, 0))) : AllV W0 W' G vs A :=
  ⟨h.len, (hw.oth G (fun e => by rw [← e, h.blk] at hE; injection hE with hE; cases hE)).trans h.blk, fun i hi => (h.row i hi).same fun g hg => hw.oth g (own_ne (h.row i hi).own hE (by decide) g hg)⟩
theorem AllV.set (h : AllV W0 W G vs A) {k : Nat} (hk : k < A.length) {v : Value} {l : List (List Int)} (hp : PIn W0 W v l) (hw : Wrote W W' G (vs.set k v) 70) : AllV W0 W' G (vs.set k v) (A.set k l) := by
  refine ⟨by rw [List.length_set, List.length_set]; exact h.len, hw.blk, fun i hi => ?_⟩
  rw [List.length_set] at hi
  have hl := h.len
  by_cases e : i = k
  · subst e
    rw [List.getD_eq_getElem?_getD, List.getD_eq_getElem?_getD, List.getElem?_set_self (by omega), List.getElem?_set_self hk]
    exact hp.same fun g hg => hw.oth g (own_ne hp.own h.blk (by decide) g hg)
  · rw [List.getD_eq_getElem?_getD, List.getD_eq_getElem?_getD, List.getElem?_set_ne (Ne.symm e), List.getElem?_set_ne (Ne.symm e), ← List.getD_eq_getElem?_getD, ← List.getD_eq_getElem?_getD]
    exact (h.row i hi).same fun g hg => hw.oth g (own_ne (h.row i hi).own h.blk (by decide) g hg)
end
/-- so many rows, the rest empty -/
def padA (A : List (List (List Int))) : List (List (List Int)) := A ++ List.replicate (32 - A.length) []
theorem padA_len {A : List (List (List Int))} (h : A.length ≤ 32) : (padA A).length = 32 := by unfold padA; rw [List.length_append, List.length_replicate]; omega
theorem padA_set {A : List (List (List Int))} (h : A.length < 32) (l : List (List Int)) : (padA A).set A.length l = padA (A ++ [l]) := by
  unfold padA
  rw [List.set_append_right _ _ (Nat.le_refl _), Nat.sub_self, List.length_append, List.length_singleton]
  have : 32 - A.length = (32 - (A.length + 1)) + 1 := by omega
  rw [this, List.replicate_succ, List.set_cons_zero, List.append_assoc]
  rfl
theorem padA_full {A : List (List (List Int))} (h : A.length = 32) : padA A = A := by unfold padA; rw [h]; simp
theorem getD_rep {α : Type} {n i : Nat} (x d : α) (hi : i < n) : (List.replicate n x).getD i d = x := by rw [List.getD_eq_getElem?_getD, List.getElem?_replicate, if_pos hi]; rfl
theorem AllV.zero {W0 W : World} {G : Nat} (h : W.heap[G]? = some (.cells (List.replicate 32 (Value.slice none 0 0)).toArray 70 (0, 0))) : AllV W0 W G (List.replicate 32 (.slice none 0 0)) (padA []) := by
  refine ⟨by simp [padA], h, fun i hi => ?_⟩
  rw [padA_len (by simp)] at hi
  have e1 : (List.replicate 32 (Value.slice none 0 0)).getD i undef = .slice none 0 0 := getD_rep _ _ hi
  have e2 : (padA []).getD i [] = [] := getD_rep (n := 32) _ _ hi
  rw [e1, e2]
  exact PIn.nil _ _
theorem rows_info : (Tryd.prog.info? 70).map (fun i => (i.zero, i.size, i.bytes)) = some (some (.slice none 0 0), 1, 24) := by kernel_rfl
theorem wpList_make_rows {ops : Array Oper} {rest : List Oper} {o : Oper} {a : Act} {w : World} {Q : Exit → Act → World → Prop} (hgd : o.guard = none) (x y : Operand) (ho : o.op = .makeSlice 69 x y) (hx : a.eval x = .int .i64 32) (hy : a.eval y = .int .i64 32)
    (h : ∀ w1, Hid (w1.heap[w.heap.size]? = some (.cells (List.replicate 32 (Value.slice none 0 0)).toArray 70 (0, 0))) → w.heap.size < w1.heap.size → Kept w w1 → wpList Tryd.prog ops Q rest (a.put o.dst (.slice (some ⟨w.heap.size, 0, none⟩) 32 32)) w1) : wpList Tryd.prog ops Q (o :: rest) a w := by
  refine wpList_plain hgd fun K hK => ?_
  have h1 := rows_info
  cases hi : Tryd.prog.info? 70 with
  | none => simp [hi] at h1
  | some i =>
    simp only [hi, Option.map_some, Option.some.injEq, Prod.mk.injEq] at h1
    have hr := run_make (P := Tryd.prog) w 69 70 i _ Tryd.underlying69 hi h1.1 .i64 .i64 32 32 (by omega) (Int.le_refl _) (by rw [h1.2.2]; decide) (by decide)
    have h5 : madeCells (Value.slice none 0 0).cells ((32 : Int).toNat * i.size) = (List.replicate 32 (Value.slice none 0 0)).toArray := by
      rw [h1.2.1]
      exact made_const (by decide) (fun i h => by have h' : i < 1 := h; have : i = 0 := by omega
                                                  subst this; rfl) _
    rw [h5] at hr
    unfold Oper.wp execOp
    simp only [ho, hx, hy, Sem.run_bind, hr, Result.andThen_ok, Sem.run_pure]
    exact hK _ _ (h _ (Lib.hid (heap_alloc_new w _)) (by simp) ((Kept.refl _).alloc _))
theorem partsL_len (rd : Rd) (p : Int) : ∀ (L : List Int) (l : List (List Int)) (n : Nat), (partsL rd p L l n).1.length ≤ l.length + L.length
  | [], l, n => by unfold partsL; simp
  | d :: L, l, n => by
    unfold partsL
    have h1 := partsL_len rd p L l n
    have h2 := partsL_len rd p L (if cpPart (rd d p).1 = true then l ++ [(rd d p).1] else l) (n + 1)
    split
    · simp only [List.length_cons]; omega
    · split
      · simp
      · split at h2
        · rename_i hc
          rw [if_pos hc, List.length_cons]
          rw [List.length_append, List.length_singleton] at h2
          omega
        · rename_i hc
          rw [if_neg hc, List.length_cons]; omega
def bestTo (rd : Rd) (L : List Int) : Nat → Best
  | 0 => Best.zero
  | a + 1 => (bestTo rd L a).inArea (a : Int) (areaTo rd L (50 + 32 * (a : Int)) 32).1
theorem areaTo_len {rd : Rd} {L : List Int} {p : Int} : ∀ {k : Nat}, (areaTo rd L p k).2 = 0 → (areaTo rd L p k).1.length = k ∧ ∀ l ∈ (areaTo rd L p k).1, l.length ≤ L.length
  | 0, _ => ⟨rfl, fun l h => by cases h⟩
  | k + 1, h => by
    unfold areaTo at h ⊢
    split at h
    · rename_i hk; exact absurd h hk
    · rename_i hk
      have hk0 : (areaTo rd L p k).2 = 0 := by
        by_cases e : (areaTo rd L p k).2 = 0
        · exact e
        · exact absurd e hk
      obtain ⟨i1, i2⟩ := areaTo_len hk0
      rw [if_neg hk]
      split at h
      · rename_i h2; exact absurd h h2
      · rename_i h2
        rw [if_neg h2]
        split at h
        · cases h
        · rename_i h3
          rw [if_neg h3]
          refine ⟨by rw [List.length_append, List.length_singleton, i1], fun l hl => ?_⟩
          rcases List.mem_append.1 hl with hl | hl
          · exact i2 l hl
          · rw [List.mem_singleton.1 hl]
            have := partsL_len rd (p + k) L [] 0
            simpa using this
theorem wpList_build_zeroR {P : Program} {ops : Array Oper} {rest : List Oper} {o : Oper} {a : Act} {w : World} {Q : Exit → Act → World → Prop} (hgd : o.guard = none) {T : Nat} (ho : o.op = .build T #[]) (v : Value) (hr : ∀ w, (Instr.build T #[]).run P w = .ok v w)
    (h : wpList P ops Q rest (a.put o.dst v) w) : wpList P ops Q (o :: rest) a w := by
  refine wpList_plain hgd fun K hK => ?_
  unfold Oper.wp execOp
  simp only [ho, List.map_toArray, List.map_nil, Sem.run_bind, hr, Result.andThen_ok, Sem.run_pure]
  exact hK _ _ h
theorem areaTo_stop {rd : Rd} {L : List Int} {p : Int} {k : Nat} (h : (areaTo rd L p k).2 ≠ 0) : ∀ (j : Nat), areaTo rd L p (k + j) = areaTo rd L p k
  | 0 => rfl
  | j + 1 => by
    have ih := areaTo_stop h j
    rw [← Nat.add_assoc]
    conv => lhs; unfold areaTo
    rw [ih, if_pos h]
theorem areaTo_err {rd : Rd} {L : List Int} {p : Int} {k : Nat} (h0 : (areaTo rd L p k).2 = 0) (hk : k < 32) {e : Int} (he : e ≠ 0) (h : (partsL rd (p + k) L [] 0).2.2 = e ∨ ((partsL rd (p + k) L [] 0).2.2 = 0 ∧ (partsL rd (p + k) L [] 0).2.1 = 0 ∧ e = 5)) : (areaTo rd L p 32).2 = e := by
  have h1 : areaTo rd L p (k + 1) = ([], e) := by
    conv => lhs; unfold areaTo
    rw [if_neg (by rw [h0]; decide)]
    rcases h with h | ⟨h, h2, h3⟩
    · rw [if_pos (by rw [h]; exact he), h]
    · rw [if_neg (by rw [h]; decide), if_pos h2, h3]
  have := areaTo_stop (rd := rd) (L := L) (p := p) (k := k + 1) (by rw [h1]; exact he) (32 - (k + 1))
  rw [show k + 1 + (32 - (k + 1)) = 32 by omega] at this
  rw [this, h1]
theorem areaTo_succ {rd : Rd} {L : List Int} {p : Int} {k : Nat} (h0 : (areaTo rd L p k).2 = 0) (h1 : (partsL rd (p + k) L [] 0).2.2 = 0) (h2 : (partsL rd (p + k) L [] 0).2.1 ≠ 0) : areaTo rd L p (k + 1) = ((areaTo rd L p k).1 ++ [(partsL rd (p + k) L [] 0).1], 0) := by
  conv => lhs; unfold areaTo
  rw [if_neg (by rw [h0]; decide), if_neg (by rw [h1]; decide), if_neg h2]
theorem loadC_err {rd : Rd} {L : List Int} {a : Nat} (ha : a < 2) (h0 : ∀ j : Nat, j < a → (areaTo rd L (50 + 32 * (j : Int)) 32).2 = 0) {e : Int} (he : e ≠ 0) (h : (areaTo rd L (50 + 32 * (a : Int)) 32).2 = e) : loadC rd L = (Best.zero, e) := by
  unfold loadC
  have ha' : a = 0 ∨ a = 1 := by omega
  rcases ha' with rfl | rfl
  · have h' : (areaTo rd L 50 32).2 = e := h
    rw [if_pos (by rw [h']; exact he), h']
  · have h0' : (areaTo rd L 50 32).2 = 0 := h0 0 (by decide)
    have h' : (areaTo rd L 82 32).2 = e := h
    rw [if_neg (by rw [h0']; decide), if_pos (by rw [h']; exact he), h']
theorem loadC_ok {rd : Rd} {L : List Int} (h0 : ∀ j : Nat, j < 2 → (areaTo rd L (50 + 32 * (j : Int)) 32).2 = 0) : loadC rd L = (bestTo rd L 2, if (bestTo rd L 2).found = true then 0 else 8) := by
  unfold loadC
  have h0' : (areaTo rd L 50 32).2 = 0 := h0 0 (by decide)
  have h1' : (areaTo rd L 82 32).2 = 0 := h0 1 (by decide)
  rw [if_neg (by rw [h0']; decide), if_neg (by rw [h1']; decide)]
  rfl
theorem PIn.cellsAt {W0 W : World} {ao : Option Addr} {n cap : Nat} {l : List (List Int)} (h : PIn W0 W (.slice ao n cap) l) {i : Nat} (hi : i < l.length) : ∃ g, ao = some ⟨g, 0, none⟩ ∧ Cells W g (i * 69) (partVals (l.getD i [])) ∧ SecB (l.getD i []) := by
  obtain ⟨ao', cap', e, hf⟩ := h.form
  cases e
  obtain ⟨g, h1, _, h2, h3⟩ := hf i hi
  exact ⟨g, h1, h2, h3⟩
theorem PIn.slice {W0 W : World} {v : Value} {l : List (List Int)} (h : PIn W0 W v l) : ∃ ao cap, v = .slice ao l.length cap := by
  obtain ⟨ao, cap, e, _⟩ := h.form
  exact ⟨ao, cap, e⟩
theorem seenL_succ (l : List (List Int)) {m : Nat} (hm : m < l.length) (x : Int) : seenL (l.take (m + 1)) x = max (seenL (l.take m) x) (tagRaw (l.getD m [])).gen := by
  unfold seenL
  rw [List.take_add_one, List.foldl_append, List.getD_eq_getElem?_getD, List.getElem?_eq_getElem hm]
  rfl
theorem Wrote.again {w w1 w2 : World} {g : Nat} {c1 c2 : List Value} {t : TypeId} (h : Wrote w w1 g c1 t) (k : Wrote w1 w2 g c2 t) : Wrote w w2 g c2 t :=
  ⟨k.blk, fun i hi => (k.oth i hi).trans (h.oth i hi), k.size.trans h.size, k.os.trans h.os, k.tape.trans h.tape, k.output.trans h.output⟩
theorem part_tail {W : World} {P off : Nat} {s : List Int} (h : Cells W P off (partVals s)) (hs : s.length = 64) : Cells W P (off + 64) (tagRaw s).vals := fun j hj => by
  have hj5 : j < 5 := hj
  have := h (64 + j) (by rw [partVals_len hs]; omega)
  rw [show off + 64 + j = off + (64 + j) by omega, this]
  have e := partVals_at hs j
  rw [List.getElem?_eq_getElem (by rw [partVals_len hs]; omega), List.getElem?_eq_getElem hj] at e
  exact congrArg some (Option.some.inj e)
theorem parts_nonneg {s : List Int} (h : SecB s) : 0 ≤ (tagRaw s).parts := by
  show 0 ≤ s.getD 9 0
  rw [List.getD_eq_getElem?_getD, List.getElem?_eq_getElem (by rw [h.1]; decide)]
  exact (h.2 _ (List.getElem_mem _)).1
end Go.Proofs.YtpeclkhppgabfaaDoor
