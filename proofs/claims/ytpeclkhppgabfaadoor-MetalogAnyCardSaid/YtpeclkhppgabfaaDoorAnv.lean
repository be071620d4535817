/- MetalogAny's walk. -/
import Derived.Test.YtpeclkhppgabfaaDoorFup
import Derived.Test.YtpeclkhppgabfaaDoorGrs
import Derived.Test.YtpeclkhppgabfaaDoorPbB
import Derived.Test.YtpeclkhppgabfaaDoorIrw
namespace Go.Proofs.YtpeclkhppgabfaaDoor
open Go.RowKit
set_option linter.unusedVariables false
set_option linter.unusedSimpArgs false
theorem partsY {n : Nat} (h : n ≤ 200) : 1 ≤ partsN n ∧ partsN n ≤ 4 := by unfold partsN; split <;> omega
/-- the records as strings -/
def strsL (R : List (List Int)) : List Value := R.map fun x => .string (strB x)
theorem strsL_len (R : List (List Int)) : (strsL R).length = R.length := by simp [strsL]
theorem strsL_at (R : List (List Int)) {r : Nat} (h : r < (strsL R).length) : (strsL R)[r] = .string (strB (R.getD r [])) := by
  have h' : r < R.length := by rw [strsL_len] at h; exact h
  simp [strsL, List.getD_eq_getElem?_getD, h']
theorem strsL_snoc (R : List (List Int)) (b : List Int) : strsL (R ++ [b]) = strsL R ++ [.string (strB b)] := by simp [strsL]
theorem Grw.neY {W W' : World} {v v' : Value} (hg : Grw W W' v v') {b : Nat} (hb : b < W.heap.size) (h : v.ownBlock ≠ some b) : v'.ownBlock ≠ some b := by
  rcases hg with ⟨e, _⟩ | ⟨g, e, h1, _, _⟩
  · rw [e]; exact h
  · rw [e]; intro e2; injection e2 with e2; omega
theorem LogD.grownY {W W' : World} {v v' : Value} {p q lg c : Nat} {L : List Int} {t : LogT} (h : LogD W p q lg c L t) (hg : Grw W W' v v') (hp : p < W.heap.size) (hl : lg < W.heap.size) (h1 : v.ownBlock ≠ some p) (h2 : v.ownBlock ≠ some lg) : LogD W' p q lg c L t :=
  h.same (R := fun k => k = p ∨ k = lg) (fun k hk => by
    rcases hk with rfl | rfl
    · exact hg.blk hp h1
    · exact hg.blk hl h2) (.inl rfl) (.inr rfl)
theorem RIn.form {W0 W : World} {v : Value} {R : List (List Int)} (h : RIn W0 W v R) : ∃ ao cap, v = .slice ao R.length cap ∧ ∀ i, i < R.length → ∃ g bv, ao = some ⟨g, 0, none⟩ ∧ W.cell? ⟨g, i, none⟩ = some bv ∧ Src W 1 bv (R.getD i []).length (u8s (R.getD i [])) := by
  obtain ⟨ao, cap, rfl⟩ := h.slice
  refine ⟨ao, cap, rfl, fun i hi => ?_⟩
  obtain ⟨g, c, bv, e, _, h1, h2⟩ := h.at hi
  injection e with e1
  exact ⟨g, bv, e1, h1, h2⟩
theorem ints_info : (Tryd.prog.info? 28).map (fun i => (i.zero, i.size, i.bytes)) = some (some (.slice none 0 0), 1, 24) := by kernel_rfl
/-- a row of five slices of ints, at the operation -/
theorem wpList_five {ops : Array Oper} {rest : List Oper} {o : Oper} {a : Act} {w : World} {Q : Exit → Act → World → Prop} (hg : o.guard = none) (x0 x1 x2 x3 x4 : Operand) (ho : o.op = .buildSlice 58 5 #[(0, x0), (1, x1), (2, x2), (3, x3), (4, x4)])
    (b0 b1 b2 b3 b4 n0 n1 n2 n3 n4 : Nat) (h0 : a.eval x0 = .slice (some ⟨b0, 0, none⟩) n0 n0) (h1 : a.eval x1 = .slice (some ⟨b1, 0, none⟩) n1 n1) (h2 : a.eval x2 = .slice (some ⟨b2, 0, none⟩) n2 n2) (h3 : a.eval x3 = .slice (some ⟨b3, 0, none⟩) n3 n3) (h4 : a.eval x4 = .slice (some ⟨b4, 0, none⟩) n4 n4)
    (h : ∀ w1, Hid (w1.heap[w.heap.size]? = some (.cells [Value.slice (some ⟨b0, 0, none⟩) n0 n0, .slice (some ⟨b1, 0, none⟩) n1 n1, .slice (some ⟨b2, 0, none⟩) n2 n2, .slice (some ⟨b3, 0, none⟩) n3 n3, .slice (some ⟨b4, 0, none⟩) n4 n4].toArray 28 (0, 0))) → w.heap.size < w1.heap.size → Kept w w1 → wpList Tryd.prog ops Q rest (a.put o.dst (.slice (some ⟨w.heap.size, 0, none⟩) 5 5)) w1) : wpList Tryd.prog ops Q (o :: rest) a w := by
  have hi0 := ints_info
  cases hi : Tryd.prog.info? 28 with
  | none => simp [hi] at hi0
  | some i =>
    simp only [hi, Option.map_some, Option.some.injEq, Prod.mk.injEq] at hi0
    refine wpList_buildSlice hg _ 28 5 _ ho [Value.slice (some ⟨b0, 0, none⟩) n0 n0, .slice (some ⟨b1, 0, none⟩) n1 n1, .slice (some ⟨b2, 0, none⟩) n2 n2, .slice (some ⟨b3, 0, none⟩) n3 n3, .slice (some ⟨b4, 0, none⟩) n4 n4].toArray i _ Tryd.underlying58 hi hi0.1 (by rw [hi0.2.1]; decide) (by rw [hi0.2.1]; decide) ?_ (h _ (Lib.hid (heap_alloc_new w _)) (by simp) ((Kept.refl _).alloc _))
    rw [hi0.2.1]
    simp only [List.map_toArray, List.map_cons, List.map_nil, h0, h1, h2, h3, h4]
    first | kernel_rfl | (simp [Instr.fill]; done) | (unfold Instr.fill; simp)
/-- which members are asked -/
def askL (b0 b1 b2 b3 b4 : Nat) : List (Nat × List Nat) := [(b0, [0]), (b1, [1]), (b2, [2]), (b3, [2, 1, 0]), (b4, [0, 1, 2])]
theorem ask_at {B0 B1 B2 B3 B4 j : Nat} (h : j < 5) : ∃ bj lj, (bj, lj) ∈ askL B0 B1 B2 B3 B4 ∧ ([Value.slice (some ⟨B0, 0, none⟩) 1 1, .slice (some ⟨B1, 0, none⟩) 1 1, .slice (some ⟨B2, 0, none⟩) 1 1, .slice (some ⟨B3, 0, none⟩) 3 3, .slice (some ⟨B4, 0, none⟩) 3 3] : List Value)[j]? = some (.slice (some ⟨bj, 0, none⟩) (natI lj).length (natI lj).length) ∧ (∀ d ∈ lj, d < 3) ∧ lj ≠ [] ∧ (natI lj).length ≤ 100 := by
  match j, h with
  | 0, _ => exact ⟨B0, [0], by simp [askL], rfl, by intro d hd; simp at hd; omega, by simp, by decide⟩
  | 1, _ => exact ⟨B1, [1], by simp [askL], rfl, by intro d hd; simp at hd; omega, by simp, by decide⟩
  | 2, _ => exact ⟨B2, [2], by simp [askL], rfl, by intro d hd; simp at hd; omega, by simp, by decide⟩
  | 3, _ => exact ⟨B3, [2, 1, 0], by simp [askL], rfl, by intro d hd; simp at hd; omega, by simp, by decide⟩
  | 4, _ => exact ⟨B4, [0, 1, 2], by simp [askL], rfl, by intro d hd; simp at hd; omega, by simp, by decide⟩
theorem cellL {W : World} {X : Nat} {l : List Value} {t : TypeId} (h : W.heap[X]? = some (.cells l.toArray t (0, 0))) : ∀ j u, l[j]? = some u → W.cell? ⟨X, j, none⟩ = some u := fun j u hu => by
  rw [cell_of_row _ _ j _ _ _ h]; simpa using hu
section
set_option maxHeartbeats 8000000
set_option maxRecDepth 100000
theorem law_any (v : Value) (L : List (List Int)) (a1 : Int) (w : World) (hs : RSrc w v L) : Calls Tryd.prog 9 #[v, .int .i64 a1] w fun e w' => e = .returned (.bool true) ∧ Kept w w' := by
  have HS := Lib.hid hs
  obtain ⟨oa, cap0, rfl, _, _, _⟩ := hs
  obtain ⟨ga, hga, hgal⟩ := and_low a1 24 (by decide) (m := 16777215) (by decide)
  have hgl : ga < 16777216 := hgal
  clear hgal
  have hg0 : Hid (0 ≤ (ga : Int) ∧ (ga : Int) < 4294967296) := Lib.hid ⟨by omega, by omega⟩
  go_enter Tryd.func9, Tryd.ntmps9
  go_wp2_with fail
  refine Calls.mono (law_shown09 _) ?_
  rintro e w1 ⟨rfl, hk1⟩
  have HK1 := Lib.hid hk1
  clear hk1
  go_wp2_with fail
  refine Calls.mono (bank09 3 (by decide) w w1 (fun k => k ∈ ([] : List Nat)) HK1.out (fun k h => by cases h)) ?_
  rintro e w2 ⟨q, rfl, hb2, _⟩
  have HB2 := Lib.hid hb2
  clear hb2 HK1
  go_wp2_with (refine stop_at (o := ⟨some 28, _, _, _, _, _⟩) ?_)
  refine Stop.mk ?_
  try simp only [hga]
  refine wpList_lit_ints rfl 3 (by decide) _ rfl [0, 1, 2] (by kernel_rfl) ?_
  intro w3 hz3 hs3 hk3
  have HC3 := Lib.hid (by simpa using Cells.of_block hz3.out : Cells w3 w2.heap.size 0 (ints [0, 1, 2]))
  have HB3 := Lib.hid (HB2.out.kept hk3).1
  generalize w2.heap.size = B at *
  clear hz3 hs3 hk3 HB2
  go_wp2_with fail
  refine Calls.mono (meta_New q B 3 [0, 1, 2] (ga : Int) w3 (by decide) (by decide) (by decide) HC3.out) ?_
  rintro e w4 ⟨p, lg, cap, rfl, hl4, hlg, hlp, hps, hk4⟩
  have hb4 := HB3.out.pushRs hk4 [p, lg] (by intro k hk; simp at hk; rcases hk with rfl | rfl <;> omega)
  have HB4 : Hid (BK w (fun k => k ∈ [p, lg] ∨ (Value.slice none 0 0).ownBlock = some k) w4 q (addZ 200 3)) := Lib.hid (hb4.less fun k hk => by
    rcases hk with hk | hk
    · exact hk
    · simp [Value.ownBlock] at hk)
  have HL4 := Lib.hid hl4
  have HP := Lib.hid (And.intro (Nat.le_trans HB3.out.keeps.size (Nat.le_trans hlg (Nat.le_of_lt hlp))) (Nat.ne_of_lt hlp))
  have HE4 := Lib.hid (OwnG.nil w w4 9)
  clear hl4 hlg hlp hps hk4 hb4 HB3 HC3
  have HQ4 := Lib.hid (LogQ.start (n := 3) (by decide) [0, 1, 2] (ga : Int))
  obtain ⟨wa, rfl⟩ : ∃ wa, wa = w4 := ⟨_, rfl⟩
  go_upto_block 0 with fail
  go_cut [8] (fun ev wc => ∃ (ve : Value) (R : List (List Int)) (T : BankT) (N : Nat → Nat → List Int) (t nn pn : Nat), ve = ev ∧ pn ≤ 40 ∧ t ≤ 2000 ∧ nn ≤ 10 ∧ Hid (R.length = nn ∧ posN R = pn) ∧ Hid (LogQ T 3 (fun _ => false) N t [0, 1, 2] (ga : Int) R) ∧ Hid (BK w (fun k => k ∈ [p, lg] ∨ ve.ownBlock = some k) wc q T) ∧ Hid (LogD wc p q lg cap [0, 1, 2] ⟨(ga : Int), nn, pn, false⟩) ∧ Hid (OwnG w wc 9 ev (strsL R)))
  case first =>
    go_wp2
    go_loopw [8, 9] (fun ev i wr => ∃ (ve : Value) (k : Nat) (R : List (List Int)) (T : BankT) (N : Nat → Nat → List Int) (t pn : Nat), k ≤ L.length ∧ k ≤ 10 ∧ ve = ev ∧ i = .int .i64 k ∧ pn ≤ 4 * k ∧ t ≤ 150 * k ∧ Hid (R.length = k ∧ posN R = pn) ∧ Hid (LogQ T 3 (fun _ => false) N t [0, 1, 2] (ga : Int) R) ∧ Hid (BK w (fun k => k ∈ [p, lg] ∨ ve.ownBlock = some k) wr q T) ∧ Hid (LogD wr p q lg cap [0, 1, 2] ⟨(ga : Int), k, pn, false⟩) ∧ Hid (OwnG w wr 9 ev (strsL R)) ∧ Hid (ve.ownBlock ≠ some p ∧ ve.ownBlock ≠ some lg)) (fun _ i _ => L.length - (intOf i).toNat)
    case atStart => exact ⟨_, 0, [], _, _, 0, 0, Nat.zero_le _, by decide, rfl, rfl, by decide, by decide, Lib.hid ⟨rfl, rfl⟩, HQ4, HB4, HL4, HE4, Lib.hid ⟨by simp [Value.ownBlock], by simp [Value.ownBlock]⟩⟩
    case round =>
      clear HQ4 HB4 HL4 HE4
      obtain ⟨ve, k, R, T, N, t, pn, hk, hk8, rfl, rfl, hpn, ht, HN, HQ, HB, HL, HE, HNE⟩ := hrel
      by_cases hlt : k < L.length ∧ k < 10
      · obtain ⟨hlt, h8⟩ := hlt
        obtain ⟨b, off, ax, ck, rfl, g1, hsrc⟩ := HS.out.at k hlt
        obtain ⟨x, hx⟩ : ∃ x, x = L[k] := ⟨_, rfl⟩
        rw [← hx] at g1 hsrc
        obtain ⟨nk, hnk⟩ : ∃ nk, nk = x.length := ⟨_, rfl⟩
        rw [← hnk] at g1 hsrc
        obtain ⟨kk, hkk⟩ : ∃ kk, kk = min nk 200 := ⟨_, rfl⟩
        obtain ⟨hn0, hkc, hh, hhl⟩ := hsrc.head kk (by omega)
        generalize x.take kk = xk at *
        have hma : min (nk : Int) 200 = (kk : Int) := by omega
        have hk200 : kk ≤ 200 := by omega
        obtain ⟨pt, hpt⟩ : ∃ pt, partsN kk = pt := ⟨_, rfl⟩
        have hp4 := partsY hk200
        rw [hpt] at hp4
        have HG := Lib.hid g1
        have HH := Lib.hid hh
        have HHL := Lib.hid hhl
        have HPT := Lib.hid hpt
        clear hn0 hx hnk hsrc hkk hh hhl hpt g1
        obtain ⟨T5, N5, e5, hq5, hn5, _⟩ := (HQ.out.step (ls := [0, 1, 2]) (by intro d hd; simp at hd; omega) (fun d hd => hd) ⟨0, by simp, rfl⟩ hg0.out (b := xk) (by rw [HHL.out]; omega) HH.out.2 HN.out (pt := pt) (by rw [HHL.out]; exact HPT.out) (L := [0, 1, 2]) rfl).1 (by omega)
        have HE5 := Lib.hid e5
        have HQ5 := Lib.hid hq5
        have HN5 := Lib.hid hn5
        have HU := Lib.hid (HQ.out.q.useN (by decide) 100 (by omega))
        clear e5 hq5 hn5
        go_upto_region 13 with fail
        refine wp_still_all (by kernel_rfl) (by kernel_rfl) fun ws hks hhs => ?_
        have HBs := Lib.hid (HB.out.kept hks).1
        have hgs := HBs.out.keeps.cell' HG.out
        have HLs := Lib.hid (HL.out.kept hks)
        have HEs := Lib.hid (HE.out.kept hks)
        clear hks hhs HB HL HE
        iterate 10 still_step
        refine still_slice_to rfl _ _ rfl ax nk ck rfl kk rfl hkc ?_
        iterate 1 still_step
        refine wpStill_nil ?_
        clear hgs
        have hc := meta_Append HBs.out HLs.out (.inl (by simp)) (.inl (by simp)) HP.out.1 HP.out.2 (.slice ax kk ck) xk (by rw [HHL.out]; have := HH.out.1.kept HBs.out.keeps; rw [HHL.out] at this; exact this) (by rw [HHL.out]; omega) HH.out.2 (by decide) (HU.out.less (by rw [HHL.out, HPT.out]; show 3 * pt ≤ 100; omega)) hg0.out (by show k < 1000; omega) (by show pn ≤ 48; omega)
        rw [HE5.out] at hc
        have HCA := Lib.hid hc
        clear hc HE5
        go_wp2_with fail
        refine Calls.mono HCA.out ?_
        rintro e w7 ⟨rfl, hb7, hl7, hs7⟩
        have HB7 : Hid (BK w (fun k => k ∈ [p, lg] ∨ ve.ownBlock = some k) w7 q T5) := Lib.hid hb7
        have HL7 : Hid (LogD w7 p q lg cap [0, 1, 2] ⟨(ga : Int), k + 1, pn + pt, false⟩) := Lib.hid hl7
        have HE7 := Lib.hid (HEs.out.same fun g hg => hs7 g ⟨.inr hg, fun e => HNE.out.1 (e ▸ hg)⟩)
        clear hb7 hl7 hs7 HCA HBs HLs HEs
        have HSX := Lib.hid (HH.out.1.kept HB7.out.keeps)
        go_wp2_with (refine stop_at (o := ⟨some 60, _, _, _, _, _⟩) ?_)
        refine Stop.mk ?_
        refine wpList_conv_str rfl _ rfl (.slice ax kk ck) rfl xk (by have := HSX.out; rw [HHL.out]; rw [HHL.out] at this; exact this) HH.out.2 ?_
        refine wpList_oneG Tryd.underlying43 str_infoG (by decide) rfl _ rfl (.string (strB xk)) rfl rfl ?_
        intro w9 hz9 hs9 hk9
        have HB9 := Lib.hid (HB7.out.kept hk9).1
        have HL9 := Lib.hid (HL7.out.kept hk9)
        have HE9 := Lib.hid (HE7.out.kept hk9)
        generalize w7.heap.size = X at *
        clear hs9 hk9 HB7 HL7 HE7
        go_wp2_with (refine stop_at (o := ⟨some 62, _, _, _, _, _⟩) ?_)
        refine Stop.mk ?_
        refine wpList_appendG ty_strsG (by decide) rfl _ _ rfl (strsL R) rfl HE9.out (by rw [strsL_len, HN.out.1]; omega) X rfl (.string (strB xk)) rfl hz9.out HB9.out.keeps ?_
        intro ev' w10 hown hgr
        have HE10 : Hid (OwnG w w10 9 ev' (strsL (R ++ [xk]))) := Lib.hid (by rw [strsL_snoc]; exact hown)
        have HB10 : Hid (BK w (fun k => k ∈ [p, lg] ∨ ev'.ownBlock = some k) w10 q T5) := Lib.hid ((HB9.out.grwG hgr (fun k hk => .inr hk) HE9.out.new).less fun k hk => by
          rcases hk with hk | hk
          · exact .inl (.inl hk)
          · exact .inr hk)
        have HL10 := Lib.hid (HL9.out.grownY hgr (HB9.out.ltR (.inl (by simp))) (HB9.out.ltR (.inl (by simp))) HNE.out.1 HNE.out.2)
        have HNE10 : Hid (ev'.ownBlock ≠ some p ∧ ev'.ownBlock ≠ some lg) := Lib.hid ⟨hgr.neY (HB9.out.ltR (.inl (by simp))) HNE.out.1, hgr.neY (HB9.out.ltR (.inl (by simp))) HNE.out.2⟩
        clear hown hgr hz9 HB9 HL9 HE9 HU HG
        go_wp2
        go_roundw
        case rel => exact ⟨_, k + 1, _, T5, N5, t + 147, pn + pt, hlt, h8, rfl, by go_num, by omega, by omega, HN5, HQ5, HB10, HL10, HE10, HNE10⟩
        case measure => simp [intOf]; omega
      · have hkk : L.length ≤ k ∨ (k < L.length ∧ 10 ≤ k) := by omega
        clear hlt
        rcases hkk with hkk | ⟨hkk, h8⟩
        all_goals
          go_wp2
          go_meet
          case rel => exact ⟨_, R, T, N, t, k, pn, rfl, by omega, by omega, hk8, HN, HQ, HB, HL, HE⟩
  case rest =>
    clear HQ4 HB4 HL4 HE4 HS
    obtain ⟨ve, R, T, N, t, nn, pn, rfl, hpn, ht, hnn, HN, HQ, HB, HL, HE⟩ := hcut
    go_wp2_with (refine stop_at (o := ⟨some 63, _, _, _, _, _⟩) ?_)
    refine Stop.mk ?_
    refine wpList_lit_ints rfl 1 (by decide) _ rfl [0] (by kernel_rfl) ?_
    intro y0 hz hs hk
    have hb0 : Cells y0 wc.heap.size 0 (ints [0]) := by simpa using Cells.of_block hz.out
    have hl0 := hs
    have hk0 := hk
    clear hz hs hk
    go_wp2_with (refine stop_at (o := ⟨some 64, _, _, _, _, _⟩) ?_)
    refine Stop.mk ?_
    refine wpList_lit_ints rfl 1 (by decide) _ rfl [1] (by kernel_rfl) ?_
    intro y1 hz hs hk
    have hb1 : Cells y1 y0.heap.size 0 (ints [1]) := by simpa using Cells.of_block hz.out
    have hl1 := hs
    have hk1 := hk
    clear hz hs hk
    go_wp2_with (refine stop_at (o := ⟨some 65, _, _, _, _, _⟩) ?_)
    refine Stop.mk ?_
    refine wpList_lit_ints rfl 1 (by decide) _ rfl [2] (by kernel_rfl) ?_
    intro y2 hz hs hk
    have hb2 : Cells y2 y1.heap.size 0 (ints [2]) := by simpa using Cells.of_block hz.out
    have hl2 := hs
    have hk2 := hk
    clear hz hs hk
    go_wp2_with (refine stop_at (o := ⟨some 66, _, _, _, _, _⟩) ?_)
    refine Stop.mk ?_
    refine wpList_lit_ints rfl 3 (by decide) _ rfl [2, 1, 0] (by kernel_rfl) ?_
    intro y3 hz hs hk
    have hb3 : Cells y3 y2.heap.size 0 (ints [2, 1, 0]) := by simpa using Cells.of_block hz.out
    have hl3 := hs
    have hk3 := hk
    clear hz hs hk
    go_wp2_with (refine stop_at (o := ⟨some 67, _, _, _, _, _⟩) ?_)
    refine Stop.mk ?_
    refine wpList_lit_ints rfl 3 (by decide) _ rfl [0, 1, 2] (by kernel_rfl) ?_
    intro y4 hz hs hk
    have hb4 : Cells y4 y3.heap.size 0 (ints [0, 1, 2]) := by simpa using Cells.of_block hz.out
    have hl4' := hs
    have hk4' := hk
    clear hz hs hk
    go_wp2_with (refine stop_at (o := ⟨some 68, _, _, _, _, _⟩) ?_)
    refine Stop.mk ?_
    refine wpList_five rfl _ _ _ _ _ rfl wc.heap.size y0.heap.size y1.heap.size y2.heap.size y3.heap.size 1 1 1 3 3 rfl rfl rfl rfl rfl ?_
    intro wz hz hs hk
    have HZ := Lib.hid (cellL hz.out)
    have HCL : Hid (∀ x ∈ askL wc.heap.size y0.heap.size y1.heap.size y2.heap.size y3.heap.size, Cells wz x.1 0 (ints (natI x.2)) ∧ x.1 < wz.heap.size) := Lib.hid (by
      intro x hx
      simp only [askL, List.mem_cons, List.not_mem_nil, or_false] at hx
      have s1 := hk1.size; have s2 := hk2.size; have s3 := hk3.size; have s4 := hk4'.size; have s5 := hk.size
      rcases hx with rfl | rfl | rfl | rfl | rfl
      · exact ⟨hb0.kept (hk1.trans (hk2.trans (hk3.trans (hk4'.trans hk)))), by show wc.heap.size < _; omega⟩
      · exact ⟨hb1.kept (hk2.trans (hk3.trans (hk4'.trans hk))), by show y0.heap.size < _; omega⟩
      · exact ⟨hb2.kept (hk3.trans (hk4'.trans hk)), by show y1.heap.size < _; omega⟩
      · exact ⟨hb3.kept (hk4'.trans hk), by show y2.heap.size < _; omega⟩
      · exact ⟨hb4.kept hk, by show y3.heap.size < _; omega⟩)
    have HKZ := hk0.trans (hk1.trans (hk2.trans (hk3.trans (hk4'.trans hk))))
    have HBz := Lib.hid (HB.out.kept HKZ).1
    have HLz := Lib.hid (HL.out.kept HKZ)
    have HEz := Lib.hid (HE.out.kept HKZ)
    generalize y4.heap.size = X at *
    generalize wc.heap.size = B0 at *
    generalize y0.heap.size = B1 at *
    generalize y1.heap.size = B2 at *
    generalize y2.heap.size = B3 at *
    generalize y3.heap.size = B4 at *
    clear hb0 hb1 hb2 hb3 hb4 hl0 hl1 hl2 hl3 hl4' hk0 hk1 hk2 hk3 hk4' hz hs hk HKZ HB HL HE
    obtain ⟨ao, cp, rfl, hce⟩ := HEz.out.form
    have HCE := Lib.hid hce
    have HLE := Lib.hid ((strsL_len R).trans HN.out.1)
    rw [HLE.out] at HBz ⊢
    clear hce HEz
    obtain ⟨r, hr⟩ : ∃ r, r = 48 - pn := ⟨_, rfl⟩
    have hsub : (48 : Int) - (r : Int) = (pn : Int) := by omega
    have hrr : (48 : Int) - ((⟨(ga : Int), nn, pn, false⟩ : LogT).pos : Int) = (r : Int) := by show (48 : Int) - (pn : Int) = (r : Int); omega
    have HRR := Lib.hid hrr
    have hr48 : r ≤ 48 := by omega
    have HU := Lib.hid (HQ.out.q.use (by decide) (by omega))
    clear hr hrr
    go_wp2
    go_loopw [70] (fun i wr => ∃ j : Nat, j ≤ 5 ∧ i = .int .i64 j ∧ Hid (Kept wz wr)) (fun i _ => 5 - (intOf i).toNat)
    case atStart => exact ⟨0, by decide, rfl, Lib.hid (Kept.refl _)⟩
    case round =>
      obtain ⟨j, hj, rfl, HK⟩ := hrel
      by_cases hlt : j < 5
      · obtain ⟨bj, lj, hmem, hcj, hls, hne, hl100⟩ := ask_at (B0 := B0) (B1 := B1) (B2 := B2) (B3 := B3) (B4 := B4) hlt
        have c1 := HK.out.cell' (HZ.out j _ hcj)
        have hsc := HQ.out.scan (ls := lj) hls (fun d hd => by have := hls d (List.mem_filter.1 hd).1; simp; omega) (by
          intro h
          have : lj.filter (fun d => !(fun _ => false) d) = lj := by simp
          rw [this] at h; exact hne h) hg0.out
        have hc := meta_Scan (HBz.out.kept HK.out).1 HU.out bj (natI lj).length (natI lj) ((HCL.out _ hmem).1.kept HK.out) (Nat.lt_of_lt_of_le (HCL.out _ hmem).2 HK.out.size) hl100 (ga : Int)
        rw [hsc, HN.out.2] at hc
        have HCA := Lib.hid hc
        have HRM := Lib.hid (fun W (hk : Kept wz W) => by have := meta_Room (HLz.out.kept hk) (by show pn ≤ 48; omega); rw [HRR.out] at this; exact this)
        clear hc hsc hmem hcj hls hne hl100
        generalize (natI lj).length = nl at *
        go_wp2_with fail
        refine Calls.mono HCA.out ?_
        rintro e w7 ⟨v1, rfl, hr7, hk7⟩
        have HK7 := Lib.hid (HK.out.trans hk7)
        obtain ⟨ao1, c2, rfl, hrow⟩ := hr7.form
        have HROW := Lib.hid hrow
        rw [HN.out.1]
        clear hr7 hk7 HCA hrow HK
        go_wp2_with fail
        refine Calls.mono (HRM.out _ HK7.out) ?_
        rintro e w8 ⟨rfl, rfl⟩
        go_wp2
        go_loopw [16] (fun i wr => ∃ m : Nat, m ≤ nn ∧ i = .int .i64 m ∧ Hid (Kept w7 wr)) (fun i _ => nn - (intOf i).toNat)
        case atStart => exact ⟨0, Nat.zero_le _, rfl, Lib.hid (Kept.refl _)⟩
        case round =>
          obtain ⟨m, hm, rfl, HKM⟩ := hrel
          by_cases hml : m < nn
          · obtain ⟨g2, bv, rfl, hb2, hsr⟩ := HROW.out m (by rw [HN.out.1]; exact hml)
            obtain ⟨g3, rfl, hb3⟩ := HCE.out m (by rw [HLE.out]; exact hml)
            rw [strsL_at] at hb3
            have hby : ∀ y ∈ R.getD m [], IsByte y := HQ.out.ok.byte _ (getD_mem (by rw [HN.out.1]; exact hml))
            generalize R.getD m [] = xm at *
            have HB2 := Lib.hid hb2
            have HB3 := Lib.hid hb3
            have HSR := Lib.hid hsr
            have HBY := Lib.hid hby
            clear hb2 hb3 hsr hby c1
            go_wp2
            refine wp_still_all (by kernel_rfl) (by kernel_rfl) fun ws hks hhs => ?_
            have hk2 := HKM.out.trans hks
            have d1 := hk2.cell' HB2.out
            have d2 := (HK7.out.trans hk2).cell' HB3.out
            have HKW := Lib.hid hk2
            have HSX := Lib.hid (HSR.out.kept hk2)
            clear hks hhs hk2
            iterate 4 still_step
            refine still_conv_str rfl _ rfl bv rfl xm HSX.out HBY.out ?_
            iterate 5 still_step
            refine wpStill_nil ?_
            clear d1 d2
            go_wp2
            go_roundw
            case rel => exact ⟨m + 1, hml, by go_num, HKW⟩
            case measure => simp [intOf]; omega
          · have hge : nn ≤ m := by omega
            have HKW := Lib.hid (HK7.out.trans HKM.out)
            clear hml
            go_wp2
            go_roundw
            case rel => exact ⟨j + 1, hlt, by go_num, HKW⟩
            case measure => simp [intOf]; omega
      · have hge : 5 ≤ j := by omega
        have HKW := Lib.hid ((HBz.out.kept HK.out).1.keeps)
        go_wp2
        go_ret
        exact ⟨rfl, HKW.out⟩
end
end Go.Proofs.YtpeclkhppgabfaaDoor
