/- MirrorCopies: the walk (gen_copies.py). -/
import Derived.Test.YtcbghpcohbgcjaaMil
import Derived.Test.YtcbghpcohbgcjaaMix
namespace Go.Proofs.Ytcbghpcohbgcjaa
open Go.RowKit
set_option linter.unusedVariables false
set_option linter.unusedSimpArgs false

theorem zero_24' (w : World) : (zeroValue 50).run Try.prog w = .ok (.agg (secs (List.replicate 24 zeroB)).toArray) w := by kernel_rfl
theorem exec_load_secO {W : World} {a : Act} {o : Oper} (x : Operand) (ho : o.op = .load 36 x) (b off : Nat) (hx : a.eval x = .pointer (some ⟨b, off, none⟩)) (xs : List Int) (hl : xs.length = 64) (hc : Cells W b off (u8s xs)) :
    (execOp a.eval o).run Try.prog W = .ok (.value (.agg (u8s xs).toArray)) W := by
  obtain ⟨⟨d, hd1, hd2⟩, hs⟩ := ty_sec
  unfold execOp
  simp only [ho, hx, Instr.loadAt, Instr.sureAddr, Sem.run_bind, Sem.run_pure, Result.andThen_ok, run_loadVar_mid W b off 36 (u8s xs) d (rangeAt_of_cells hc) hd1 hd2 (by rw [hs, u8s_length, hl])]
def rightB (x0 x1 y0 y1 : Int) : Bool := decide (0 ≤ x0 ∧ x0 < 2 ∧ 0 ≤ x1 ∧ x1 < 12 ∧ 0 ≤ y0 ∧ y0 < 2 ∧ 0 ≤ y1 ∧ y1 < 12)
theorem rightB_no {x0 x1 y0 y1 : Int} (h : ¬ (0 ≤ x0 ∧ x0 < 2 ∧ 0 ≤ x1 ∧ x1 < 12 ∧ 0 ≤ y0 ∧ y0 < 2 ∧ 0 ≤ y1 ∧ y1 < 12)) : rightB x0 x1 y0 y1 = false := decide_eq_false h
theorem rightB_nat {x0 x1 y0 y1 : Int} (h : rightB x0 x1 y0 y1 = true) : ∃ dx ax dy ay : Nat, x0 = dx ∧ x1 = ax ∧ y0 = dy ∧ y1 = ay ∧ dx < 2 ∧ ax < 12 ∧ dy < 2 ∧ ay < 12 := by
  have h := of_decide_eq_true h
  exact ⟨x0.toNat, x1.toNat, y0.toNat, y1.toNat, by omega, by omega, by omega, by omega, by omega, by omega, by omega, by omega⟩
theorem idx_wrap {d a : Nat} (hd : d < 2) (ha : a < 12) : IntKind.i64.wrap (IntKind.i64.wrap (12 * (d : Int)) + (a : Int)) = ((12 * d + a : Nat) : Int) := by
  rw [IntKind.wrap_i64, IntKind.wrap_i64]; omega
def S24 (l : List (List Int)) : Prop := l.length = 24 ∧ ∀ s ∈ l, s.length = 64
theorem S24.set {l : List (List Int)} (h : S24 l) (i : Nat) {s : List Int} (hs : s.length = 64) : S24 (l.set i s) :=
  ⟨by rw [List.length_set]; exact h.1, fun x hx => by
    rcases List.mem_or_eq_of_mem_set hx with h' | h'
    · exact h.2 x h'
    · rw [h']; exact hs⟩
section
variable {w W : World}
set_option maxHeartbeats 4000000
set_option maxRecDepth 100000
theorem law_copies (x0 x1 y0 y1 n0 m0 dead0 : Int) (w : World) :
    Calls Try.prog 6 #[.agg #[.int .i64 x0, .int .i64 x1], .agg #[.int .i64 y0, .int .i64 y1], .int .i64 n0, .int .i64 m0, .int .i64 dead0] w fun e w' => e = .returned (.bool true) ∧ Kept w w' := by
  obtain ⟨dd, hdd, hddl⟩ := and_low dead0 2 (by decide) (m := 3) (by decide)
  have HDD : Hid (bits .and .i64 dead0 3 = (dd : Int)) := Lib.hid hdd
  clear hdd hddl
  go_enter Try.func6, Try.ntmps6
  go_wp2_with (refine stop_at (o := ⟨some 5, _, _, _, _, _⟩) ?_)
  refine Stop.mk ?_
  refine wpList_box_row rfl _ _ rfl [.int .i64 x0, .int .i64 x1] rfl ?_
  intro w1 hz hs hk
  have HX1 := hz
  have HK1 := Lib.hid hk
  have HXs : Hid (w.heap.size < w1.heap.size) := Lib.hid hs
  have HX0 : Hid (w.heap.size ≤ w.heap.size) := Lib.hid (Nat.le_refl _)
  generalize hXe : w.heap.size = X at HX1 HXs
  rw [hXe] at HX0
  have HXe := Lib.hid hXe
  clear hz hs hk hXe
  go_wp2_with (refine stop_at (o := ⟨some 6, _, _, _, _, _⟩) ?_)
  refine Stop.mk ?_
  refine wpList_box_row rfl _ _ rfl [.int .i64 y0, .int .i64 y1] rfl ?_
  intro w2 hz hs hk
  have HX2 := Lib.hid (hk.block HX1.out)
  have HY2 := hz
  have HK2 := Lib.hid (HK1.out.trans hk)
  have HYs : Hid (w1.heap.size < w2.heap.size ∧ X < w1.heap.size) := Lib.hid ⟨hs, HXs.out⟩
  generalize w1.heap.size = Y at *
  clear hz hs hk HX1 HK1
  go_wp2_with fail
  refine Calls.mono (m_shown _) ?_
  rintro e w3 ⟨rfl, hk⟩
  have HX3 := Lib.hid (hk.block HX2.out)
  have HY3 := Lib.hid (hk.block HY2.out)
  have HK3 := Lib.hid (HK2.out.trans hk)
  clear hk HX2 HY2 HK2
  go_wp2_with fail
  refine Calls.mono (m_laid 2 (by decide) w w3 (fun k => k = X ∨ k = Y) HK3.out (fun k hk => by rcases hk with rfl | rfl; exact (Array.getElem?_eq_some_iff.1 HX3.out).1; exact (Array.getElem?_eq_some_iff.1 HY3.out).1)) ?_
  rintro e w4 ⟨q, rfl, hb, hr⟩
  have HB4 : Hid (BK w (fun k => k = X ∨ k = Y) w4 q (addZ 12 2)) := Lib.hid hb
  have HX4 := Lib.hid ((hr X (.inl rfl)).trans HX3.out)
  have HY4 := Lib.hid ((hr Y (.inr rfl)).trans HY3.out)
  have HI4 : Hid (Still (addZ 12 2) 2 12) := Lib.hid (addZ_still (by decide) (by decide))
  have HC : Hid ((addZ 12 2).clock ≤ 0 ∧ (addZ 12 2).writes ≤ 0) := Lib.hid ⟨Int.le_of_eq (addZ_rest 12 2).2.2.1, Int.le_of_eq (addZ_rest 12 2).2.2.2⟩
  clear hb hr HX3 HY3 HK3
  generalize addZ 12 2 = T0 at *
  go_wp2
  go_loopw [13] (fun i wr => ∃ (k : Nat) (T : BankT), k ≤ 24 ∧ i = .int .i64 k ∧ T.clock ≤ k ∧ T.writes ≤ k ∧ Hid (Still T 2 12) ∧ Hid (wr.heap[X]? = some (.cells [Value.int .i64 x0, .int .i64 x1].toArray 31 (0, 0))) ∧ Hid (wr.heap[Y]? = some (.cells [Value.int .i64 y0, .int .i64 y1].toArray 31 (0, 0))) ∧ Hid (BK w (fun k => k = X ∨ k = Y) wr q T)) (fun i _ => 24 - (intOf i).toNat)
  case atStart => exact ⟨0, _, Nat.zero_le _, rfl, HC.out.1, HC.out.2, HI4, HX4, HY4, HB4⟩
  case round =>
    obtain ⟨k, T, hk, rfl, hclk, hwri, HI, HX, HY, HB⟩ := hrel
    by_cases hlt : k < 24
    · have hdq : ((k : Int) / 12) = ((k / 12 : Nat) : Int) := by omega
      have hdm : ((k : Int) % 12) = ((k % 12 : Nat) : Int) := by omega
      have hdqt : (k : Int).tdiv 12 = ((k / 12 : Nat) : Int) := by rw [Int.tdiv_eq_ediv_of_nonneg (by omega)]; exact hdq
      have hdmt : (k : Int).tmod 12 = ((k % 12 : Nat) : Int) := by rw [Int.tmod_eq_emod_of_nonneg (by omega)]; exact hdm
      have hd2 : k / 12 < 2 := by omega
      have ha12 : k % 12 < 12 := by omega
      generalize k / 12 = d at *
      generalize k % 12 = a at *
      obtain ⟨T', e1, h1, c1, v1, _⟩ := HI.out.write hd2 ha12 (secN_ok ((k : Int) + 1))
      have HE := Lib.hid e1; have HI' := Lib.hid h1
      have HU := Lib.hid (HI.out.live.use (by decide) (by omega) (by omega))
      clear e1 h1 hd2 ha12
      go_wp2_with fail
      refine Calls.mono (m_sector ((k : Int) + 1) _) ?_
      rintro e w5 ⟨rfl, hk⟩
      have HB5 := Lib.hid (HB.out.kept hk).1
      have HX5 := Lib.hid (hk.block HX.out)
      have HY5 := Lib.hid (hk.block HY.out)
      clear hk HB HX HY
      go_wp2_with fail
      refine Calls.mono (st_writeE HB5.out HU.out (d : Int) (a : Int) (s := secN ((k : Int) + 1)) (secN_len _) HE.out) ?_
      rintro e w6 ⟨rfl, hb, hr⟩
      have HB6 := Lib.hid hb
      have HX6 := Lib.hid ((hr X (.inl rfl)).trans HX5.out)
      have HY6 := Lib.hid ((hr Y (.inr rfl)).trans HY5.out)
      clear hb hr HB5 HX5 HY5 hdq hdm hdqt hdmt
      go_wp2
      go_roundw
      case rel => exact ⟨k + 1, T', hlt, by go_num, by omega, by omega, HI', HX6, HY6, HB6⟩
      case measure => simp [intOf]; omega
    · have hc24 : T.clock ≤ 24 := by omega
      have hw24 : T.writes ≤ 24 := by omega
      have hk24 : 24 ≤ k := by omega
      clear hclk hwri HB4 HX4 HY4 HI4 HC
      go_upto_region 10 with fail
      obtain ⟨p0, p1⟩ := Pl.of HX.out
      obtain ⟨q0, q1⟩ := Pl.of HY.out
      go_cut [14] from 41 to 78 (fun v wc => Hid (wc = wr) ∧ v = .bool (rightB x0 x1 y0 y1))
      case first =>
        by_cases h1 : 0 ≤ x0
        · by_cases h2 : x0 < 2
          · by_cases h3 : 0 ≤ x1
            · by_cases h4 : x1 < 12
              · by_cases h5 : 0 ≤ y0
                · by_cases h6 : y0 < 2
                  · by_cases h7 : 0 ≤ y1
                    · by_cases h8 : y1 < 12
                      · have hr := Lib.hid (show rightB x0 x1 y0 y1 = true from decide_eq_true ⟨h1, h2, h3, h4, h5, h6, h7, h8⟩)
                        go_wp2
                        go_meet
                        case rel => exact ⟨Lib.hid rfl, by rw [hr.out]⟩
                      · have hr := Lib.hid (rightB_no (x0 := x0) (x1 := x1) (y0 := y0) (y1 := y1) (by omega))
                        go_wp2
                        go_meet
                        case rel => exact ⟨Lib.hid rfl, by rw [hr.out]⟩
                    · have hr := Lib.hid (rightB_no (x0 := x0) (x1 := x1) (y0 := y0) (y1 := y1) (by omega))
                      go_wp2
                      go_meet
                      case rel => exact ⟨Lib.hid rfl, by rw [hr.out]⟩
                  · have hr := Lib.hid (rightB_no (x0 := x0) (x1 := x1) (y0 := y0) (y1 := y1) (by omega))
                    go_wp2
                    go_meet
                    case rel => exact ⟨Lib.hid rfl, by rw [hr.out]⟩
                · have hr := Lib.hid (rightB_no (x0 := x0) (x1 := x1) (y0 := y0) (y1 := y1) (by omega))
                  go_wp2
                  go_meet
                  case rel => exact ⟨Lib.hid rfl, by rw [hr.out]⟩
              · have hr := Lib.hid (rightB_no (x0 := x0) (x1 := x1) (y0 := y0) (y1 := y1) (by omega))
                go_wp2
                go_meet
                case rel => exact ⟨Lib.hid rfl, by rw [hr.out]⟩
            · have hr := Lib.hid (rightB_no (x0 := x0) (x1 := x1) (y0 := y0) (y1 := y1) (by omega))
              go_wp2
              go_meet
              case rel => exact ⟨Lib.hid rfl, by rw [hr.out]⟩
          · have hr := Lib.hid (rightB_no (x0 := x0) (x1 := x1) (y0 := y0) (y1 := y1) (by omega))
            go_wp2
            go_meet
            case rel => exact ⟨Lib.hid rfl, by rw [hr.out]⟩
        · have hr := Lib.hid (rightB_no (x0 := x0) (x1 := x1) (y0 := y0) (y1 := y1) (by omega))
          go_wp2
          go_meet
          case rel => exact ⟨Lib.hid rfl, by rw [hr.out]⟩
      case rest =>
        obtain ⟨hwc, rfl⟩ := hcut
        obtain rfl := hwc.out
        clear p0 p1 q0 q1
        obtain ⟨rb, hrb⟩ : ∃ rb, rightB x0 x1 y0 y1 = rb := ⟨_, rfl⟩
        rw [hrb]
        have HRB := Lib.hid hrb
        clear hrb hwc
        go_upto_if 79 with fail
        go_cut [] from 79 to 89 (fun wc => ∃ T : BankT, T.clock ≤ 26 ∧ T.writes ≤ 26 ∧ Hid (Still T 2 12) ∧ Hid (wc.heap[X]? = some (.cells [Value.int .i64 x0, .int .i64 x1].toArray 31 (0, 0))) ∧ Hid (wc.heap[Y]? = some (.cells [Value.int .i64 y0, .int .i64 y1].toArray 31 (0, 0))) ∧ Hid (BK w (fun k => k = X ∨ k = Y) wc q T))
        case first =>
          rcases rb with _ | _
          · go_wp2
            go_meet
            case rel => exact ⟨T, by omega, by omega, HI, HX, HY, HB⟩
          · obtain ⟨dx, ax, dy, ay, rfl, rfl, rfl, rfl, hdx, hax, hdy, hay⟩ := rightB_nat HRB.out
            obtain ⟨T1, e1, h1, c1, v1, _⟩ := HI.out.write hdx hax (secN_ok n0)
            obtain ⟨T2, e2, h2, c2, v2, _⟩ := h1.write hdy hay (secN_ok m0)
            have HE1 := Lib.hid e1; have HE2 := Lib.hid e2; have HI2 := Lib.hid h2
            have HU := Lib.hid (HI.out.live.use (by decide) (by omega) (by omega))
            have HU1 := Lib.hid (h1.live.use (by decide) (by omega) (by omega))
            clear e1 e2 h1 h2 hdx hax hdy hay
            go_upto_region 12 with fail
            have hS : Pl wc.drew X (dx : Int) (ax : Int) ∧ Pl wc.drew Y (dy : Int) (ay : Int) := ⟨Pl.of HX.out, Pl.of HY.out⟩
            refine wp_region_calm ?_
            refine wp_region_E (fun W => Pl W X (dx : Int) (ax : Int) ∧ Pl W Y (dy : Int) (ay : Int)) 100 (by kernel_rfl) ?_
            refine wpAnyE_take (i := 0) (v := ?_) (listed' := #[true, false, false, false, false]) (by rfl) (by kernel_rfl) (by kernel_rfl) calm_put hS (by rfl) ?_ ?_
            rotate_left
            · intro W hW; clear hW; go_simp; try (with_reducible rfl)
            simp only [Act.put, List.getElem_toArray, List.getElem_cons_succ, List.getElem_cons_zero, List.setIfInBounds_toArray, List.set_cons_zero, List.set_cons_succ]
            refine wpAnyE_take (i := 1) (v := ?_) (listed' := #[true, true, false, false, false]) (by rfl) (by kernel_rfl) (by kernel_rfl) calm_put hS (by rfl) ?_ ?_
            rotate_left
            · intro W hW; obtain ⟨⟨p0, p1⟩, q0, q1⟩ := hW; go_simp; try (with_reducible rfl)
            simp only [Act.put, List.getElem_toArray, List.getElem_cons_succ, List.getElem_cons_zero, List.setIfInBounds_toArray, List.set_cons_zero, List.set_cons_succ]
            refine wpAnyE_take (i := 2) (v := ?_) (listed' := #[true, true, true, false, false]) (by rfl) (by kernel_rfl) (by kernel_rfl) calm_put hS (by rfl) ?_ ?_
            rotate_left
            · intro W hW; clear hW; go_simp; try (with_reducible rfl)
            simp only [Act.put, List.getElem_toArray, List.getElem_cons_succ, List.getElem_cons_zero, List.setIfInBounds_toArray, List.set_cons_zero, List.set_cons_succ]
            refine wpAnyE_one (i := 3) (listed' := #[true, true, true, true, false]) (by rfl) (by kernel_rfl) (by kernel_rfl) (by rfl) (fun K hK => ?_)
            simp only [Act.put, List.getElem_toArray, List.getElem_cons_succ, List.getElem_cons_zero, List.setIfInBounds_toArray, List.set_cons_zero, List.set_cons_succ]
            go_wp2_with fail
            refine Calls.mono (m_sector n0 _) ?_
            rintro e w5 ⟨rfl, hks⟩
            have hS := (⟨hS.1.kept hks, hS.2.kept hks⟩ : _ ∧ _)
            refine hK _ _ (fun _ => hS) ?_; clear hK K
            refine wpAnyE_one (i := 4) (listed' := #[true, true, true, true, true]) (by rfl) (by kernel_rfl) (by kernel_rfl) (by rfl) (fun K hK => ?_)
            simp only [Act.put, List.getElem_toArray, List.getElem_cons_succ, List.getElem_cons_zero, List.setIfInBounds_toArray, List.set_cons_zero, List.set_cons_succ]
            go_wp2_with fail
            refine Calls.mono (st_writeE (HB.out.kept ((Kept.refl _).drew.trans hks)).1 HU.out (dx : Int) (ax : Int) (s := secN n0) (secN_len _) HE1.out) ?_
            rintro e w6 ⟨rfl, hb, hr⟩
            have HB6 := Lib.hid hb
            have HX6 := Lib.hid ((hr X (.inl rfl)).trans (((Kept.refl _).drew.trans hks).block HX.out))
            have HY6 := Lib.hid ((hr Y (.inr rfl)).trans (((Kept.refl _).drew.trans hks).block HY.out))
            have hS := (⟨hS.1.same (hr X (.inl rfl)), hS.2.same (hr Y (.inr rfl))⟩ : _ ∧ _)
            clear hb hr hks
            refine hK _ _ (fun _ => hS) ?_; clear hK K
            refine wpAnyE_done (by kernel_rfl) ?_ _
            refine calm_normal ?_
            clear HE1 HU HI
            go_upto_region 13 with fail
            replace hS : Pl w6.drew X (dx : Int) (ax : Int) ∧ Pl w6.drew Y (dy : Int) (ay : Int) := hS
            refine wp_region_calm ?_
            refine wp_region_E (fun W => Pl W X (dx : Int) (ax : Int) ∧ Pl W Y (dy : Int) (ay : Int)) 100 (by kernel_rfl) ?_
            refine wpAnyE_take (i := 0) (v := ?_) (listed' := #[true, false, false, false, false]) (by rfl) (by kernel_rfl) (by kernel_rfl) calm_put hS (by rfl) ?_ ?_
            rotate_left
            · intro W hW; clear hW; go_simp; try (with_reducible rfl)
            simp only [Act.put, List.getElem_toArray, List.getElem_cons_succ, List.getElem_cons_zero, List.setIfInBounds_toArray, List.set_cons_zero, List.set_cons_succ]
            refine wpAnyE_take (i := 1) (v := ?_) (listed' := #[true, true, false, false, false]) (by rfl) (by kernel_rfl) (by kernel_rfl) calm_put hS (by rfl) ?_ ?_
            rotate_left
            · intro W hW; obtain ⟨⟨p0, p1⟩, q0, q1⟩ := hW; go_simp; try (with_reducible rfl)
            simp only [Act.put, List.getElem_toArray, List.getElem_cons_succ, List.getElem_cons_zero, List.setIfInBounds_toArray, List.set_cons_zero, List.set_cons_succ]
            refine wpAnyE_take (i := 2) (v := ?_) (listed' := #[true, true, true, false, false]) (by rfl) (by kernel_rfl) (by kernel_rfl) calm_put hS (by rfl) ?_ ?_
            rotate_left
            · intro W hW; clear hW; go_simp; try (with_reducible rfl)
            simp only [Act.put, List.getElem_toArray, List.getElem_cons_succ, List.getElem_cons_zero, List.setIfInBounds_toArray, List.set_cons_zero, List.set_cons_succ]
            refine wpAnyE_one (i := 3) (listed' := #[true, true, true, true, false]) (by rfl) (by kernel_rfl) (by kernel_rfl) (by rfl) (fun K hK => ?_)
            simp only [Act.put, List.getElem_toArray, List.getElem_cons_succ, List.getElem_cons_zero, List.setIfInBounds_toArray, List.set_cons_zero, List.set_cons_succ]
            go_wp2_with fail
            refine Calls.mono (m_sector m0 _) ?_
            rintro e w7 ⟨rfl, hks⟩
            have hS := (⟨hS.1.kept hks, hS.2.kept hks⟩ : _ ∧ _)
            refine hK _ _ (fun _ => hS) ?_; clear hK K
            refine wpAnyE_one (i := 4) (listed' := #[true, true, true, true, true]) (by rfl) (by kernel_rfl) (by kernel_rfl) (by rfl) (fun K hK => ?_)
            simp only [Act.put, List.getElem_toArray, List.getElem_cons_succ, List.getElem_cons_zero, List.setIfInBounds_toArray, List.set_cons_zero, List.set_cons_succ]
            go_wp2_with fail
            refine Calls.mono (st_writeE (HB6.out.kept ((Kept.refl _).drew.trans hks)).1 HU1.out (dy : Int) (ay : Int) (s := secN m0) (secN_len _) HE2.out) ?_
            rintro e w8 ⟨rfl, hb, hr⟩
            have HB8 := Lib.hid hb
            have HX8 := Lib.hid ((hr X (.inl rfl)).trans (((Kept.refl _).drew.trans hks).block HX6.out))
            have HY8 := Lib.hid ((hr Y (.inr rfl)).trans (((Kept.refl _).drew.trans hks).block HY6.out))
            have hS := (⟨hS.1.same (hr X (.inl rfl)), hS.2.same (hr Y (.inr rfl))⟩ : _ ∧ _)
            clear hb hr hks
            refine hK _ _ (fun _ => hS) ?_; clear hK K
            refine wpAnyE_done (by kernel_rfl) ?_ _
            refine calm_normal ?_
            go_wp2
            go_meet
            case rel => exact ⟨T2, by omega, by omega, HI2, HX8, HY8, HB8⟩
        case rest =>
          obtain ⟨T, hclk, hwri, HI, HX, HY, HB⟩ := hcut
          go_upto_if 92 with fail
          go_cut [] from 90 to 96 (fun wc => ∃ T : BankT, T.clock ≤ 26 ∧ T.writes ≤ 26 ∧ Hid (CL T) ∧ Hid (wc.heap[X]? = some (.cells [Value.int .i64 x0, .int .i64 x1].toArray 31 (0, 0))) ∧ Hid (wc.heap[Y]? = some (.cells [Value.int .i64 y0, .int .i64 y1].toArray 31 (0, 0))) ∧ Hid (BK w (fun k => k = X ∨ k = Y) wc q T))
          case first =>
            have hdd := HDD.out
            by_cases hd2 : dd < 2
            · obtain ⟨T1, e1, h1, c1, v1⟩ := HI.out.cl.fail hd2
              have HE1 := Lib.hid e1; have HI1 := Lib.hid h1
              have HU := Lib.hid (HI.out.live.use (by decide) (by omega) (by omega))
              clear e1 h1
              go_wp2_with fail
              refine Calls.mono (st_fail HB.out HU.out (dd : Int) (c := 0) (T' := T1) (by rw [HE1.out]) (by rw [HE1.out])) ?_
              rintro e w7 ⟨rfl, hb, hr⟩
              have HB7 := Lib.hid hb
              have HX7 := Lib.hid ((hr X (.inl rfl)).trans HX.out)
              have HY7 := Lib.hid ((hr Y (.inr rfl)).trans HY.out)
              clear hb hr
              go_wp2
              go_meet
              case rel => exact ⟨T1, by omega, by omega, HI1, HX7, HY7, HB7⟩
            · go_wp2
              go_meet
              case rel => exact ⟨T, hclk, hwri, Lib.hid HI.out.cl, HX, HY, HB⟩
          case rest =>
            obtain ⟨T, hclk, hwri, HI, HX, HY, HB⟩ := hcut
            have HU := Lib.hid (HI.out.use (by omega) (by omega))
            go_wp2_with (refine stop_at (o := ⟨some 15, _, _, _, _, _⟩) ?_)
            refine Stop.mk ?_
            refine wpList_alloc_abs rfl 50 rfl (secs (List.replicate 24 zeroB)) zero_24' ?_
            intro w8 hz hs hn hk
            have HB8 := Lib.hid (HB.out.box hk (by omega))
            have HX8 := Lib.hid (hk.block HX.out)
            have HY8 := Lib.hid (hk.block HY.out)
            have HL8 := hz
            have HBL : Hid (w.heap.size ≤ wc.heap.size ∧ wc.heap.size ≠ X ∧ wc.heap.size ≠ Y) := Lib.hid ⟨HB.out.keeps.size, fun e => by obtain ⟨_, _, hb⟩ := HB.out; have := (hb.off X (.inl rfl)).1; omega, fun e => by obtain ⟨_, _, hb⟩ := HB.out; have := (hb.off Y (.inr rfl)).1; omega⟩
            generalize wc.heap.size = BL at *
            clear hz hs hn hk HB HX HY
            go_wp2
            go_loopw [16] (fun i wr => ∃ (k : Nat) (ls : List (List Int)), k ≤ 24 ∧ i = .int .i64 k ∧ Hid (S24 ls) ∧ Hid (∀ j, j < k → ls.getD j [] = T.rd j) ∧ Hid (wr.heap[X]? = some (.cells [Value.int .i64 x0, .int .i64 x1].toArray 31 (0, 0))) ∧ Hid (wr.heap[Y]? = some (.cells [Value.int .i64 y0, .int .i64 y1].toArray 31 (0, 0))) ∧ Hid (wr.heap[BL]? = some (.cells (secs ls).toArray 50 (0, 0))) ∧ Hid (BK w (fun k => (k = X ∨ k = Y) ∨ k = BL) wr q T)) (fun i _ => 24 - (intOf i).toNat)
            case atStart => exact ⟨0, _, Nat.zero_le _, rfl, Lib.hid ⟨by simp, fun s hs => by rw [List.eq_of_mem_replicate hs]; exact zeroB_length⟩, Lib.hid (fun j hj => absurd hj (Nat.not_lt_zero _)), HX8, HY8, HL8, HB8⟩
            case round =>
              obtain ⟨k, ls, hk, rfl, HS24, HG, HX, HY, HL, HB⟩ := hrel
              by_cases hlt : k < 24
              · have hdq : ((k : Int) / 12) = ((k / 12 : Nat) : Int) := by omega
                have hdm : ((k : Int) % 12) = ((k % 12 : Nat) : Int) := by omega
                have hdqt : (k : Int).tdiv 12 = ((k / 12 : Nat) : Int) := by rw [Int.tdiv_eq_ediv_of_nonneg (by omega)]; exact hdq
                have hdmt : (k : Int).tmod 12 = ((k % 12 : Nat) : Int) := by rw [Int.tmod_eq_emod_of_nonneg (by omega)]; exact hdm
                have hki : (k : Int) < 24 := by omega
                obtain ⟨c, hr⟩ : ∃ c, T.read ((k / 12 : Nat) : Int) ((k % 12 : Nat) : Int) = (T.rd k, c) := ⟨_, rfl⟩
                have HR := Lib.hid hr
                have HX64 := Lib.hid (HI.out.rd_len hlt)
                have HJ : Hid (splice (secs ls) (k * 64) (u8s (T.rd k)) = secs (ls.set k (T.rd k))) := Lib.hid (splice_flat ls HS24.out.2 k (by rw [HS24.out.1]; exact hlt) _ (HI.out.rd_len hlt))
                have HQ : Hid ((secs ls).length = 24 * 64) := Lib.hid (by rw [secs_length ls HS24.out.2, HS24.out.1])
                have HSN := Lib.hid (HS24.out.set k (HI.out.rd_len hlt))
                have HGN : Hid (∀ j, j < k + 1 → (ls.set k (T.rd k)).getD j [] = T.rd j) := Lib.hid fun j hj => by
                  rw [getD_set (by rw [HS24.out.1]; exact hlt)]
                  by_cases e : j = k
                  · rw [if_pos e, e]
                  · rw [if_neg e]; exact HG.out j (by omega)
                clear hr
                generalize T.rd k = xs at *
                generalize k / 12 = d at *
                generalize k % 12 = a at *
                go_wp2_with fail
                refine Calls.mono (st_read HB.out HU.out (d : Int) (a : Int) HR.out) ?_
                rintro e w9 ⟨rfl, hb, hk9⟩
                have HB9 := Lib.hid hb
                have HX9 := Lib.hid (hk9.block HX.out)
                have HY9 := Lib.hid (hk9.block HY.out)
                have HL9 := Lib.hid (hk9.block HL.out)
                clear hb hk9 HB HX HY HL hdq hdm hdqt hdmt
                go_wp2_with (refine stop_at (o := ⟨none, .store _ _ _, _, _, _, _⟩) ?_)
                refine Stop.mk ?_
                refine wpList_store_agg rfl _ _ rfl ty_sec BL (k * 64) rfl (u8s xs) rfl (by rw [u8s_length, HX64.out]) (u8s_one _) (secs ls) 50 HL9.out (by rw [HQ.out]; omega) ?_
                intro w10 hw
                rw [HJ.out] at hw
                have HB10 := Lib.hid (HB9.out.wrote hw (.inr rfl) HBL.out.1)
                have HL10 := Lib.hid hw.blk
                have HX10 := Lib.hid ((hw.oth X HBL.out.2.1.symm).trans HX9.out)
                have HY10 := Lib.hid ((hw.oth Y HBL.out.2.2.symm).trans HY9.out)
                clear hw HB9 HX9 HY9 HL9 HJ HQ
                go_wp2
                go_roundw
                case rel => exact ⟨k + 1, _, hlt, by go_num, HSN, HGN, HX10, HY10, HL10, HB10⟩
                case measure => simp [intOf]; omega
              · have hk24' : 24 ≤ k := by omega
                obtain ⟨T', ec, hcp, h', c1, v1, hdeq, halt⟩ := HI.out.copy x0 x1 y0 y1
                have HCP := Lib.hid hcp; have HI' := Lib.hid h'; have HDQ := Lib.hid hdeq; have HALT := Lib.hid halt
                have HU' := Lib.hid (h'.use (by omega) (by omega))
                clear hcp h' hdeq halt HB8 HX8 HY8 HL8
                obtain ⟨p0, p1⟩ := Pl.of HX.out
                obtain ⟨q0, q1⟩ := Pl.of HY.out
                go_wp2_with fail
                refine Calls.mono (m_CopyE HB.out HU.out x0 x1 y0 y1 HCP.out) ?_
                rintro e w9 ⟨rfl, hb, hr⟩
                have HB9 := Lib.hid hb
                have HX9 := Lib.hid ((hr X (.inl (.inl rfl))).trans HX.out)
                have HY9 := Lib.hid ((hr Y (.inl (.inr rfl))).trans HY.out)
                have HL9 := Lib.hid ((hr BL (.inr rfl)).trans HL.out)
                clear hb hr HB HX HY HL p0 p1 q0 q1
                go_upto_region 22 with fail
                obtain ⟨p0, p1⟩ := Pl.of HX9.out
                obtain ⟨q0, q1⟩ := Pl.of HY9.out
                go_cut [18] from 117 to 131 (fun v wc => Hid (wc = w9) ∧ v = .bool (ec == 0))
                case first =>
                  rcases HALT.out with ⟨rfl, dx, ax, dy, ay, rfl, rfl, rfl, rfl, hdx, hax, hdy, hay, hddx, hddy, _⟩ | ⟨hno, hec, _⟩
                  · have hrb : rb = true := by rw [← HRB.out]; exact decide_eq_true ⟨by omega, by omega, by omega, by omega, by omega, by omega, by omega, by omega⟩
                    subst hrb
                    have HD1 := Lib.hid ((bk_Dead HB9.out (k := dx) (by rw [HI'.out.len]; exact hdx)).mono (R' := fun e w' => e = .returned (.bool false) ∧ w9 = w') fun e w' ⟨h1, h2⟩ => ⟨by rw [h1, HDQ.out dx hdx, hddx], h2⟩)
                    have HD2 := Lib.hid ((bk_Dead HB9.out (k := dy) (by rw [HI'.out.len]; exact hdy)).mono (R' := fun e w' => e = .returned (.bool false) ∧ w9 = w') fun e w' ⟨h1, h2⟩ => ⟨by rw [h1, HDQ.out dy hdy, hddy], h2⟩)
                    clear hddx hddy hdx hax hdy hay
                    go_wp2_with fail
                    refine Calls.mono HD1.out ?_
                    rintro e w' ⟨rfl, rfl⟩
                    go_wp2_with fail
                    refine Calls.mono HD2.out ?_
                    rintro e w' ⟨rfl, rfl⟩
                    go_wp2
                    go_meet
                    case rel => exact ⟨Lib.hid rfl, rfl⟩
                  · have hcb := Lib.hid (show (ec == 0) = false by simpa using hec)
                    rcases rb with _ | _
                    · clear hec
                      go_wp2
                      go_meet
                      case rel => exact ⟨Lib.hid rfl, by rw [hcb.out]⟩
                    · obtain ⟨dx, ax, dy, ay, rfl, rfl, rfl, rfl, hdx, hax, hdy, hay⟩ := rightB_nat HRB.out
                      have HD1 := Lib.hid ((bk_Dead HB9.out (k := dx) (by rw [HI'.out.len]; exact hdx)).mono (R' := fun e w' => e = .returned (.bool (T.d dx).dead) ∧ w9 = w') fun e w' ⟨h1, h2⟩ => ⟨by rw [h1, HDQ.out dx hdx], h2⟩)
                      have HD2 := Lib.hid ((bk_Dead HB9.out (k := dy) (by rw [HI'.out.len]; exact hdy)).mono (R' := fun e w' => e = .returned (.bool (T.d dy).dead) ∧ w9 = w') fun e w' ⟨h1, h2⟩ => ⟨by rw [h1, HDQ.out dy hdy], h2⟩)
                      have hor : (T.d dx).dead = true ∨ ((T.d dx).dead = false ∧ (T.d dy).dead = true) := by
                        cases e1 : (T.d dx).dead
                        · cases e2 : (T.d dy).dead
                          · exact absurd ⟨(HI.out.inE_iff _ _).2 ⟨dx, ax, rfl, rfl, hdx, hax, e1⟩, (HI.out.inE_iff _ _).2 ⟨dy, ay, rfl, rfl, hdy, hay, e2⟩⟩ hno
                          · exact .inr ⟨rfl, rfl⟩
                        · exact .inl rfl
                      clear hno hec hdx hax hdy hay
                      rcases hor with e1 | ⟨e1, e2⟩
                      · rw [e1] at HD1
                        clear e1
                        go_wp2_with fail
                        refine Calls.mono HD1.out ?_
                        rintro e w' ⟨rfl, rfl⟩
                        go_wp2
                        go_meet
                        case rel => exact ⟨Lib.hid rfl, by rw [hcb.out]⟩
                      · rw [e1] at HD1
                        rw [e2] at HD2
                        clear e1 e2
                        go_wp2_with fail
                        refine Calls.mono HD1.out ?_
                        rintro e w' ⟨rfl, rfl⟩
                        go_wp2_with fail
                        refine Calls.mono HD2.out ?_
                        rintro e w' ⟨rfl, rfl⟩
                        go_wp2
                        go_meet
                        case rel => exact ⟨Lib.hid rfl, by rw [hcb.out]⟩
                case rest =>
                  obtain ⟨hwc, rfl⟩ := hcut
                  obtain rfl := hwc.out
                  clear hwc p0 p1 q0 q1
                  go_upto_region 23 with fail
                  go_cut [18, 135] from 132 to 135 (fun v18 v wc' => Hid (wc' = wc) ∧ v18 = .bool (ec == 0) ∧ v = .bool false)
                  case first =>
                    by_cases hec : ec = 0
                    · subst hec
                      go_wp2
                      go_meet
                      case rel => exact ⟨Lib.hid rfl, rfl, rfl⟩
                    · have hcb : (ec == 0) = false := by simpa using hec
                      have HCB := Lib.hid hcb
                      rw [hcb]
                      go_wp2
                      go_meet
                      case rel => exact ⟨Lib.hid rfl, by rw [HCB.out], rfl⟩
                  case rest =>
                    obtain ⟨hwc, rfl, rfl⟩ := hcut
                    obtain rfl := hwc.out
                    clear hwc
                    go_upto_if 136 with fail
                    go_cut [18] from 136 to 151 (fun v18 wc' => ∃ ls' : List (List Int), Hid (S24 ls') ∧ Hid (∀ j, j < 24 → ls'.getD j [] = T'.rd j) ∧ Hid (wc'.heap[BL]? = some (.cells (secs ls').toArray 50 (0, 0))) ∧ Hid (BK w (fun k => (k = X ∨ k = Y) ∨ k = BL) wc' q T'))
                    case first =>
                      rcases HALT.out with ⟨rfl, dx, ax, dy, ay, rfl, rfl, rfl, rfl, hdx, hax, hdy, hay, _, _, hrd⟩ | ⟨_, hec, hrd⟩
                      · have hlx : 12 * dx + ax < 24 := by omega
                        have hly : 12 * dy + ay < 24 := by omega
                        have HSL := Lib.hid (cells_sec (Cells.of_block HL9.out) HS24.out.2 (a := 12 * dx + ax) (by rw [HS24.out.1]; exact hlx))
                        rw [HG.out _ (by omega)] at HSL
                        have HXL := Lib.hid (HI.out.rd_len hlx)
                        have HJ : Hid (splice (secs ls) ((12 * dy + ay) * 64) (u8s (T.rd (12 * dx + ax))) = secs (ls.set (12 * dy + ay) (T.rd (12 * dx + ax)))) := Lib.hid (splice_flat ls HS24.out.2 (12 * dy + ay) (by rw [HS24.out.1]; exact hly) _ HXL.out)
                        have HQ : Hid ((secs ls).length = 24 * 64) := Lib.hid (by rw [secs_length ls HS24.out.2, HS24.out.1])
                        have HSN := Lib.hid (HS24.out.set (12 * dy + ay) HXL.out)
                        have HGN : Hid (∀ j, j < 24 → (ls.set (12 * dy + ay) (T.rd (12 * dx + ax))).getD j [] = T'.rd j) := Lib.hid fun j hj => by
                          rw [getD_set (by rw [HS24.out.1]; exact hly), hrd j hj]
                          by_cases e : j = 12 * dy + ay
                          · rw [if_pos e, if_pos e]
                          · rw [if_neg e, if_neg e]; exact HG.out j (by omega)
                        clear hrd
                        have hix := Lib.hid (idx_wrap hdx hax)
                        have hiy := Lib.hid (idx_wrap hdy hay)
                        obtain ⟨p0, p1⟩ := Pl.of HX9.out
                        obtain ⟨q0, q1⟩ := Pl.of HY9.out
                        generalize 12 * dx + ax = ix at *
                        generalize 12 * dy + ay = iy at *
                        have hixi : (ix : Int) < 24 := by omega
                        have hiyi : (iy : Int) < 24 := by omega
                        generalize T.rd ix = xs at *
                        go_upto_region 26 with fail
                        have hS : Pl wc.drew X (dx : Int) (ax : Int) ∧ Pl wc.drew Y (dy : Int) (ay : Int) ∧ Cells wc.drew BL (ix * 64) (u8s xs) := ⟨Pl.of HX9.out, Pl.of HY9.out, HSL.out⟩
                        clear p0 p1 q0 q1
                        refine wp_region_calm ?_
                        refine wp_region_E (fun W => Pl W X (dx : Int) (ax : Int) ∧ Pl W Y (dy : Int) (ay : Int) ∧ Cells W BL (ix * 64) (u8s xs)) 15 (by kernel_rfl) ?_
                        refine wpAnyE_take (i := 0) (v := ?_) (listed' := #[true, false, false, false, false, false, false, false, false, false, false, false, false, false, false, false]) (by rfl) (by kernel_rfl) (by kernel_rfl) calm_put hS (by rfl) ?_ ?_
                        rotate_left
                        · intro W hW; clear hW; go_simp; try (with_reducible rfl)
                        simp only [Act.put, List.getElem_toArray, List.getElem_cons_succ, List.getElem_cons_zero, List.setIfInBounds_toArray, List.set_cons_zero, List.set_cons_succ]
                        refine wpAnyE_take (i := 1) (v := ?_) (listed' := #[true, true, false, false, false, false, false, false, false, false, false, false, false, false, false, false]) (by rfl) (by kernel_rfl) (by kernel_rfl) calm_put hS (by rfl) ?_ ?_
                        rotate_left
                        · intro W hW; obtain ⟨⟨p0, p1⟩, ⟨q0, q1⟩, _⟩ := hW; go_simp; try (with_reducible rfl)
                        simp only [Act.put, List.getElem_toArray, List.getElem_cons_succ, List.getElem_cons_zero, List.setIfInBounds_toArray, List.set_cons_zero, List.set_cons_succ]
                        refine wpAnyE_take (i := 2) (v := ?_) (listed' := #[true, true, true, false, false, false, false, false, false, false, false, false, false, false, false, false]) (by rfl) (by kernel_rfl) (by kernel_rfl) calm_put hS (by rfl) ?_ ?_
                        rotate_left
                        · intro W hW; clear hW; go_simp; try (with_reducible rfl)
                        simp only [Act.put, List.getElem_toArray, List.getElem_cons_succ, List.getElem_cons_zero, List.setIfInBounds_toArray, List.set_cons_zero, List.set_cons_succ]
                        refine wpAnyE_take (i := 3) (v := ?_) (listed' := #[true, true, true, true, false, false, false, false, false, false, false, false, false, false, false, false]) (by rfl) (by kernel_rfl) (by kernel_rfl) calm_put hS (by rfl) ?_ ?_
                        rotate_left
                        · intro W hW; clear hW; go_simp; try (with_reducible rfl)
                        simp only [Act.put, List.getElem_toArray, List.getElem_cons_succ, List.getElem_cons_zero, List.setIfInBounds_toArray, List.set_cons_zero, List.set_cons_succ]
                        refine wpAnyE_take (i := 4) (v := ?_) (listed' := #[true, true, true, true, true, false, false, false, false, false, false, false, false, false, false, false]) (by rfl) (by kernel_rfl) (by kernel_rfl) calm_put hS (by rfl) ?_ ?_
                        rotate_left
                        · intro W hW; obtain ⟨⟨p0, p1⟩, ⟨q0, q1⟩, _⟩ := hW; go_simp; try (with_reducible rfl)
                        simp only [Act.put, List.getElem_toArray, List.getElem_cons_succ, List.getElem_cons_zero, List.setIfInBounds_toArray, List.set_cons_zero, List.set_cons_succ]
                        refine wpAnyE_take (i := 5) (v := .int .i64 (iy : Int)) (listed' := #[true, true, true, true, true, true, false, false, false, false, false, false, false, false, false, false]) (by rfl) (by kernel_rfl) (by kernel_rfl) calm_put hS (by rfl) ?_ ?_
                        · intro W hW; clear hW; go_simp; rw [hiy.out]
                        simp only [Act.put, List.getElem_toArray, List.getElem_cons_succ, List.getElem_cons_zero, List.setIfInBounds_toArray, List.set_cons_zero, List.set_cons_succ]
                        refine wpAnyE_take (i := 6) (v := ?_) (listed' := #[true, true, true, true, true, true, true, false, false, false, false, false, false, false, false, false]) (by rfl) (by kernel_rfl) (by kernel_rfl) calm_put hS (by rfl) ?_ ?_
                        rotate_left
                        · intro W hW; clear hW; go_simp; try (with_reducible rfl)
                        simp only [Act.put, List.getElem_toArray, List.getElem_cons_succ, List.getElem_cons_zero, List.setIfInBounds_toArray, List.set_cons_zero, List.set_cons_succ]
                        refine wpAnyE_take (i := 7) (v := ?_) (listed' := #[true, true, true, true, true, true, true, true, false, false, false, false, false, false, false, false]) (by rfl) (by kernel_rfl) (by kernel_rfl) calm_put hS (by rfl) ?_ ?_
                        rotate_left
                        · intro W hW; obtain ⟨⟨p0, p1⟩, ⟨q0, q1⟩, _⟩ := hW; go_simp; try (with_reducible rfl)
                        simp only [Act.put, List.getElem_toArray, List.getElem_cons_succ, List.getElem_cons_zero, List.setIfInBounds_toArray, List.set_cons_zero, List.set_cons_succ]
                        refine wpAnyE_take (i := 8) (v := ?_) (listed' := #[true, true, true, true, true, true, true, true, true, false, false, false, false, false, false, false]) (by rfl) (by kernel_rfl) (by kernel_rfl) calm_put hS (by rfl) ?_ ?_
                        rotate_left
                        · intro W hW; clear hW; go_simp; try (with_reducible rfl)
                        simp only [Act.put, List.getElem_toArray, List.getElem_cons_succ, List.getElem_cons_zero, List.setIfInBounds_toArray, List.set_cons_zero, List.set_cons_succ]
                        refine wpAnyE_take (i := 9) (v := ?_) (listed' := #[true, true, true, true, true, true, true, true, true, true, false, false, false, false, false, false]) (by rfl) (by kernel_rfl) (by kernel_rfl) calm_put hS (by rfl) ?_ ?_
                        rotate_left
                        · intro W hW; clear hW; go_simp; try (with_reducible rfl)
                        simp only [Act.put, List.getElem_toArray, List.getElem_cons_succ, List.getElem_cons_zero, List.setIfInBounds_toArray, List.set_cons_zero, List.set_cons_succ]
                        refine wpAnyE_take (i := 10) (v := ?_) (listed' := #[true, true, true, true, true, true, true, true, true, true, true, false, false, false, false, false]) (by rfl) (by kernel_rfl) (by kernel_rfl) calm_put hS (by rfl) ?_ ?_
                        rotate_left
                        · intro W hW; obtain ⟨⟨p0, p1⟩, ⟨q0, q1⟩, _⟩ := hW; go_simp; try (with_reducible rfl)
                        simp only [Act.put, List.getElem_toArray, List.getElem_cons_succ, List.getElem_cons_zero, List.setIfInBounds_toArray, List.set_cons_zero, List.set_cons_succ]
                        refine wpAnyE_take (i := 11) (v := .int .i64 (ix : Int)) (listed' := #[true, true, true, true, true, true, true, true, true, true, true, true, false, false, false, false]) (by rfl) (by kernel_rfl) (by kernel_rfl) calm_put hS (by rfl) ?_ ?_
                        · intro W hW; clear hW; go_simp; rw [hix.out]
                        simp only [Act.put, List.getElem_toArray, List.getElem_cons_succ, List.getElem_cons_zero, List.setIfInBounds_toArray, List.set_cons_zero, List.set_cons_succ]
                        refine wpAnyE_take (i := 12) (v := ?_) (listed' := #[true, true, true, true, true, true, true, true, true, true, true, true, true, false, false, false]) (by rfl) (by kernel_rfl) (by kernel_rfl) calm_put hS (by rfl) ?_ ?_
                        rotate_left
                        · intro W hW; clear hW; go_simp; try (with_reducible rfl)
                        simp only [Act.put, List.getElem_toArray, List.getElem_cons_succ, List.getElem_cons_zero, List.setIfInBounds_toArray, List.set_cons_zero, List.set_cons_succ]
                        refine wpAnyE_take (i := 13) (v := .agg (u8s xs).toArray) (listed' := #[true, true, true, true, true, true, true, true, true, true, true, true, true, true, false, false]) (by rfl) (by kernel_rfl) (by kernel_rfl) calm_put hS (by rfl) ?_ ?_
                        · intro W hW; exact exec_load_secO _ rfl BL (ix * 64) rfl xs HXL.out hW.2.2
                        simp only [Act.put, List.getElem_toArray, List.getElem_cons_succ, List.getElem_cons_zero, List.setIfInBounds_toArray, List.set_cons_zero, List.set_cons_succ]
                        refine wpAnyE_take (i := 14) (v := ?_) (listed' := #[true, true, true, true, true, true, true, true, true, true, true, true, true, true, true, false]) (by rfl) (by kernel_rfl) (by kernel_rfl) calm_put hS (by rfl) ?_ ?_
                        rotate_left
                        · intro W hW; clear hW; go_simp; try (with_reducible rfl)
                        simp only [Act.put, List.getElem_toArray, List.getElem_cons_succ, List.getElem_cons_zero, List.setIfInBounds_toArray, List.set_cons_zero, List.set_cons_succ]
                        refine wpAnyE_one (i := 15) (listed' := #[true, true, true, true, true, true, true, true, true, true, true, true, true, true, true, true]) (by rfl) (by kernel_rfl) (by kernel_rfl) (by rfl) (fun K hK => ?_)
                        simp only [Act.put, List.getElem_toArray, List.getElem_cons_succ, List.getElem_cons_zero, List.setIfInBounds_toArray, List.set_cons_zero, List.set_cons_succ]
                        refine wp_store_agg _ _ rfl ty_sec BL (iy * 64) rfl (u8s xs) rfl (by rw [u8s_length, HXL.out]) (u8s_one _) (secs ls) _ HL9.out (by rw [HQ.out]; omega) ?_
                        intro w11 hw
                        rw [HJ.out] at hw
                        have HB11 := Lib.hid ((HB9.out.kept (Kept.refl _).drew).1.wrote hw (.inr rfl) HBL.out.1)
                        have HL11 := Lib.hid hw.blk
                        clear hw
                        refine hK _ _ (fun h => absurd rfl h) ?_; clear hK K
                        refine wpAnyE_done (by kernel_rfl) ?_ _
                        refine calm_normal ?_
                        go_wp2
                        go_meet
                        case rel => exact ⟨_, HSN, HGN, HL11, HB11⟩
                      · have hcb : (ec == 0) = false := by simpa using hec
                        rw [hcb]
                        have HGN : Hid (∀ j, j < 24 → ls.getD j [] = T'.rd j) := Lib.hid fun j hj => by rw [hrd j hj]; exact HG.out j (by omega)
                        clear hrd hec
                        go_wp2
                        go_meet
                        case rel => exact ⟨ls, HS24, HGN, HL9, HB9⟩
                    case rest =>
                      obtain ⟨ls', HSN, HGN, HL, HB⟩ := hcut
                      clear HS24 HG HL9 HB9 HX9 HY9 HALT HCP HI HU HDQ
                      go_wp2
                      go_loopw [19] (fun i wr => ∃ k : Nat, k ≤ 24 ∧ i = .int .i64 k ∧ Hid (wr.heap[BL]? = some (.cells (secs ls').toArray 50 (0, 0))) ∧ Hid (BK w (fun k => (k = X ∨ k = Y) ∨ k = BL) wr q T')) (fun i _ => 24 - (intOf i).toNat)
                      case atStart => exact ⟨0, Nat.zero_le _, rfl, HL, HB⟩
                      case round =>
                        obtain ⟨k, hk, rfl, HL, HB⟩ := hrel
                        by_cases hlt : k < 24
                        · have hdq : ((k : Int) / 12) = ((k / 12 : Nat) : Int) := by omega
                          have hdm : ((k : Int) % 12) = ((k % 12 : Nat) : Int) := by omega
                          have hdqt : (k : Int).tdiv 12 = ((k / 12 : Nat) : Int) := by rw [Int.tdiv_eq_ediv_of_nonneg (by omega)]; exact hdq
                          have hdmt : (k : Int).tmod 12 = ((k % 12 : Nat) : Int) := by rw [Int.tmod_eq_emod_of_nonneg (by omega)]; exact hdm
                          have hki : (k : Int) < 24 := by omega
                          obtain ⟨c, hr⟩ : ∃ c, T'.read ((k / 12 : Nat) : Int) ((k % 12 : Nat) : Int) = (T'.rd k, c) := ⟨_, rfl⟩
                          have HR := Lib.hid hr
                          have HX64 := Lib.hid (HI'.out.rd_len hlt)
                          have HGK := Lib.hid (HGN.out k hlt)
                          clear hr
                          generalize T'.rd k = xs at *
                          generalize k / 12 = d at *
                          generalize k % 12 = a at *
                          go_wp2_with fail
                          refine Calls.mono (st_read HB.out HU'.out (d : Int) (a : Int) HR.out) ?_
                          rintro e w12 ⟨rfl, hb, hk12⟩
                          have HB12 := Lib.hid hb
                          have HL12 := Lib.hid (hk12.block HL.out)
                          clear hb hk12 HB HL hdq hdm hdqt hdmt
                          go_wp2_with (refine stop_at (o := ⟨some 20, _, _, _, _, _⟩) ?_)
                          refine Stop.mk ?_
                          refine wpList_new_row rfl rfl _ _ rfl rfl ty_sec (u8s zeroB) zero_sec (by rw [u8s_length, zeroB_length]) (u8s xs) rfl (by rw [u8s_length, HX64.out]) (u8s_one _) rfl ?_
                          intro w13 hz hs hk13
                          have HB13 := Lib.hid (HB12.out.kept hk13).1
                          have HL13 := Lib.hid (hk13.block HL12.out)
                          have S13 := hz
                          generalize w12.heap.size = Bs at *
                          clear hz hs hk13 HB12 HL12
                          have HSL := Lib.hid (cells_sec (Cells.of_block HL13.out) HSN.out.2 (a := k) (by rw [HSN.out.1]; exact hlt))
                          rw [HGK.out] at HSL
                          have cx : Hid (Cells w13 Bs 0 (u8s xs)) := Lib.hid (by simpa using Cells.of_block S13.out)
                          go_upto_region 31 with fail
                          refine wp_still_all (by kernel_rfl) (by kernel_rfl) fun ws hks hhs => ?_
                          refine still_load_agg rfl _ rfl ty_sec Bs 0 rfl _ (cx.out.kept hks) (by rw [u8s_length, HX64.out]) ?_
                          iterate 2 still_step
                          refine still_load_agg rfl _ rfl ty_sec BL (k * 64) rfl _ (HSL.out.kept hks) (by rw [u8s_length, HX64.out]) ?_
                          refine still_neq_sec rfl _ _ rfl xs xs rfl rfl HX64.out HX64.out ?_
                          rw [show (xs == xs) = true by simp]
                          refine wpStill_nil ?_
                          have HB14 := Lib.hid (HB13.out.kept hks).1
                          have HL14 := Lib.hid (hks.block HL13.out)
                          clear hks hhs HB13 HL13 HSL cx S13
                          go_wp2
                          go_roundw
                          case rel => exact ⟨k + 1, hlt, by go_num, HL14, HB14⟩
                          case measure => simp [intOf]; omega
                        · have hk24'' : 24 ≤ k := by omega
                          have HK := Lib.hid HB.out.keeps
                          clear HL HB
                          go_wp2
                          go_ret
                          exact ⟨rfl, HK.out⟩
end
end Go.Proofs.Ytcbghpcohbgcjaa
