/- law04's bank: both banks laid, raw sectors written (gen_bank04.py). -/
import Derived.Test.YtglplhmclfekfaaFbA
import Derived.Test.YtglplhmclfekfaaFaA
import Derived.Test.YtglplhmclfekfaaFcA
namespace Go.Proofs.Ytglplhmclfekfaa
open Go.RowKit
set_option linter.unusedVariables false
set_option linter.unusedSimpArgs false

/-- a slice of sectors that comes in -/
def SSrc (w : World) (v : Value) (l : List (List Int)) : Prop := ∃ oa cap, v = .slice oa l.length cap ∧ l.length ≤ cap ∧ cap ≤ maxLen ∧ ∀ k (hk : k < l.length), ∃ b off, oa = some ⟨b, off, none⟩ ∧ Cells w b (off + k * 64) (u8s l[k]) ∧ l[k].length = 64 ∧ ∀ x ∈ l[k], IsByte x
theorem SSrc.at {w : World} {oa : Option Addr} {n cap : Nat} {l : List (List Int)} (h : SSrc w (.slice oa n cap) l) (k : Nat) (hk : k < l.length) : ∃ b off, oa = some ⟨b, off, none⟩ ∧ Cells w b (off + k * 64) (u8s l[k]) ∧ l[k].length = 64 ∧ ∀ x ∈ l[k], IsByte x := by
  obtain ⟨oa', cap', e, _, _, h⟩ := h
  cases e
  exact h k hk
theorem SSrc.nil (w : World) : SSrc w (.slice none 0 0) [] := ⟨none, 0, rfl, Nat.le_refl _, by decide, fun k hk => absurd hk (Nat.not_lt_zero _)⟩
section
variable {w0 W W' : World} {R : Nat → Prop} {qb qr : Nat} {T T' : BankT} {S S' : RT}
theorem rk_Write (h : RK w0 R W qr S) (c : S.Calm) {d a : Nat} (hd : d < S.l.length) (ha : a < (S.d d).new.length) (hmany : S.loose.length < 9000) {s : List Int} (hs : s.length = 64) :
    Calls Try.prog 107 #[.pointer (some ⟨qr, 0, none⟩), .agg #[.int .i64 (d : Int), .int .i64 (a : Int)], .agg (u8s s).toArray] W fun e w' => e = .returned (.int .i64 0) ∧ RK w0 R w' qr (S.put d a s) ∧ SameR R W w' := by
  obtain ⟨Y, rfl, hrd, hk, ho, hr⟩ := h
  refine (ref_Write_calm hrd c hd ha hmany hs).mono ?_
  rintro e w' ⟨he, Y', hd', h0, hin, hb⟩
  refine ⟨he, ⟨Y', h0, hd', But.to_kept hk hb ho, fun b hb' => ?_, fun k hk' => ⟨Nat.lt_of_lt_of_le (hr k hk').1 hb.size, fun hi => ?_⟩⟩, fun k hk' => hb.block k (hr k hk').1 (hr k hk').2⟩
  · rcases hin b hb' with h' | h'
    · exact ho b h'
    · exact Nat.le_trans hk.size h'
  · rcases hin k hi with h' | h'
    · exact (hr k hk').2 h'
    · have := (hr k hk').1; omega
end
/-- k disks of z sectors -/
def raddZ (z : Nat) : Nat → RT
  | 0 => RT.zero
  | k + 1 => (raddZ z k).add z
theorem raddZ_len (z k : Nat) : (raddZ z k).l.length = k := by
  induction k with
  | zero => rfl
  | succ k ih => rw [raddZ, RT.add_len, ih]
theorem raddZ_d (z k d : Nat) (h : d < k) : (raddZ z k).d d = RMed.fresh z := by
  induction k with
  | zero => omega
  | succ k ih =>
    rw [raddZ]
    by_cases e : d = k
    · have := RT.add_new (raddZ z k) z
      rw [raddZ_len] at this
      rw [e, this]
    · rw [RT.add_old _ _ (by rw [raddZ_len]; omega)]; exact ih (by omega)
theorem raddZ_rest (z k : Nat) : (raddZ z k).down = false ∧ (raddZ z k).armed = 0 ∧ (raddZ z k).n = 0 ∧ (raddZ z k).loose = [] := by
  induction k with
  | zero => exact ⟨rfl, rfl, rfl, rfl⟩
  | succ k ih => exact ih
theorem RMed.Ok.fresh {z : Nat} (hz : z ≤ 4096) : (RMed.fresh z).Ok := by
  have hb : ∀ s ∈ List.replicate z zeroB, s.length = 64 ∧ ∀ x ∈ s, IsByte x := fun s hs => by rw [List.eq_of_mem_replicate hs]; exact zeroB_byte
  exact ⟨⟨by simp [RMed.fresh], hb⟩, ⟨by simp [RMed.fresh], hb⟩, by simpa [RMed.fresh] using hz, ⟨Int.le_refl _, by show (0 : Int) < 9223372036854775808; decide⟩⟩
theorem RT.d_mem {T : RT} {m : RMed} (hm : m ∈ T.l) : ∃ k, k < T.l.length ∧ T.d k = m := by
  obtain ⟨k, hk, e⟩ := List.getElem_of_mem hm
  exact ⟨k, hk, by unfold RT.d; rw [List.getD_eq_getElem?_getD, List.getElem?_eq_getElem hk]; exact e⟩
/-- three calm disks of 200 sectors, of which at most k are loose -/
structure R3 (S : RT) (k : Nat) : Prop where
  calm : S.Calm
  len : S.l.length = 3
  sz : ∀ d, d < 3 → (S.d d).new.length = 200
  loose : S.loose.length ≤ k
  n : S.n ≤ k
theorem R3.start : R3 (raddZ 200 3) 0 := by
  obtain ⟨r1, r2, r3, r4⟩ := raddZ_rest 200 3
  have hl := raddZ_len 200 3
  have hd : ∀ d, d < 3 → (raddZ 200 3).d d = RMed.fresh 200 := fun d h => raddZ_d 200 3 d h
  refine ⟨⟨⟨by rw [hl]; decide, fun m hm => ?_, fun p hp => ?_, by rw [r4]; decide⟩, r1, r2, fun k hk => ?_, fun k hk => ?_, by rw [r3]; decide⟩, hl, fun d h => by rw [hd d h]; exact List.length_replicate, by rw [r4]; decide, by rw [r3]; decide⟩
  · obtain ⟨k, hk, e⟩ := RT.d_mem hm
    rw [← e, hd k (by rw [hl] at hk; exact hk)]; exact RMed.Ok.fresh (by decide)
  · rw [r4] at hp; cases hp
  · rw [hd k (by rw [hl] at hk; exact hk)]; rfl
  · rw [hd k (by rw [hl] at hk; exact hk)]; rfl
theorem R3.put {S : RT} {k : Nat} (h : R3 S k) (hk : k < 1000) {d a : Nat} (hd : d < 3) (ha : a < 200) {s : List Int} (hs : s.length = 64 ∧ ∀ x ∈ s, IsByte x) : R3 (S.put d a s) (k + 1) := by
  have hdl : d < S.l.length := by rw [h.len]; exact hd
  have hD : ∀ j, (S.put d a s).d j = if j = d then { S.d d with new := (S.d d).new.set a s } else S.d j := fun j => RT.d_up _ hdl j
  have hlen : (S.put d a s).l.length = 3 := by show (S.l.set d _).length = 3; rw [List.length_set]; exact h.len
  have hlo : (S.put d a s).loose = if (d, a) ∈ S.loose then S.loose else S.loose ++ [(d, a)] := rfl
  have hll : (S.put d a s).loose.length ≤ k + 1 := by
    rw [hlo]; have := h.loose
    split
    · omega
    · simp; omega
  have hsz : ∀ j, j < 3 → ((S.put d a s).d j).new.length = 200 := fun j hj => by
    rw [hD]; split
    · rw [List.length_set]; exact h.sz d hd
    · exact h.sz j hj
  have hn := h.n
  have hn0 := h.calm.n
  have hnn : (S.put d a s).n = S.n + 1 := rfl
  have okj : ∀ j, j < 3 → (S.d j).Ok := fun j hj => by
    unfold RT.d; rw [List.getD_eq_getElem?_getD, List.getElem?_eq_getElem (by rw [h.len]; exact hj)]; exact h.calm.ok.med _ (List.getElem_mem _)
  refine ⟨⟨⟨by rw [hlen]; decide, fun m hm => ?_, fun p hp => ?_, by omega⟩, h.calm.up, h.calm.arm, fun j hj => ?_, fun j hj => ?_, ⟨by rw [hnn]; omega, by rw [hnn]; omega⟩⟩, hlen, hsz, hll, by rw [hnn]; omega⟩
  · obtain ⟨j, hj, e⟩ := RT.d_mem hm
    rw [hlen] at hj
    rw [← e, hD]
    split
    · have o := okj d hd
      refine ⟨?_, ?_, by show ((S.d d).new.set a s).length ≤ 4096; rw [List.length_set]; exact o.len, o.fail⟩
      · show IsSecs ((S.d d).new.set a s).length (S.d d).flu
        rw [List.length_set]; exact o.flu
      · show IsSecs ((S.d d).new.set a s).length ((S.d d).new.set a s)
        rw [List.length_set]; exact o.new.set a hs
    · exact okj j hj
  · have hp' : p ∈ S.loose ∨ p = (d, a) := by
      rw [hlo] at hp
      split at hp
      · exact .inl hp
      · simpa using hp
    rw [hlen]
    rcases hp' with hp' | rfl
    · have := h.calm.ok.loose p hp'
      rw [h.len] at this
      exact ⟨this.1, by rw [hsz p.1 this.1]; have h2 := this.2; rw [h.sz p.1 this.1] at h2; exact h2⟩
    · exact ⟨hd, by rw [hsz d hd]; exact ha⟩
  · rw [hlen] at hj; rw [hD]; split
    · exact h.calm.dead d hdl
    · exact h.calm.dead j (by rw [h.len]; exact hj)
  · rw [hlen] at hj; rw [hD]; split
    · exact h.calm.fail d hdl
    · exact h.calm.fail j (by rw [h.len]; exact hj)
section
variable {w0 W : World} {R : Nat → Prop}
set_option maxHeartbeats 4000000
set_option maxRecDepth 100000
theorem law_bank (l : List (List Int)) (oa : Option Addr) (cap : Nat) (w0 W : World) (hs : SSrc w0 (.slice oa l.length cap) l) (hk : Kept w0 W) :
    Calls Try.prog 43 #[.slice none 0 0, .slice oa l.length cap] W fun e w' => ∃ qb qr T, e = .returned (.tuple #[.pointer (some ⟨qb, 0, none⟩), .pointer (some ⟨qr, 0, none⟩)]) ∧ BK w0 (fun _ => False) w' qb T ∧ Still T 3 200 ∧ T.clock ≤ 6 ∧ T.writes ≤ 6 ∧ (l = [] → ∀ c i : Nat, c < 3 → i < 200 → T.N c i = zeroB) := by
  have HSL := Lib.hid hs
  have HK := Lib.hid hk
  obtain ⟨hcap, hmax⟩ : l.length ≤ cap ∧ cap ≤ maxLen := by obtain ⟨_, _, e, h1, h2, _⟩ := hs; cases e; exact ⟨h1, h2⟩
  unfold maxLen at hmax
  clear hs hk
  go_enter Try.func43, Try.ntmps43
  go_wp2_with fail
  refine Calls.mono (bk_New w0 W (fun _ => False) HK.out (fun _ h => h.elim)) ?_
  rintro e w1 ⟨qb, rfl, hb, hk1⟩
  have HB1 := Lib.hid hb
  clear hb hk1
  go_wp2_with fail
  refine Calls.mono (br_New HB1.out) ?_
  rintro e w2 ⟨qr, rfl, hb⟩
  have HB2 := Lib.hid hb
  clear hb HB1
  go_wp2
  go_loopw [8] (fun i wr => ∃ k : Nat, k ≤ 3 ∧ i = .int .i64 k ∧ Hid (BR w0 (fun _ => False) wr qb (addZ 200 k) qr (raddZ 200 k))) (fun i _ => 3 - (intOf i).toNat)
  case atStart => exact ⟨0, Nat.zero_le _, rfl, HB2⟩
  case round =>
    obtain ⟨k, hk, rfl, HB⟩ := hrel
    by_cases hlt : k < 3
    · go_wp2_with fail
      refine Calls.mono (HB.out.opd (P := fun e => e = .returned (.tuple #[.int .i64 (k : Int), .int .i64 0])) (T' := addZ 200 (k + 1)) (fun R hb => (bk_Add hb (by rw [addZ_len]; omega) 200 (by decide) (by decide)).mono fun e w' ⟨h1, h2, h3⟩ => ⟨by rw [h1, addZ_len], h2, h3⟩)) ?_
      rintro e w3 ⟨rfl, hb, _⟩
      have HB3 := Lib.hid hb
      clear hb HB
      go_wp2_with fail
      refine Calls.mono (HB3.out.opr (P := fun e => e = .returned (.tuple #[.int .i64 (k : Int), .int .i64 0])) (S' := raddZ 200 (k + 1)) (fun R hb => (rk_Add hb (by rw [raddZ_len]; omega) 200 (by decide) (by decide)).mono fun e w' ⟨h1, h2, h3⟩ => ⟨by rw [h1, raddZ_len], h2, h3⟩)) ?_
      rintro e w4 ⟨rfl, hb, _⟩
      have HB4 := Lib.hid hb
      clear hb HB3
      go_wp2
      go_roundw
      case rel => exact ⟨k + 1, hlt, by go_num, HB4⟩
      case measure => simp [intOf]; omega
    · have hk3 : k = 3 := by omega
      subst hk3
      have HI : Hid (Still (addZ 200 3) 3 200) := Lib.hid (addZ_still (by decide) (by decide))
      have HR : Hid (R3 (raddZ 200 3) 0) := Lib.hid R3.start
      have HC : Hid ((addZ 200 3).clock ≤ 0 ∧ (addZ 200 3).writes ≤ 0) := Lib.hid ⟨Int.le_of_eq (addZ_rest 200 3).2.2.1, Int.le_of_eq (addZ_rest 200 3).2.2.2⟩
      have HZ0 : Hid (∀ c i : Nat, c < 3 → i < 200 → (addZ 200 3).N c i = zeroB) := Lib.hid fun c i hc hi => (addZ_at hc hi).2.1
      generalize addZ 200 3 = T0 at *
      generalize raddZ 200 3 = S0 at *
      clear HB2
      go_upto_block 2 with fail
      go_cut [] (fun wc => ∃ T, Hid (Still T 3 200) ∧ T.clock ≤ 6 ∧ T.writes ≤ 6 ∧ Hid (BK w0 (fun _ => False) wc qb T) ∧ Hid (l = [] → ∀ c i : Nat, c < 3 → i < 200 → T.N c i = zeroB))
      case first =>
        go_wp2
        go_loopw [9] (fun i wr => ∃ (k : Nat) (T : BankT) (S : RT), k ≤ l.length ∧ k ≤ 6 ∧ i = .int .i64 k ∧ T.clock ≤ k ∧ T.writes ≤ k ∧ Hid (Still T 3 200) ∧ Hid (R3 S k) ∧ Hid (BR w0 (fun _ => False) wr qb T qr S) ∧ Hid (k = 0 → ∀ c i : Nat, c < 3 → i < 200 → T.N c i = zeroB)) (fun i _ => 6 - (intOf i).toNat)
        case atStart => exact ⟨0, T0, S0, Nat.zero_le _, by decide, rfl, HC.out.1, HC.out.2, HI, HR, HB, Lib.hid (fun _ => HZ0.out)⟩
        case round =>
          obtain ⟨k, T, S, hk, hk6, rfl, hclk, hwri, HI, HR, HB, HZ⟩ := hrel
          by_cases hlt : k < l.length ∧ k < 6
          · obtain ⟨hlt, h6⟩ := hlt
            obtain ⟨rb, ro, rfl, hcl, hl64, hlby⟩ := HSL.out.at k hlt
            have hdm : ((k : Int) % 3) = ((k % 3 : Nat) : Int) := by omega
            have hdq : ((k : Int) / 3) = ((k / 3 : Nat) : Int) := by omega
            have hdqt : (k : Int).tdiv 3 = ((k / 3 : Nat) : Int) := by rw [Int.tdiv_eq_ediv_of_nonneg (by omega)]; exact hdq
            have hdmt : (k : Int).tmod 3 = ((k % 3 : Nat) : Int) := by rw [Int.tmod_eq_emod_of_nonneg (by omega)]; exact hdm
            have hd3 : k % 3 < 3 := by omega
            have ha2 : k / 3 < 200 := by omega
            generalize k % 3 = d at *
            generalize k / 3 = a at *
            generalize l[k] = s at *
            obtain ⟨T', e1, h1, c1, v1, _⟩ := HI.out.write hd3 ha2 ⟨hl64, hlby⟩
            have HE := Lib.hid e1; have HI' := Lib.hid h1
            have HR' := Lib.hid (HR.out.put (by omega) hd3 ha2 ⟨hl64, hlby⟩)
            have HU := Lib.hid (HI.out.live.use (by decide) (by omega) (by omega))
            have HL64 := Lib.hid hl64
            have HCL := Lib.hid hcl
            have HDL : Hid (d < S.l.length ∧ a < (S.d d).new.length ∧ S.loose.length < 9000) := Lib.hid ⟨by rw [HR.out.len]; exact hd3, by rw [HR.out.sz d hd3]; exact ha2, by have := HR.out.loose; omega⟩
            clear e1 h1 hl64 hlby hcl hd3 ha2
            go_wp2_with (refine stop_at (o := ⟨some 10, _, _, _, _, _⟩) ?_)
            refine Stop.mk ?_
            refine wpList_new_row rfl rfl _ _ rfl rfl ty_plc _ zero_plc rfl [.int .i64 (d : Int), .int .i64 (a : Int)] rfl rfl (one_plc _ _) rfl ?_
            intro w5 hz hs hk5
            have HB5 := Lib.hid (HB.out.box hk5 hs)
            have HP5 := Lib.hid (Pl.of hz.out)
            generalize wr.heap.size = Bp at *
            clear hz hs hk5 HB hdm hdq hdqt hdmt
            go_upto_region 14 with fail
            have hS : Pl w5.drew Bp (d : Int) (a : Int) ∧ Cells w5.drew rb (ro + k * 64) (u8s s) := ⟨HP5.out, Cells.kept HCL.out (HB5.out.keeps.trans (Kept.refl _).drew)⟩
            refine wp_region_calm ?_
            refine wp_region_E (fun W => Pl W Bp (d : Int) (a : Int) ∧ Cells W rb (ro + k * 64) (u8s s)) 100 (by kernel_rfl) ?_
            refine wpAnyE_take (i := 0) (v := ?_) (listed' := #[true, false, false, false, false, false, false]) (by rfl) (by kernel_rfl) (by kernel_rfl) calm_put hS (by rfl) ?_ ?_
            rotate_left
            · intro W hW; clear hW; go_simp; try (with_reducible rfl)
            simp only [Act.put, List.getElem_toArray, List.getElem_cons_succ, List.getElem_cons_zero, List.setIfInBounds_toArray, List.set_cons_zero, List.set_cons_succ]
            refine wpAnyE_take (i := 1) (v := ?_) (listed' := #[true, true, false, false, false, false, false]) (by rfl) (by kernel_rfl) (by kernel_rfl) calm_put hS (by rfl) ?_ ?_
            rotate_left
            · intro W hW; obtain ⟨⟨p0, p1⟩, _⟩ := hW; go_simp; try (with_reducible rfl)
            simp only [Act.put, List.getElem_toArray, List.getElem_cons_succ, List.getElem_cons_zero, List.setIfInBounds_toArray, List.set_cons_zero, List.set_cons_succ]
            refine wpAnyE_take (i := 2) (v := ?_) (listed' := #[true, true, true, false, false, false, false]) (by rfl) (by kernel_rfl) (by kernel_rfl) calm_put hS (by rfl) ?_ ?_
            rotate_left
            · intro W hW; clear hW; go_simp; try (with_reducible rfl)
            simp only [Act.put, List.getElem_toArray, List.getElem_cons_succ, List.getElem_cons_zero, List.setIfInBounds_toArray, List.set_cons_zero, List.set_cons_succ]
            refine wpAnyE_take (i := 3) (v := ?_) (listed' := #[true, true, true, true, false, false, false]) (by rfl) (by kernel_rfl) (by kernel_rfl) calm_put hS (by rfl) ?_ ?_
            rotate_left
            · intro W hW; clear hW; go_simp; try (with_reducible rfl)
            simp only [Act.put, List.getElem_toArray, List.getElem_cons_succ, List.getElem_cons_zero, List.setIfInBounds_toArray, List.set_cons_zero, List.set_cons_succ]
            refine wpAnyE_take (i := 4) (v := ?_) (listed' := #[true, true, true, true, true, false, false]) (by rfl) (by kernel_rfl) (by kernel_rfl) calm_put hS (by rfl) ?_ ?_
            rotate_left
            · intro W hW; clear hW; go_simp; try (with_reducible rfl)
            simp only [Act.put, List.getElem_toArray, List.getElem_cons_succ, List.getElem_cons_zero, List.setIfInBounds_toArray, List.set_cons_zero, List.set_cons_succ]
            refine wpAnyE_take (i := 5) (v := .agg (u8s s).toArray) (listed' := #[true, true, true, true, true, true, false]) (by rfl) (by kernel_rfl) (by kernel_rfl) calm_put hS (by rfl) ?_ ?_
            · intro W hW; have hW5 := hW.2; exact exec_load_secO _ rfl rb (ro + k * 64) rfl s HL64.out hW5
            simp only [Act.put, List.getElem_toArray, List.getElem_cons_succ, List.getElem_cons_zero, List.setIfInBounds_toArray, List.set_cons_zero, List.set_cons_succ]
            refine wpAnyE_one (i := 6) (listed' := #[true, true, true, true, true, true, true]) (by rfl) (by kernel_rfl) (by kernel_rfl) (by rfl) (fun K hK => ?_)
            simp only [Act.put, List.getElem_toArray, List.getElem_cons_succ, List.getElem_cons_zero, List.setIfInBounds_toArray, List.set_cons_zero, List.set_cons_succ]
            go_wp2_with fail
            refine Calls.mono ((HB5.out.kept (Kept.refl _).drew).opd (P := fun e => e = .returned (.int .i64 0)) (T' := T') (fun R hb => st_writeE hb HU.out (d : Int) (a : Int) (s := s) HL64.out HE.out)) ?_
            rintro e w6 ⟨rfl, hb, hr⟩
            have hS := (⟨hS.1.same (hr Bp (.inr rfl)), Cells.kept HCL.out hb.keeps⟩ : _ ∧ _)
            have HB6 := Lib.hid hb
            clear hb hr
            refine hK _ _ (fun _ => hS) ?_; clear hK K
            refine wpAnyE_done (by kernel_rfl) ?_ _
            refine calm_normal ?_
            clear HB5 HP5 HE HU
            go_upto_region 15 with fail
            replace hS : Pl w6.drew Bp (d : Int) (a : Int) ∧ Cells w6.drew rb (ro + k * 64) (u8s s) := hS
            refine wp_region_calm ?_
            refine wp_region_E (fun W => Pl W Bp (d : Int) (a : Int) ∧ Cells W rb (ro + k * 64) (u8s s)) 100 (by kernel_rfl) ?_
            refine wpAnyE_take (i := 0) (v := ?_) (listed' := #[true, false, false, false, false, false, false]) (by rfl) (by kernel_rfl) (by kernel_rfl) calm_put hS (by rfl) ?_ ?_
            rotate_left
            · intro W hW; clear hW; go_simp; try (with_reducible rfl)
            simp only [Act.put, List.getElem_toArray, List.getElem_cons_succ, List.getElem_cons_zero, List.setIfInBounds_toArray, List.set_cons_zero, List.set_cons_succ]
            refine wpAnyE_take (i := 1) (v := ?_) (listed' := #[true, true, false, false, false, false, false]) (by rfl) (by kernel_rfl) (by kernel_rfl) calm_put hS (by rfl) ?_ ?_
            rotate_left
            · intro W hW; obtain ⟨⟨p0, p1⟩, _⟩ := hW; go_simp; try (with_reducible rfl)
            simp only [Act.put, List.getElem_toArray, List.getElem_cons_succ, List.getElem_cons_zero, List.setIfInBounds_toArray, List.set_cons_zero, List.set_cons_succ]
            refine wpAnyE_take (i := 2) (v := ?_) (listed' := #[true, true, true, false, false, false, false]) (by rfl) (by kernel_rfl) (by kernel_rfl) calm_put hS (by rfl) ?_ ?_
            rotate_left
            · intro W hW; clear hW; go_simp; try (with_reducible rfl)
            simp only [Act.put, List.getElem_toArray, List.getElem_cons_succ, List.getElem_cons_zero, List.setIfInBounds_toArray, List.set_cons_zero, List.set_cons_succ]
            refine wpAnyE_take (i := 3) (v := ?_) (listed' := #[true, true, true, true, false, false, false]) (by rfl) (by kernel_rfl) (by kernel_rfl) calm_put hS (by rfl) ?_ ?_
            rotate_left
            · intro W hW; clear hW; go_simp; try (with_reducible rfl)
            simp only [Act.put, List.getElem_toArray, List.getElem_cons_succ, List.getElem_cons_zero, List.setIfInBounds_toArray, List.set_cons_zero, List.set_cons_succ]
            refine wpAnyE_take (i := 4) (v := ?_) (listed' := #[true, true, true, true, true, false, false]) (by rfl) (by kernel_rfl) (by kernel_rfl) calm_put hS (by rfl) ?_ ?_
            rotate_left
            · intro W hW; clear hW; go_simp; try (with_reducible rfl)
            simp only [Act.put, List.getElem_toArray, List.getElem_cons_succ, List.getElem_cons_zero, List.setIfInBounds_toArray, List.set_cons_zero, List.set_cons_succ]
            refine wpAnyE_take (i := 5) (v := .agg (u8s s).toArray) (listed' := #[true, true, true, true, true, true, false]) (by rfl) (by kernel_rfl) (by kernel_rfl) calm_put hS (by rfl) ?_ ?_
            · intro W hW; have hW5 := hW.2; exact exec_load_secO _ rfl rb (ro + k * 64) rfl s HL64.out hW5
            simp only [Act.put, List.getElem_toArray, List.getElem_cons_succ, List.getElem_cons_zero, List.setIfInBounds_toArray, List.set_cons_zero, List.set_cons_succ]
            refine wpAnyE_one (i := 6) (listed' := #[true, true, true, true, true, true, true]) (by rfl) (by kernel_rfl) (by kernel_rfl) (by rfl) (fun K hK => ?_)
            simp only [Act.put, List.getElem_toArray, List.getElem_cons_succ, List.getElem_cons_zero, List.setIfInBounds_toArray, List.set_cons_zero, List.set_cons_succ]
            go_wp2_with fail
            refine Calls.mono ((HB6.out.kept (Kept.refl _).drew).opr (P := fun e => e = .returned (.int .i64 0)) (S' := S.put d a s) (fun R hb => rk_Write hb HR.out.calm HDL.out.1 HDL.out.2.1 HDL.out.2.2 HL64.out)) ?_
            rintro e w7 ⟨rfl, hb, hr⟩
            have hS := (⟨hS.1.same (hr Bp (.inr rfl)), Cells.kept HCL.out hb.keeps⟩ : _ ∧ _)
            have HB7 := Lib.hid (hb.less (R' := fun _ => False) (fun _ h => h.elim))
            clear hb hr
            refine hK _ _ (fun _ => hS) ?_; clear hK K
            refine wpAnyE_done (by kernel_rfl) ?_ _
            refine calm_normal ?_
            clear HB6 hS
            go_wp2
            go_roundw
            case rel => exact ⟨k + 1, T', _, hlt, h6, by go_num, by omega, by omega, HI', HR', HB7, Lib.hid (fun h => absurd h (Nat.succ_ne_zero _))⟩
            case measure => simp [intOf]; omega
          · have HZE : Hid (l = [] → ∀ c i : Nat, c < 3 → i < 200 → T.N c i = zeroB) := Lib.hid fun h => HZ.out (by rw [h] at hk; simpa using hk)
            have hkk : l.length ≤ k ∨ (k < l.length ∧ 6 ≤ k) := by omega
            have HBD := Lib.hid HB.out.disk
            have hc6 : T.clock ≤ 6 := by omega
            have hw6 : T.writes ≤ 6 := by omega
            clear hlt hclk hwri HB HR HZ
            rcases hkk with hkk | ⟨hkk, h6⟩
            all_goals
              go_wp2
              go_meet
              case rel => exact ⟨T, HI, hc6, hw6, HBD, HZE⟩
      case rest =>
        obtain ⟨T, HI, hc6, hw6, HB, HZE⟩ := hcut
        go_wp2
        refine wp_loop_rounds 1 ?_
        rw [rounds_succ]
        go_wp2
        go_ret2
        exact ⟨qb, qr, T, rfl, HB.out, HI.out, hc6, hw6, HZE.out⟩
end
end Go.Proofs.Ytglplhmclfekfaa
