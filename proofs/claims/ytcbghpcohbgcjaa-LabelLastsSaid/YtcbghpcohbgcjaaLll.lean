/- LabelLasts: the plain part and the walk. -/
import Derived.Test.YtcbghpcohbgcjaaLabV
namespace Go.Proofs.Ytcbghpcohbgcjaa
open Go.RowKit
set_option linter.unusedVariables false
set_option linter.unusedSimpArgs false

theorem Still.re {T : BankT} {n z : Nat} (h : Still T n z) {x m : Int} (hx : 0 ≤ x) (hm : 0 ≤ m ∧ m < 18446744073709551616) : Still (T.re x 0 m) n z :=
  ⟨⟨⟨h.inv.ok, h.inv.clk, hx, ⟨Int.le_refl _, by show (0 : Int) < 9223372036854775808; decide⟩, hm, h.inv.top, h.inv.uniq⟩, h.len, h.sz⟩, h.up, rfl, h.dead, h.fail⟩
theorem re_tick {T : BankT} {n z : Nat} (h : Still T n z) (x k m : Int) (hk : 0 < k) : (T.re x k m).tick = if k = 1 then ((T.re (x + 1) 0 m).crash m, false) else (T.re (x + 1) (k - 1) m, true) := by
  have e : (T.re x k m).tickTo (T.re x k m).l.length = T.re (x + 1) k m := tickTo_calm (T := T.re x k m) (fun d hd => h.fail d (by rw [← h.len]; exact hd)) (Nat.le_refl _)
  unfold BankT.tick
  rw [if_neg (show ¬ (T.re x k m).down = true by show ¬ T.down = true; rw [h.up]; decide), e, if_pos (show 0 < (T.re (x + 1) k m).armed from hk)]
  by_cases h1 : k = 1
  · subst h1; rfl
  · rw [if_neg (show ¬ (T.re (x + 1) k m).armed = 1 from h1), if_neg h1]; rfl
theorem re_hit {T : BankT} {n z : Nat} (h : Still T n z) (x m d b : Int) (s : List Int) : (T.re x 1 m).write d b s = ((T.re (x + 1) 0 m).crash m, 6) := by
  unfold BankT.write
  rw [re_tick h x 1 m (by decide)]; rfl
theorem re_miss {T : BankT} {n z : Nat} (h : Still T n z) (x m : Int) {d b : Nat} (hd : d < n) (hb : b < z) (s : List Int) : (T.re x 2 m).write (d : Int) (b : Int) s = ((T.put d b s).re (x + 1) 1 m, 0) := by
  unfold BankT.write
  rw [re_tick h x 2 m (by decide)]
  have hin : (T.re (x + 1) 1 m).inE (d : Int) (b : Int) = 0 := BankT.inE_in (h.ready hd) (show b < (T.d d).sin.length by rw [h.sz d hd]; exact hb)
  have h2 : ((2 : Int) - 1) = 1 := rfl
  simp only [show ¬ ((2 : Int) = 1) by decide, if_false, h2, Bool.true_eq_false, hin, if_true, Int.toNat_natCast]
  rw [re_put]
theorem arm_re (T : BankT) (n mask : Int) (hn : 0 ≤ n) : T.arm n mask = T.re T.writes n mask := by
  unfold BankT.arm BankT.re; rw [show max n 0 = n by omega]
theorem load_one {U : BankT} (h : Still U 3 200) {x : Lab} (hx : rightB x = true) (mx : x.member = 1) {p q : Nat} (hpq : p = 0 ∧ q = 1 ∨ p = 1 ∧ q = 0) (n1 : U.N 1 p = x.sec) (n2 : U.N 1 q = zeroB) : U.loadL 1 = (x, 0) := by
  have e := load_two h (d := 1) (by decide)
  rw [show ((1 : Nat) : Int) = 1 from rfl] at e
  rw [e]
  rcases hpq with ⟨rfl, rfl⟩ | ⟨rfl, rfl⟩
  · rw [n1, n2, cand_lab hx, cand_zero, if_pos mx]; rfl
  · rw [n1, n2, cand_lab hx, cand_zero, if_pos mx]; rfl
theorem load_pair {U : BankT} (h : Still U 3 200) {x y : Lab} (hx : rightB x = true) (mx : x.member = 1) (hy : rightB y = true) (my : y.member = 1) (hg : x.gen < y.gen) {p q : Nat} (hpq : p = 0 ∧ q = 1 ∨ p = 1 ∧ q = 0) (n1 : U.N 1 p = x.sec) (n2 : U.N 1 q = y.sec) : U.loadL 1 = (y, 0) := by
  have e := load_two h (d := 1) (by decide)
  rw [show ((1 : Nat) : Int) = 1 from rfl] at e
  rw [e]
  rcases hpq with ⟨rfl, rfl⟩ | ⟨rfl, rfl⟩
  · rw [n1, n2, cand_lab hx, cand_lab hy, if_pos mx, if_pos my]
    show ((if x.gen < y.gen then y else x), (0 : Int)) = _
    rw [if_pos hg]
  · rw [n1, n2, cand_lab hx, cand_lab hy, if_pos mx, if_pos my]
    show ((if y.gen < x.gen then x else y), (0 : Int)) = _
    rw [if_neg (by omega)]
theorem lab_sec_ok {l : Lab} (h : rightB l = true) : l.sec.length = 64 ∧ ∀ b ∈ l.sec, IsByte b := ⟨sec64 h, sec_bytes l⟩
/-- a bank on which one label lies, and nothing of its disk is loose -/
structure Laid1 (T : BankT) (x : Lab) (p q : Nat) : Prop where
  st : Still T 3 200
  clk : T.clock ≤ 100
  wri : T.writes ≤ 100
  new : T.N 1 p = x.sec
  oth : T.N 1 q = zeroB
  idle : ∀ k, k < 200 → T.S 1 k = 0
theorem gen_mod {l : Lab} {g : Nat} (hg : l.gen = (g : Int)) : l.gen.tmod 2 = ((g % 2 : Nat) : Int) := by
  rw [hg, Int.tmod_eq_emod_of_nonneg (by omega)]; rfl
theorem flush_idle {T T' : BankT} (s1 : Still T 3 200) (r2 : ∀ c k, k < 200 → T'.F c k = (if c = 1 ∧ 0 < T.S c k then T.N c k else T.F c k) ∧ T'.N c k = T.N c k ∧ T'.S c k = (if c = 1 ∧ 0 < T.S c k then 0 else T.S c k)) : ∀ k, k < 200 → T'.S 1 k = 0 := fun k hk => by
  have n0 := BankT.S_nonneg s1.inv 1 k
  rw [(r2 1 k hk).2.2]
  by_cases p : 0 < T.S 1 k
  · rw [if_pos ⟨rfl, p⟩]
  · rw [if_neg (fun h => p h.2)]; omega
theorem lasts_one {T : BankT} (h : Still T 3 200) (hc : T.clock ≤ 6) (hw : T.writes ≤ 6) (hz : ∀ c i : Nat, c < 3 → i < 200 → T.N c i = zeroB) {x : Lab} (hx : rightB x = true) (mx : x.member = 1) {g : Nat} (hg : x.gen = (g : Int)) :
    ∃ T1, T.saveL x = (T1, 0) ∧ T.Use ∧ (T.write x.member (x.gen.tmod 2) x.sec).1.Use ∧ Laid1 T1 x (g % 2) ((g + 1) % 2) := by
  have hp : g % 2 < 200 := by omega
  obtain ⟨V, e1, s1, c1, w1, r1⟩ := h.write (d := 1) (a := g % 2) (by decide) hp (lab_sec_ok hx)
  obtain ⟨T1, e2, s2, c2, w2, r2⟩ := s1.flush (d := 1) (by decide)
  rw [show ((1 : Nat) : Int) = 1 from rfl] at e1 e2
  have ew : T.write x.member (x.gen.tmod 2) x.sec = (V, 0) := by rw [mx, gen_mod hg]; exact e1
  refine ⟨T1, ?_, h.live.use (by decide) (by omega) (by omega), by rw [ew]; exact s1.live.use (by decide) (by omega) (by omega), ⟨s2, by omega, by omega, ?_, ?_, flush_idle s1 r2⟩⟩
  · unfold BankT.saveL
    rw [ew, mx]
    exact e2
  · rw [(r2 1 _ hp).2.1, (r1 1 _).2.1, if_pos ⟨rfl, rfl⟩]
  · have hq : (g + 1) % 2 < 200 := by omega
    rw [(r2 1 _ hq).2.1, (r1 1 _).2.1, if_neg (fun h => by have := h.2; omega)]
    exact hz 1 _ (by decide) hq
theorem re_use {T : BankT} {x : Lab} {p q : Nat} (h : Laid1 T x p q) {n mask : Int} (hn : n = 1 ∨ n = 2) (hm : 0 ≤ mask ∧ mask < 18446744073709551616) (d a : Int) {s : List Int} (hs : s.length = 64 ∧ ∀ b ∈ s, IsByte b) :
    (T.arm n mask).Use ∧ ((T.arm n mask).write d a s).1.Use := by
  have hwr := h.st.inv.wr
  have hc := h.clk
  have hw := h.wri
  rw [arm_re T n mask (by omega)]
  have hi : (T.re T.writes n mask).Inv := re_inv h.st.inv hwr (by omega) hm
  obtain ⟨r1, r2, r3⟩ := BankT.write_rest hi.ok d a s
  have k1 : (T.re T.writes n mask).clock = T.clock := rfl
  have k2 : (T.re T.writes n mask).writes = T.writes := rfl
  exact ⟨⟨hi, by show T.l.length ≠ 0; rw [h.st.len]; decide, by omega, by omega⟩, ⟨hi.write d a hs, by rw [r1]; show T.l.length ≠ 0; rw [h.st.len]; decide, by omega, by omega⟩⟩
/-- power fails at the write -/
theorem lasts_hit {T : BankT} {x : Lab} {p q : Nat} (h : Laid1 T x p q) (hpq : p = 0 ∧ q = 1 ∨ p = 1 ∧ q = 0) (hx : rightB x = true) (mx : x.member = 1) {mask : Int} (hm : 0 ≤ mask ∧ mask < 18446744073709551616) (y : Lab) :
    ∃ T2, (T.arm 1 mask).saveL y = (T2, 6) ∧ T2.down = true ∧ T2.start.Use ∧ T2.start.loadL 1 = (x, 0) := by
  have hwr := h.st.inv.wr
  have hc := h.clk
  have hw := h.wri
  have hA : Still (T.re (T.writes + 1) 0 mask) 3 200 := h.st.re (by omega) hm
  obtain ⟨k1, k2, k3, k4, k5⟩ := hA.crash mask
  have hN : ∀ k, k < 200 → ((T.re (T.writes + 1) 0 mask).crash mask).start.N 1 k = T.N 1 k := fun k hk =>
    (BankT.crash_still hA.inv hA.up mask (c := 1) (k := k) (fun hmem => by
      have := (BankT.order_iff hA.toShape (show 1 < 3 by decide) hk).1 hmem
      have e : (T.re (T.writes + 1) 0 mask).S 1 k = T.S 1 k := rfl
      have := h.idle k hk
      omega)).2.1
  refine ⟨_, ?_, k5, k1.live.use (by decide) (by show ((T.re (T.writes + 1) 0 mask).crash mask).clock < _; rw [k2]; show T.clock < _; omega) (by show ((T.re (T.writes + 1) 0 mask).crash mask).writes < _; rw [k3]; show T.writes + 1 < _; omega), load_one k1 hx mx hpq ?_ ?_⟩
  · unfold BankT.saveL
    rw [arm_re T 1 mask (by decide), re_hit h.st, if_pos (show (6 : Int) ≠ 0 by decide)]
  · rw [hN p (by omega)]; exact h.new
  · rw [hN q (by omega)]; exact h.oth
/-- power fails behind it -/
theorem lasts_miss {T : BankT} {x : Lab} {p q : Nat} (h : Laid1 T x p q) (hpq : p = 0 ∧ q = 1 ∨ p = 1 ∧ q = 0) (hx : rightB x = true) (mx : x.member = 1) {mask : Int} (hm : 0 ≤ mask ∧ mask < 18446744073709551616) {y : Lab} (hy : rightB y = true) (my : y.member = 1) (hg : x.gen < y.gen) (hq : y.gen.tmod 2 = (q : Int)) :
    ∃ T2, (T.arm 2 mask).saveL y = (T2, 0) ∧ T2.down = false ∧ T2.Use ∧ (T2.crash mask).start.Use ∧ (T2.crash mask).start.loadL 1 = (y, 0) := by
  have hwr := h.st.inv.wr
  have hc := h.clk
  have hw := h.wri
  have hq2 : q < 200 := by omega
  have hP : Still (T.put 1 q y.sec) 3 200 := h.st.put (by decide) hq2 (lab_sec_ok hy)
  have hcl : (T.put 1 q y.sec).clock ≤ T.clock + 1 := by rw [BankT.put_clock]; split <;> omega
  obtain ⟨F, e2, s2, c2, w2, r2⟩ := hP.flush (d := 1) (by decide)
  rw [show ((1 : Nat) : Int) = 1 from rfl] at e2
  obtain ⟨k1, k2, k3, k4, k5⟩ := s2.crash mask
  have hi : (F.re (T.writes + 1) 1 mask).Inv := re_inv s2.inv (by omega) (by omega) hm
  have hat := fun k => BankT.put_at h.st.inv.ok (d := 1) (a := q) (by rw [h.st.len]; decide) (by rw [h.st.sz 1 (by decide)]; exact hq2) y.sec 1 k
  have hN : ∀ k, k < 200 → (F.crash mask).start.N 1 k = if k = q then y.sec else T.N 1 k := fun k hk => by
    have e1 := (BankT.crash_still s2.inv s2.up mask (c := 1) (k := k) (fun hmem => by
      have := (BankT.order_iff s2.toShape (show 1 < 3 by decide) hk).1 hmem
      have := flush_idle hP r2 k hk
      omega)).2.1
    show (F.crash mask).N 1 k = _
    rw [e1, (r2 1 k hk).2.1, (hat k).2.1]
    by_cases e : k = q
    · rw [if_pos ⟨rfl, e⟩, if_pos e]
    · rw [if_neg (fun h => e h.2), if_neg e]
  have hcr : ((F.re (T.writes + 1) 1 mask).crash mask).start = (F.crash mask).start.re (T.writes + 1) 0 mask := by rw [re_crash _ _ _ s2.up]; rfl
  refine ⟨F.re (T.writes + 1) 1 mask, ?_, s2.up, ⟨hi, by show F.l.length ≠ 0; rw [s2.len]; decide, by show F.clock < _; omega, by show T.writes + 1 < _; omega⟩, ?_, ?_⟩
  · have e1 := re_miss h.st T.writes mask (d := 1) (b := q) (by decide) hq2 y.sec
    rw [show ((1 : Nat) : Int) = 1 from rfl] at e1
    unfold BankT.saveL
    rw [arm_re T 2 mask (by decide), my, hq, e1]
    simp only []
    rw [if_neg (fun h => h rfl), re_flushC, e2]
  · rw [hcr]
    exact (k1.re (by omega) hm).live.use (by decide) (by show (F.crash mask).clock < _; omega) (by show T.writes + 1 < _; omega)
  · rw [hcr]
    exact load_pair k1 hx mx hy my hg hpq (by rw [hN p (by omega), if_neg (by omega)]; exact h.new) (by rw [hN q hq2, if_pos rfl])
def lastL (g b : Int) : Lab := ⟨9, g, 1, b, plainMs⟩
theorem last_right (g b : Nat) (h1 : 1 ≤ g) (h2 : g ≤ 4294967295) (h3 : 1 ≤ b) (h4 : b ≤ 96) : rightB (lastL (g : Int) (b : Int)) = true := by
  have e1 : inB (g : Int) 1 4294967295 = true := by simp [inB]; omega
  have e2 : inB (b : Int) 1 96 = true := by simp [inB]; omega
  unfold rightB headB
  show ((inB 9 0 4294967295 && (inB (g : Int) 1 4294967295 && (inB (b : Int) 1 96 && _))) && _) = true
  rw [e1, e2]
  rfl
section
set_option maxHeartbeats 2000000
set_option maxRecDepth 100000
/-- Same, of labels of two generations -/
theorem unlike_labels (l k : Lab) (s1 s2 : Value) (w : World) (h1 : MSl w s1 l.ms) (h2 : MSl w s2 k.ms) (ha : l.array = k.array) (hg : (l.gen == k.gen) = false) :
    Calls Try.prog 46 #[l.val s1, k.val s2] w fun e w' => e = .returned (.bool false) ∧ Kept w w' := by
  obtain ⟨array, gen, member, blocks, ms⟩ := l
  obtain ⟨array2, gen2, member2, blocks2, ms2⟩ := k
  have ha' : array = array2 := ha
  subst ha'
  have hg' : (gen == gen2) = false := hg
  simp only [Lab.val]
  obtain ⟨o1, c1, rfl⟩ := h1.form
  obtain ⟨o2, c2, rfl⟩ := h2.form
  clear h1 h2 hg ha
  go_enter Try.func46, Try.ntmps46
  go_wp2_with fail
  go_ret
  exact ⟨rfl, ((Kept.refl w).alloc _).alloc _⟩
end
section
variable {w W : World}
set_option maxHeartbeats 4000000
set_option maxRecDepth 100000
theorem law_lasts4 (a0 c0 r0 m0 : Int) (w : World) (hm0 : 0 ≤ m0 ∧ m0 < 18446744073709551616) :
    Calls Try.prog 14 #[.int .i64 a0, .int .i64 c0, .int .i64 r0, .int .u64 m0] w fun e w' => e = .returned (.bool true) ∧ Kept w w' := by
  obtain ⟨ya, hya, hyal⟩ := and_low a0 28 (by decide) (m := 268435455) (by decide)
  have hyal' : ya < 268435456 := hyal
  obtain ⟨yb, hyb, hybl⟩ := and_low c0 6 (by decide) (m := 63) (by decide)
  have hybl' : yb < 64 := hybl
  obtain ⟨c6, hc6⟩ : ∃ c6 : Int, c0 / 64 = c6 := ⟨_, rfl⟩
  obtain ⟨yc, hyc, hycl⟩ := and_low c6 6 (by decide) (m := 63) (by decide)
  have hycl' : yc < 64 := hycl
  obtain ⟨yr, hyr, hyrl⟩ := and_low r0 1 (by decide) (m := 1) (by decide)
  have hyrl' : yr < 2 := hyrl
  obtain ⟨gx, hgx, hgx1, hgx2⟩ : ∃ g : Nat, (1 : Int) + (ya : Int) = (g : Int) ∧ 1 ≤ g ∧ g ≤ 268435456 := ⟨1 + ya, by omega, by omega, by omega⟩
  obtain ⟨gy, hgy, hgy1⟩ : ∃ g : Nat, (gx : Int) + 1 = (g : Int) ∧ g = gx + 1 := ⟨gx + 1, by omega, rfl⟩
  obtain ⟨bx1, hbx, hbx1, hbx2⟩ : ∃ g : Nat, (1 : Int) + (yb : Int) = (g : Int) ∧ 1 ≤ g ∧ g ≤ 64 := ⟨1 + yb, by omega, by omega, by omega⟩
  obtain ⟨by1, hby, hby1, hby2⟩ : ∃ g : Nat, (1 : Int) + (yc : Int) = (g : Int) ∧ 1 ≤ g ∧ g ≤ 64 := ⟨1 + yc, by omega, by omega, by omega⟩
  obtain ⟨na, hna, hna1⟩ : ∃ n : Int, (1 : Int) + (yr : Int) = n ∧ (n = 1 ∨ n = 2) := ⟨_, rfl, by omega⟩
  have HNA := Lib.hid hna1; have HM0 := Lib.hid hm0
  have HRX := Lib.hid (last_right gx bx1 (by omega) (by omega) (by omega) (by omega))
  have HRY := Lib.hid (last_right gy by1 (by omega) (by omega) (by omega) (by omega))
  have HGL : Hid ((gx : Int) < (gy : Int)) := Lib.hid (by omega)
  have HGM := Lib.hid hgy1
  have HPQ : Hid (gx % 2 = 0 ∧ (gx + 1) % 2 = 1 ∨ gx % 2 = 1 ∧ (gx + 1) % 2 = 0) := Lib.hid (by omega)
  have HSH := Lib.hid (law_shown w)
  clear hyal hybl hycl hyrl hgy1 hna1 hm0 hbx1 hby1 hgx1
  go_enter Try.func14, Try.ntmps14
  go_wp2_with fail
  refine Calls.mono HSH.out ?_
  rintro e w1 ⟨rfl, hk1⟩
  have HL : Hid (Calls Try.prog 40 #[.slice none 0 0, .slice none 0 0] w1 fun e w' => ∃ qb qr T, e = .returned (.tuple #[.pointer (some ⟨qb, 0, none⟩), .pointer (some ⟨qr, 0, none⟩)]) ∧ BK w (fun _ => False) w' qb T ∧ Still T 3 200 ∧ T.clock ≤ 6 ∧ T.writes ≤ 6 ∧ ∀ c i : Nat, c < 3 → i < 200 → T.N c i = zeroB) := Lib.hid ((law_bank [] none 0 w w1 (SSrc.nil w) hk1).mono fun e w' ⟨qb, qr, T, h1, h2, h3, h4, h5, h6⟩ => ⟨qb, qr, T, h1, h2, h3, h4, h5, h6 rfl⟩)
  clear hk1 HSH
  go_wp2_with fail
  refine Calls.mono HL.out ?_
  rintro e w2 ⟨qb, qr, T, rfl, hb, hst, hcl, hwr, hze⟩
  have HB2 := Lib.hid hb
  obtain ⟨T1, e1, u0, u1, d1⟩ := lasts_one hst hcl hwr hze HRX.out rfl (g := gx) rfl
  have HE1 := Lib.hid e1; have HU0 := Lib.hid u0; have HU1 := Lib.hid u1; have HD1 := Lib.hid d1
  clear hb hst hcl hwr hze HL e1 u0 u1 d1
  go_wp2_with fail
  try simp only [hgx]
  refine Calls.mono (law_plain_own (gx : Int) 1 w2) ?_
  rintro e w3 ⟨sx, bx, rfl, hm, hox, hb1, hb2, hk⟩
  have HOX := Lib.hid hox; have HMX3 := Lib.hid hm; have HB3 := Lib.hid (HB2.out.more hk bx hb1 hb2)
  clear hm hk HB2 hgx hya hox hb1
  go_wp2_with (refine stop_at (o := ⟨some 12, _, _, _, _, _⟩) ?_)
  refine Stop.mk ?_
  refine wpList_new_row rfl rfl _ _ rfl rfl ty_lab [.int .i64 0, .int .i64 0, .int .i64 0, .int .i64 0, .slice none 0 0] zero_lab rfl (Lab.vals (plainL (gx : Int) 1) sx) rfl rfl (lab_one _ _ HMX3.out.one) rfl ?_
  intro w4 hz hs hk
  have HX4 := hz
  have HMX4 := Lib.hid (HMX3.out.kept hk)
  have HB4 := Lib.hid (HB3.out.box hk hs)
  have HBX := Lib.hid hb2; have HWX := Lib.hid HB3.out.keeps.size; have HXL := Lib.hid hs
  generalize w3.heap.size = X at *
  clear hz hs hk HMX3 HB3 hb2
  go_wp2_with (refine stop_at (o := ⟨none, .store _ _ _, _, _, _, _⟩) ?_)
  refine Stop.mk ?_
  try simp only [hbx]
  refine wpList_set_cell rfl _ _ rfl size_int X 3 rfl (.int .i64 (bx1 : Int)) (by first | rfl | (simp only [hbx]; rfl) | simp [hbx]) rfl rfl _ _ HX4.out (by show 3 < 5; decide) ?_
  intro w5 hw
  have HX5 := Lib.hid (show w5.heap[X]? = some (.cells (Lab.vals (lastL (gx : Int) (bx1 : Int)) sx).toArray 71 (0, 0)) from hw.blk)
  have HMX5 := Lib.hid (HMX4.out.same fun b hb => hw.oth b (by have h := HOX.out.symm.trans hb; injection h with h; have := HBX.out; omega))
  have HB5 := Lib.hid (HB4.out.wrote hw (.inr rfl) HWX.out)
  have HXL5 := Lib.hid (Nat.lt_of_lt_of_eq HXL.out hw.size.symm)
  clear hw HX4 HMX4 HB4 HXL hbx hyb
  go_wp2_with (refine stop_at (o := ⟨some 38, _, _, _, _, _⟩) ?_)
  refine Stop.mk ?_
  refine wpList_load_agg rfl _ rfl ty_lab X 0 rfl (Lab.vals (lastL (gx : Int) (bx1 : Int)) sx) (by simpa using Cells.of_block HX5.out) rfl ?_
  go_wp2_with (refine stop_at (o := ⟨some 13, _, _, _, _, _⟩) ?_)
  refine Stop.mk ?_
  refine wpList_new_row rfl rfl _ _ rfl rfl ty_lab [.int .i64 0, .int .i64 0, .int .i64 0, .int .i64 0, .slice none 0 0] zero_lab rfl (Lab.vals (lastL (gx : Int) (bx1 : Int)) sx) rfl rfl (lab_one _ _ HMX5.out.one) rfl ?_
  intro w6 hz hs hk
  have HY6 := hz
  have HX6 := Lib.hid (hk.block HX5.out)
  have HMX6 := Lib.hid (HMX5.out.kept hk)
  have HB6 := Lib.hid (HB5.out.box hk hs)
  have py : w6.cell? ⟨w5.heap.size, 1, none⟩ = some (.int .i64 (gx : Int)) := cell_of_row _ _ 1 _ _ _ hz.out
  have HXY := HXL5
  generalize w5.heap.size = Y at *
  clear hz hs hk HX5 HMX5 HB5 HXL5
  go_wp2_with (refine stop_at (o := ⟨none, .store _ _ _, _, _, _, _⟩) ?_)
  refine Stop.mk ?_
  try simp only [hgy]
  refine wpList_set_cell rfl _ _ rfl size_int Y 1 rfl (.int .i64 (gy : Int)) (by first | rfl | (simp only [hgy]; rfl) | simp [hgy]) rfl rfl _ _ HY6.out (by show 1 < 5; decide) ?_
  intro w7 hw
  have HY7 := Lib.hid (show w7.heap[Y]? = some (.cells (Lab.vals (lastL (gy : Int) (bx1 : Int)) sx).toArray 71 (0, 0)) from hw.blk)
  have HX7 := Lib.hid ((hw.oth X (Nat.ne_of_lt HXY.out)).trans HX6.out)
  have HMX7 := Lib.hid (HMX6.out.same fun b hb => hw.oth b (by have h := HOX.out.symm.trans hb; injection h with h; have := HBX.out; have := HXY.out; omega))
  have HB7 := Lib.hid (HB6.out.wrote hw (.inr rfl) (by have := HXY.out; have := HWX.out; omega))
  clear hw HX6 HMX6 HB6 HY6 hgy py
  go_wp2_with (refine stop_at (o := ⟨none, .store _ _ _, _, _, _, _⟩) ?_)
  refine Stop.mk ?_
  try simp only [hby]
  refine wpList_set_cell rfl _ _ rfl size_int Y 3 rfl (.int .i64 (by1 : Int)) (by first | rfl | (simp only [hby]; rfl) | simp [hby]) rfl rfl _ _ HY7.out (by show 3 < 5; decide) ?_
  intro w8 hw
  have HY8 := Lib.hid (show w8.heap[Y]? = some (.cells (Lab.vals (lastL (gy : Int) (by1 : Int)) sx).toArray 71 (0, 0)) from hw.blk)
  have HX8 := Lib.hid ((hw.oth X (Nat.ne_of_lt HXY.out)).trans HX7.out)
  have HMX8 := Lib.hid (HMX7.out.same fun b hb => hw.oth b (by have h := HOX.out.symm.trans hb; injection h with h; have := HBX.out; have := HXY.out; omega))
  have HB8 := Lib.hid (HB7.out.wrote hw (.inr rfl) (by have := HXY.out; have := HWX.out; omega))
  clear hw HX7 HMX7 HB7 HY7 hby hyc hc6
  go_wp2_with (refine stop_at (o := ⟨some 49, _, _, _, _, _⟩) ?_)
  refine Stop.mk ?_
  refine wpList_load_agg rfl _ rfl ty_lab X 0 rfl (Lab.vals (lastL (gx : Int) (bx1 : Int)) sx) (by simpa using Cells.of_block HX8.out) rfl ?_
  go_wp2_with fail
  refine Calls.mono (label_Save HB8.out HU0.out (lastL (gx : Int) (bx1 : Int)) sx HMX8.out HRX.out gx rfl HU1.out) ?_
  rintro e w9 ⟨he, hb, hr⟩
  rw [HE1.out] at he hb
  dsimp only at he hb
  subst he
  have HB9 := Lib.hid hb
  have HX9 := Lib.hid ((hr X (by simp)).trans HX8.out)
  have HY9 := Lib.hid ((hr Y (by simp)).trans HY8.out)
  have HMX9 := Lib.hid (HMX8.out.same fun b hb => hr b (by have h := HOX.out.symm.trans hb; injection h with h; subst h; simp))
  clear HB8 HX8 HY8 HMX8 hb hr
  clear HE1 HU0 HU1
  go_wp2_with fail
  try simp only [hna]
  refine Calls.mono (bk_Arm HB9.out na m0) ?_
  rintro e w10 ⟨rfl, hb, hr⟩
  have HB10 := Lib.hid hb
  have HX10 := Lib.hid ((hr X (by simp)).trans HX9.out)
  have HY10 := Lib.hid ((hr Y (by simp)).trans HY9.out)
  have HMX10 := Lib.hid (HMX9.out.same fun b hb => hr b (by have h := HOX.out.symm.trans hb; injection h with h; subst h; simp))
  clear HB9 HX9 HY9 HMX9 hb hr
  clear hna hyr
  rcases HNA.out with rfl | rfl
  · skip
    obtain ⟨u2, u3⟩ := re_use HD1.out HNA.out HM0.out (lastL (gy : Int) (by1 : Int)).member ((lastL (gy : Int) (by1 : Int)).gen.tmod 2) (lab_sec_ok HRY.out)
    obtain ⟨T2, e2, f2, u5, l2⟩ := lasts_hit HD1.out HPQ.out HRX.out rfl HM0.out (lastL (gy : Int) (by1 : Int))
    have HU2 := Lib.hid u2
    have HU3 := Lib.hid u3
    have HE2 := Lib.hid e2
    have HF2 := Lib.hid f2
    have HU5 := Lib.hid u5
    have HL2 := Lib.hid l2
    clear u2 u3 e2 f2 u5 l2 HD1 HNA
    go_wp2_with (refine stop_at (o := ⟨some 59, _, _, _, _, _⟩) ?_)
    refine Stop.mk ?_
    refine wpList_load_agg rfl _ rfl ty_lab Y 0 rfl (Lab.vals (lastL (gy : Int) (by1 : Int)) sx) (by simpa using Cells.of_block HY10.out) rfl ?_
    go_wp2_with fail
    refine Calls.mono (label_Save HB10.out HU2.out (lastL (gy : Int) (by1 : Int)) sx HMX10.out HRY.out gy rfl HU3.out) ?_
    rintro e w11 ⟨he, hb, hr⟩
    rw [HE2.out] at he hb
    dsimp only at he hb
    subst he
    have HB11 := Lib.hid hb
    have HX11 := Lib.hid ((hr X (by simp)).trans HX10.out)
    have HY11 := Lib.hid ((hr Y (by simp)).trans HY10.out)
    have HMX11 := Lib.hid (HMX10.out.same fun b hb => hr b (by have h := HOX.out.symm.trans hb; injection h with h; subst h; simp))
    clear HB10 HX10 HY10 HMX10 hb hr
    clear HE2 HU2 HU3
    go_wp2_with fail
    refine Calls.mono (bk_Up HB11.out) ?_
    rintro e w12 ⟨he, rfl⟩
    rw [HF2.out] at he
    subst he
    go_wp2_with fail
    refine Calls.mono (bk_Start HB11.out) ?_
    rintro e w12 ⟨rfl, hb, hr⟩
    have HB12 := Lib.hid hb
    have HX12 := Lib.hid ((hr X (by simp)).trans HX11.out)
    have HY12 := Lib.hid ((hr Y (by simp)).trans HY11.out)
    have HMX12 := Lib.hid (HMX11.out.same fun b hb => hr b (by have h := HOX.out.symm.trans hb; injection h with h; subst h; simp))
    clear HB11 HX11 HY11 HMX11 hb hr
    go_wp2_with fail
    refine Calls.mono (label_Load HB12.out HU5.out 1) ?_
    rintro e w13 ⟨sl, he, hml, hk⟩
    rw [HL2.out] at he hml
    dsimp only at he hml
    subst he
    have HML13 := Lib.hid hml
    have HB13 := Lib.hid ((HB12.out.kept hk).1)
    have HX13 := Lib.hid (hk.block HX12.out)
    have HY13 := Lib.hid (hk.block HY12.out)
    have HMX13 := Lib.hid (HMX12.out.kept hk)
    clear HB12 HX12 HY12 HMX12 hk hml HL2
    go_wp2_with (refine stop_at (o := ⟨some 15, _, _, _, _, _⟩) ?_)
    refine Stop.mk ?_
    refine wpList_new_row rfl rfl _ _ rfl rfl ty_lab [.int .i64 0, .int .i64 0, .int .i64 0, .int .i64 0, .slice none 0 0] zero_lab rfl (Lab.vals (lastL (gx : Int) (bx1 : Int)) sl) rfl rfl (lab_one _ _ HML13.out.one) rfl ?_
    intro w14 hz hs hk
    have HE14 := hz
    have HB14 := Lib.hid (HB13.out.box hk hs)
    have HX14 := Lib.hid (hk.block HX13.out)
    have HY14 := Lib.hid (hk.block HY13.out)
    have HMX14 := Lib.hid (HMX13.out.kept hk)
    have HML14 := Lib.hid (HML13.out.kept hk)
    generalize w13.heap.size = E at *
    clear HB13 HX13 HY13 HMX13 HML13 hz hs hk
    go_wp2_with (refine stop_at (o := ⟨some 73, _, _, _, _, _⟩) ?_)
    refine Stop.mk ?_
    refine wpList_load_agg rfl _ rfl ty_lab E 0 rfl (Lab.vals (lastL (gx : Int) (bx1 : Int)) sl) (by simpa using Cells.of_block HE14.out) rfl ?_
    go_wp2_with (refine stop_at (o := ⟨some 74, _, _, _, _, _⟩) ?_)
    refine Stop.mk ?_
    refine wpList_load_agg rfl _ rfl ty_lab X 0 rfl (Lab.vals (lastL (gx : Int) (bx1 : Int)) sx) (by simpa using Cells.of_block HX14.out) rfl ?_
    go_wp2_with fail
    refine Calls.mono (same_labels (lastL (gx : Int) (bx1 : Int)) sl sx w14 (by show 3 ≤ 9223372036854775807; decide) HML14.out HMX14.out) ?_
    rintro e w15 ⟨rfl, hk⟩
    have HB15 := Lib.hid ((HB14.out.kept hk).1)
    have HX15 := Lib.hid (hk.block HX14.out)
    have HY15 := Lib.hid (hk.block HY14.out)
    have HMX15 := Lib.hid (HMX14.out.kept hk)
    have HML15 := Lib.hid (HML14.out.kept hk)
    have HE15 := Lib.hid (hk.block HE14.out)
    clear HB14 HX14 HY14 HMX14 HML14 HE14 hk
    go_wp2_with (refine stop_at (o := ⟨some 76, _, _, _, _, _⟩) ?_)
    refine Stop.mk ?_
    refine wpList_load_agg rfl _ rfl ty_lab E 0 rfl (Lab.vals (lastL (gx : Int) (bx1 : Int)) sl) (by simpa using Cells.of_block HE15.out) rfl ?_
    go_wp2_with (refine stop_at (o := ⟨some 77, _, _, _, _, _⟩) ?_)
    refine Stop.mk ?_
    refine wpList_load_agg rfl _ rfl ty_lab Y 0 rfl (Lab.vals (lastL (gy : Int) (by1 : Int)) sx) (by simpa using Cells.of_block HY15.out) rfl ?_
    go_wp2_with fail
    refine Calls.mono (unlike_labels (lastL (gx : Int) (bx1 : Int)) (lastL (gy : Int) (by1 : Int)) sl sx w15 HML15.out HMX15.out rfl (by have h := HGL.out; rw [beq_eq_false_iff_ne]; show ¬ ((gx : Int) = (gy : Int)); omega)) ?_
    rintro e w16 ⟨rfl, hk⟩
    have HB16 := Lib.hid ((HB15.out.kept hk).1)
    have HX16 := Lib.hid (hk.block HX15.out)
    have HY16 := Lib.hid (hk.block HY15.out)
    have HMX16 := Lib.hid (HMX15.out.kept hk)
    have HML16 := Lib.hid (HML15.out.kept hk)
    have HE16 := Lib.hid (hk.block HE15.out)
    clear HB15 HX15 HY15 HMX15 HML15 HE15 hk
    go_wp2
    go_ret
    exact ⟨rfl, HB16.out.keeps⟩
  · skip
    obtain ⟨u2, u3⟩ := re_use HD1.out HNA.out HM0.out (lastL (gy : Int) (by1 : Int)).member ((lastL (gy : Int) (by1 : Int)).gen.tmod 2) (lab_sec_ok HRY.out)
    obtain ⟨T2, e2, f2, u4, u5, l2⟩ := lasts_miss HD1.out HPQ.out HRX.out rfl HM0.out HRY.out rfl HGL.out (by rw [gen_mod (l := lastL (gy : Int) (by1 : Int)) (g := gy) rfl, HGM.out])
    have HU2 := Lib.hid u2
    have HU3 := Lib.hid u3
    have HE2 := Lib.hid e2
    have HF2 := Lib.hid f2
    have HU5 := Lib.hid u5
    have HL2 := Lib.hid l2
    have HU4 := Lib.hid u4
    clear u2 u3 e2 f2 u5 l2 u4 HD1 HNA
    go_wp2_with (refine stop_at (o := ⟨some 59, _, _, _, _, _⟩) ?_)
    refine Stop.mk ?_
    refine wpList_load_agg rfl _ rfl ty_lab Y 0 rfl (Lab.vals (lastL (gy : Int) (by1 : Int)) sx) (by simpa using Cells.of_block HY10.out) rfl ?_
    go_wp2_with fail
    refine Calls.mono (label_Save HB10.out HU2.out (lastL (gy : Int) (by1 : Int)) sx HMX10.out HRY.out gy rfl HU3.out) ?_
    rintro e w11 ⟨he, hb, hr⟩
    rw [HE2.out] at he hb
    dsimp only at he hb
    subst he
    have HB11 := Lib.hid hb
    have HX11 := Lib.hid ((hr X (by simp)).trans HX10.out)
    have HY11 := Lib.hid ((hr Y (by simp)).trans HY10.out)
    have HMX11 := Lib.hid (HMX10.out.same fun b hb => hr b (by have h := HOX.out.symm.trans hb; injection h with h; subst h; simp))
    clear HB10 HX10 HY10 HMX10 hb hr
    clear HE2 HU2 HU3
    go_wp2_with fail
    refine Calls.mono (bk_Up HB11.out) ?_
    rintro e w12 ⟨he, rfl⟩
    rw [HF2.out] at he
    subst he
    go_wp2_with fail
    refine Calls.mono (bk_Crash HB11.out HU4.out m0 HM0.out.1 HM0.out.2) ?_
    rintro e w12 ⟨rfl, hb, hr⟩
    have HB12 := Lib.hid hb
    have HX12 := Lib.hid ((hr X (by simp)).trans HX11.out)
    have HY12 := Lib.hid ((hr Y (by simp)).trans HY11.out)
    have HMX12 := Lib.hid (HMX11.out.same fun b hb => hr b (by have h := HOX.out.symm.trans hb; injection h with h; subst h; simp))
    clear HB11 HX11 HY11 HMX11 hb hr
    go_wp2_with fail
    refine Calls.mono (bk_Start HB12.out) ?_
    rintro e w13 ⟨rfl, hb, hr⟩
    have HB13 := Lib.hid hb
    have HX13 := Lib.hid ((hr X (by simp)).trans HX12.out)
    have HY13 := Lib.hid ((hr Y (by simp)).trans HY12.out)
    have HMX13 := Lib.hid (HMX12.out.same fun b hb => hr b (by have h := HOX.out.symm.trans hb; injection h with h; subst h; simp))
    clear HB12 HX12 HY12 HMX12 hb hr
    go_wp2_with fail
    refine Calls.mono (label_Load HB13.out HU5.out 1) ?_
    rintro e w14 ⟨sl, he, hml, hk⟩
    rw [HL2.out] at he hml
    dsimp only at he hml
    subst he
    have HML14 := Lib.hid hml
    have HB14 := Lib.hid ((HB13.out.kept hk).1)
    have HX14 := Lib.hid (hk.block HX13.out)
    have HY14 := Lib.hid (hk.block HY13.out)
    have HMX14 := Lib.hid (HMX13.out.kept hk)
    clear HB13 HX13 HY13 HMX13 hk hml HL2
    go_wp2_with (refine stop_at (o := ⟨some 15, _, _, _, _, _⟩) ?_)
    refine Stop.mk ?_
    refine wpList_new_row rfl rfl _ _ rfl rfl ty_lab [.int .i64 0, .int .i64 0, .int .i64 0, .int .i64 0, .slice none 0 0] zero_lab rfl (Lab.vals (lastL (gy : Int) (by1 : Int)) sl) rfl rfl (lab_one _ _ HML14.out.one) rfl ?_
    intro w15 hz hs hk
    have HE15 := hz
    have HB15 := Lib.hid (HB14.out.box hk hs)
    have HX15 := Lib.hid (hk.block HX14.out)
    have HY15 := Lib.hid (hk.block HY14.out)
    have HMX15 := Lib.hid (HMX14.out.kept hk)
    have HML15 := Lib.hid (HML14.out.kept hk)
    generalize w14.heap.size = E at *
    clear HB14 HX14 HY14 HMX14 HML14 hz hs hk
    go_wp2_with (refine stop_at (o := ⟨some 73, _, _, _, _, _⟩) ?_)
    refine Stop.mk ?_
    refine wpList_load_agg rfl _ rfl ty_lab E 0 rfl (Lab.vals (lastL (gy : Int) (by1 : Int)) sl) (by simpa using Cells.of_block HE15.out) rfl ?_
    go_wp2_with (refine stop_at (o := ⟨some 74, _, _, _, _, _⟩) ?_)
    refine Stop.mk ?_
    refine wpList_load_agg rfl _ rfl ty_lab X 0 rfl (Lab.vals (lastL (gx : Int) (bx1 : Int)) sx) (by simpa using Cells.of_block HX15.out) rfl ?_
    go_wp2_with fail
    refine Calls.mono (unlike_labels (lastL (gy : Int) (by1 : Int)) (lastL (gx : Int) (bx1 : Int)) sl sx w15 HML15.out HMX15.out rfl (by have h := HGL.out; rw [beq_eq_false_iff_ne]; show ¬ ((gy : Int) = (gx : Int)); omega)) ?_
    rintro e w16 ⟨rfl, hk⟩
    have HB16 := Lib.hid ((HB15.out.kept hk).1)
    have HX16 := Lib.hid (hk.block HX15.out)
    have HY16 := Lib.hid (hk.block HY15.out)
    have HMX16 := Lib.hid (HMX15.out.kept hk)
    have HML16 := Lib.hid (HML15.out.kept hk)
    have HE16 := Lib.hid (hk.block HE15.out)
    clear HB15 HX15 HY15 HMX15 HML15 HE15 hk
    go_wp2_with (refine stop_at (o := ⟨some 76, _, _, _, _, _⟩) ?_)
    refine Stop.mk ?_
    refine wpList_load_agg rfl _ rfl ty_lab E 0 rfl (Lab.vals (lastL (gy : Int) (by1 : Int)) sl) (by simpa using Cells.of_block HE16.out) rfl ?_
    go_wp2_with (refine stop_at (o := ⟨some 77, _, _, _, _, _⟩) ?_)
    refine Stop.mk ?_
    refine wpList_load_agg rfl _ rfl ty_lab Y 0 rfl (Lab.vals (lastL (gy : Int) (by1 : Int)) sx) (by simpa using Cells.of_block HY16.out) rfl ?_
    go_wp2_with fail
    refine Calls.mono (same_labels (lastL (gy : Int) (by1 : Int)) sl sx w16 (by show 3 ≤ 9223372036854775807; decide) HML16.out HMX16.out) ?_
    rintro e w17 ⟨rfl, hk⟩
    have HB17 := Lib.hid ((HB16.out.kept hk).1)
    have HX17 := Lib.hid (hk.block HX16.out)
    have HY17 := Lib.hid (hk.block HY16.out)
    have HMX17 := Lib.hid (HMX16.out.kept hk)
    have HML17 := Lib.hid (HML16.out.kept hk)
    have HE17 := Lib.hid (hk.block HE16.out)
    clear HB16 HX16 HY16 HMX16 HML16 HE16 hk
    go_wp2
    go_ret
    exact ⟨rfl, HB17.out.keeps⟩
end
end Go.Proofs.Ytcbghpcohbgcjaa
