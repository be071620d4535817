/- MirrorCopies: the plain law. -/
import Derived.Test.YtcbghpcohbgcjaaMib
import Derived.Test.YtcbghpcohbgcjaaMid
namespace Go.Proofs.Ytcbghpcohbgcjaa
open Go.RowKit
set_option linter.unusedVariables false
set_option linter.unusedSimpArgs false

/-- two disks of twelve sectors, up, nothing armed, nobody to fail; some may be dead -/
structure CL (T : BankT) : Prop extends Live T 2 12 where
  nofail : ∀ d, d < 2 → (T.d d).fail = 0
theorem Still.cl {T : BankT} (h : Still T 2 12) : CL T := ⟨h.live, h.fail⟩
def BankT.rd (T : BankT) (i : Nat) : List Int := (T.read ((i / 12 : Nat) : Int) ((i % 12 : Nat) : Int)).1
section
variable {T : BankT}
theorem CL.tick (h : CL T) : T.tick = ({ T with writes := T.writes + 1 }, true) := by
  have e := tickTo_calm (T := T) (fun d hd => h.nofail d (by rw [← h.len]; exact hd)) (Nat.le_refl _)
  unfold BankT.tick
  rw [if_neg (by rw [h.up]; decide), e, if_neg (by show ¬ 0 < T.armed; rw [h.arm]; decide)]
theorem CL.wr (h : CL T) {x : Int} (hx : 0 ≤ x) : CL { T with writes := x } :=
  ⟨⟨⟨⟨h.inv.ok, h.inv.clk, hx, h.inv.ar, h.inv.msk, h.inv.top, h.inv.uniq⟩, h.len, h.sz⟩, h.up, h.arm⟩, h.nofail⟩
theorem CL.inE_iff (h : CL T) (x y : Int) : T.inE x y = 0 ↔ ∃ d a : Nat, x = (d : Int) ∧ y = (a : Int) ∧ d < 2 ∧ a < 12 ∧ (T.d d).dead = false := by
  constructor
  · intro hi
    have hr : T.readyE x = 0 := by
      by_cases hr : T.readyE x = 0
      · exact hr
      · rw [BankT.inE_no hr] at hi; exact hi
    obtain ⟨k, b, rfl, rfl, hk, hb⟩ := BankT.inE_zero hi
    have hk2 : k < 2 := by rw [← h.len]; exact hk
    refine ⟨k, b, rfl, rfl, hk2, by rw [← h.sz k hk2]; exact hb, ?_⟩
    rw [h.toLive.ready hk2] at hr
    cases hd : (T.d k).dead
    · rfl
    · rw [hd] at hr; cases hr
  · rintro ⟨d, a, rfl, rfl, hd, ha, hdd⟩
    exact BankT.inE_in (by rw [h.toLive.ready hd, hdd]; rfl) (by rw [h.sz d hd]; exact ha)
theorem CL.write_no (h : CL T) {x y : Int} (hn : T.inE x y ≠ 0) (s : List Int) : T.write x y s = ({ T with writes := T.writes + 1 }, T.inE x y) := by
  unfold BankT.write
  rw [h.tick]
  have e : ({ T with writes := T.writes + 1 } : BankT).inE x y = T.inE x y := rfl
  simp only [Bool.true_eq_false, if_false, e, hn]
theorem CL.write_yes (h : CL T) {d a : Nat} (hd : d < 2) (ha : a < 12) (hdd : (T.d d).dead = false) {s : List Int} (hs : s.length = 64 ∧ ∀ x ∈ s, IsByte x) :
    ∃ T', T.write (d : Int) (a : Int) s = (T', 0) ∧ CL T' ∧ T'.clock ≤ T.clock + 1 ∧ T'.writes = T.writes + 1 ∧ (∀ c, c < 2 → (T'.d c).dead = (T.d c).dead) ∧ ∀ c k, c < 2 → k < 12 → (T.d c).dead = false → T'.N c k = if c = d ∧ k = a then s else T.N c k := by
  have ht : ∀ c, c < 2 → (T.d c).tick = T.d c := fun c hc => by unfold Med.tick; rw [if_neg (by rw [h.nofail c hc]; decide)]
  obtain ⟨T', he, hl, hc, hw, hat⟩ := h.toLive.write hd ha hs
  refine ⟨T', ?_, ⟨hl, fun c hc => by rw [(hat c hc).2.1, ht c hc]; exact h.nofail c hc⟩, hc, hw, fun c hc => by rw [(hat c hc).1, ht c hc], fun c k hc hk hdc => ?_⟩
  · rw [he, ht d hd, hdd]; rfl
  · obtain ⟨_, _, h3⟩ := hat c hc
    rw [ht c hc] at h3
    exact (h3 hdc k hk).2.1
theorem CL.fail (h : CL T) {d : Nat} (hd : d < 2) : ∃ T', T.failC (d : Int) = (T', 0) ∧ CL T' ∧ T'.clock = T.clock ∧ T'.writes = T.writes := by
  have hl : d < T.l.length := by rw [h.len]; exact hd
  have hD : ∀ c, (T.fell d).d c = if c = d then (T.d d).kill.settleTo false (T.d d).sin.length else T.d c := fun c => BankT.d_up _ hl c
  refine ⟨T.fell d, ?_, ⟨⟨⟨h.inv.fell hl, (BankT.up_len _ _ _).trans h.len, fun c hc => ?_⟩, h.up, h.arm⟩, fun c hc => ?_⟩, rfl, rfl⟩
  · unfold BankT.failC; rw [if_neg (by rw [h.len]; omega), Int.toNat_natCast]
  · rw [hD]
    split
    · rw [Med.settleTo_len]; exact h.sz d hd
    · exact h.sz c hc
  · rw [hD]
    split
    · rw [Med.settleTo_fail]; exact h.nofail d hd
    · exact h.nofail c hc
theorem CL.rd_at (h : CL T) {i : Nat} (hi : i < 24) : T.rd i = if (T.d (i / 12)).dead then zeroB else T.N (i / 12) (i % 12) := by
  unfold BankT.rd
  rw [h.toLive.read (by omega) (by omega)]
  split <;> rfl
theorem CL.rd_len (h : CL T) {i : Nat} (hi : i < 24) : (T.rd i).length = 64 := (BankT.read_sec h.inv _ _).1
theorem CL.use (h : CL T) (h1 : T.clock < 1000000000) (h2 : T.writes < 1000000000) : T.Use := h.toLive.use (by decide) h1 h2
theorem CL.copy (h : CL T) (x0 x1 y0 y1 : Int) : ∃ T' e, T.mCopy x0 x1 y0 y1 = (T', e) ∧ CL T' ∧ T'.clock ≤ T.clock + 1 ∧ T'.writes ≤ T.writes + 1 ∧ (∀ d, d < 2 → (T'.d d).dead = (T.d d).dead) ∧
    ((e = 0 ∧ ∃ dx ax dy ay : Nat, x0 = dx ∧ x1 = ax ∧ y0 = dy ∧ y1 = ay ∧ dx < 2 ∧ ax < 12 ∧ dy < 2 ∧ ay < 12 ∧ (T.d dx).dead = false ∧ (T.d dy).dead = false ∧ ∀ i, i < 24 → T'.rd i = if i = 12 * dy + ay then T.rd (12 * dx + ax) else T.rd i) ∨
      (¬ (T.inE x0 x1 = 0 ∧ T.inE y0 y1 = 0) ∧ e ≠ 0 ∧ ∀ i, i < 24 → T'.rd i = T.rd i)) := by
  unfold BankT.mCopy
  by_cases hx : T.inE x0 x1 = 0
  · obtain ⟨dx, ax, rfl, rfl, hdx, hax, hddx⟩ := (h.inE_iff x0 x1).1 hx
    have hrd := h.toLive.read hdx hax
    rw [hddx, if_neg (by decide)] at hrd
    rw [hrd]
    simp only [ne_eq, not_true_eq_false, if_false]
    by_cases hy : T.inE y0 y1 = 0
    · obtain ⟨dy, ay, rfl, rfl, hdy, hay, hddy⟩ := (h.inE_iff y0 y1).1 hy
      obtain ⟨T', he, h', c1, c2, c3, c4⟩ := h.write_yes hdy hay hddy (h.toShape.N_len hdx hax)
      refine ⟨T', 0, he, h', c1, by omega, c3, .inl ⟨rfl, dx, ax, dy, ay, rfl, rfl, rfl, rfl, hdx, hax, hdy, hay, hddx, hddy, fun i hi => ?_⟩⟩
      rw [h'.rd_at hi, h.rd_at hi, h.rd_at (i := 12 * dx + ax) (by omega), show (12 * dx + ax) / 12 = dx by omega, show (12 * dx + ax) % 12 = ax by omega, hddx, c3 _ (by omega)]
      by_cases e : i = 12 * dy + ay
      · have e1 : i / 12 = dy := by omega
        have e2 : i % 12 = ay := by omega
        have hn := c4 dy ay hdy hay hddy
        rw [if_pos ⟨rfl, rfl⟩] at hn
        rw [if_pos e, e1, e2, hddy, hn]
      · rw [if_neg e]
        cases hdi : (T.d (i / 12)).dead
        · have hn := c4 (i / 12) (i % 12) (by omega) (by omega) hdi
          rw [if_neg (fun h => e (by omega))] at hn
          rw [hn]
        · rfl
    · rw [h.write_no hy]
      refine ⟨_, _, rfl, h.wr (by have := h.inv.wr; omega), by show T.clock ≤ T.clock + 1; omega, by show T.writes + 1 ≤ T.writes + 1; omega, fun _ _ => rfl, .inr ⟨fun h => hy h.2, hy, fun _ _ => rfl⟩⟩
  · have hrd : T.read x0 x1 = (zeroB, T.inE x0 x1) := by unfold BankT.read; rw [if_neg hx]
    rw [hrd]
    rw [if_pos (show (zeroB, T.inE x0 x1).2 ≠ 0 from hx)]
    exact ⟨_, _, rfl, h, by omega, by omega, fun _ _ => rfl, .inr ⟨fun h => hx h.1, hx, fun _ _ => rfl⟩⟩
end
end Go.Proofs.Ytcbghpcohbgcjaa
