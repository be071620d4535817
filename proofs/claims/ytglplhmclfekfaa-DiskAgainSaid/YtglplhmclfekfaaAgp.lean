/- DiskAgain: the plain law; a law's bank is cloned. -/
import Derived.Test.YtglplhmclfekfaaBcl
import Derived.Test.YtglplhmclfekfaaDli
namespace Go.Proofs.Ytglplhmclfekfaa
open Go.RowKit
set_option linter.unusedVariables false
set_option linter.unusedSimpArgs false

theorem bk_Clone {w0 W : World} {R : Nat → Prop} {q : Nat} {T : BankT} (h : BK w0 R W q T) (hok : T.Ok) (hpos : ∀ k, k < T.l.length → 0 < (T.d k).sin.length) :
    Calls Try.prog 15 #[.pointer (some ⟨q, 0, none⟩)] W fun e w' => ∃ qb, e = .returned (.pointer (some ⟨qb, 0, none⟩)) ∧ BK2 w0 R w' q T qb T := by
  obtain ⟨Y, rfl, h⟩ := h
  refine (bank_Clone h.d hok hpos).mono ?_
  rintro e w' ⟨Y', he, hd, hk, hin⟩
  have h2 := (h.kept hk).1
  have hW := h.keeps.size
  refine ⟨Y'.A 0, he, Y', rfl, hd, fun b hb => Nat.le_trans hW (hin b hb), fun k hk' hi => ?_, Y, rfl, ⟨h2.d, h2.keeps, h2.own, fun k hk' => ?_⟩⟩
  · have := (h.off k hk').1
    have := hin k hi
    omega
  · rcases hk' with hk' | hk'
    · exact ⟨hd.lt hk', fun hi => by
        have h1 := h.d.lt hi
        have h3 := hin k hk'
        omega⟩
    · exact h2.off k hk'
theorem start_self {T : BankT} (h : T.down = false) : T.start = T := by
  obtain ⟨a, b, c, d, e, f⟩ := T
  simp only [BankT.start] at *
  rw [h]
theorem crash_down {T : BankT} (h : T.down = true) (m : Int) : T.crash m = T := by unfold BankT.crash; rw [if_pos h]
theorem looseTo_sz {T : BankT} {n z : Nat} (h : Shape T n z) : ∀ {k}, k ≤ n → (T.looseTo k).length ≤ z * k
  | 0, _ => by simp [BankT.looseTo]
  | k + 1, hk => by
    have h1 := looseTo_sz h (k := k) (by omega)
    have h2 := Med.looseTo_le k (T.d k) (T.d k).sin.length
    have h3 := h.sz k (by omega)
    unfold BankT.looseTo
    rw [List.length_append, Nat.mul_succ]
    omega
/-- a bank that fell -/
structure AgC (T : BankT) (x : Int) : Prop where
  sh : Shape T 3 8
  down : T.down = true
  st : Still T.start 3 8
  wr : T.writes = x
def BankT.failing (T : BankT) (n : Int) : BankT := T.up 0 { T.d 0 with fail := max n 0 }
section
variable {T : BankT} {x : Int}
theorem AgC.of (h : Still T 3 8) (m : Int) : AgC (T.crash m) T.writes := by
  obtain ⟨h1, h2, h3, h4, h5⟩ := h.crash m
  exact ⟨h4, h5, h1, h3⟩
theorem AgC.use (h : AgC T x) (hx : x < 1000000000) (hc : T.clock < 1000000000) : T.Use := ⟨h.sh.inv, by rw [h.sh.len]; decide, hc, by rw [h.wr]; exact hx⟩
theorem AgC.useF (h : AgC T x) (hx : x < 1000000000) (hc : T.clock < 1000000000) : (T.failing 1).Use := by
  have hl : 0 < T.l.length := by rw [h.sh.len]; decide
  have ho := h.sh.inv.ok.d hl
  have hcm : T.Calmer (T.up 0 { T.d 0 with fail := max 1 0 }) := BankT.Calmer.up hl rfl (fun a => .inl rfl)
  refine ⟨hcm.inv h.sh.inv (h.sh.inv.ok.up 0 ⟨ho.flu, ho.new, ho.len, ho.sin, by show (0 : Int) ≤ max 1 0 ∧ max 1 0 < (9223372036854775808 : Int); decide⟩) h.sh.inv.wr h.sh.inv.ar h.sh.inv.msk, ?_, hc, by show T.writes < _; rw [h.wr]; exact hx⟩
  show (T.up 0 _).l.length ≠ 0
  rw [BankT.up_len]; omega
theorem AgC.deadF (h : AgC T x) : ((T.failing 1).d 0).dead = false := by
  have hl : 0 < T.l.length := by rw [h.sh.len]; decide
  unfold BankT.failing
  rw [BankT.d_up _ hl, if_pos rfl]
  exact h.st.dead 0 (by decide)
theorem AgC.lenF (h : AgC T x) : 0 < (T.failing 1).l.length := by
  unfold BankT.failing
  rw [BankT.up_len, h.sh.len]; decide
theorem AgC.back (h : AgC T x) : (T.failing 1).failing 0 = T := by
  have hl : 0 < T.l.length := by rw [h.sh.len]; decide
  have hf : (T.d 0).fail = 0 := h.st.fail 0 (by decide)
  unfold BankT.failing
  rw [BankT.up_up, BankT.d_up _ hl, if_pos rfl]
  have e : ({ ({ T.d 0 with fail := max 1 0 } : Med) with fail := max 0 0 } : Med) = T.d 0 := by
    show ({ T.d 0 with fail := 0 } : Med) = T.d 0
    rw [← hf]
  rw [e, BankT.up_d _ _ hl]
theorem AgC.writeF (h : AgC T x) (s : List Int) : (T.failing 1).write 0 0 s = (T.failing 1, 6) := by
  have hd : (T.failing 1).down = true := h.down
  rw [down_write hd]
  have hr : (T.failing 1).readyE 0 = 6 := by
    unfold BankT.readyE
    have hl := h.lenF
    rw [if_neg (by omega), show (0 : Int).toNat = 0 from rfl, h.deadF, if_neg (by decide), if_pos hd]
  rw [BankT.inE_no (by rw [hr]; decide), hr]
end
end Go.Proofs.Ytglplhmclfekfaa
