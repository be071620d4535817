/- law03's shown. -/
import Derived.Test.YtglplhmclfekfaaGreatDkw
namespace Go.Proofs.YtglplhmclfekfaaGreat
open Go.RowKit
set_option linter.unusedVariables false
set_option linter.unusedSimpArgs false

def secB (c : Int) : List Int := c :: List.replicate 63 0
def sh0 : BankT := BankT.zero.add 4
def sh1 : BankT := (sh0.write 0 0 (secB 97)).1
def sh2 : BankT := (sh1.write 0 1 (secB 98)).1
def sh3 : BankT := (sh2.flushC 0).1
def sh4 : BankT := (sh3.write 0 1 (secB 99)).1
def sh5 : BankT := (sh4.write 0 0 (secB 100)).1
def sh6 : BankT := sh5.crash 2
def sh7 : BankT := sh6.start
def sh8 : BankT := (sh7.failC 0).1
theorem secB_byte {c : Int} (h : IsByte c) : (secB c).length = 64 ∧ ∀ x ∈ secB c, IsByte x := by
  refine ⟨by simp [secB], fun x hx => ?_⟩
  rcases List.mem_cons.1 hx with h' | h'
  · rw [h']; exact h
  · rw [List.eq_of_mem_replicate h']; unfold IsByte; decide
theorem byte_of {n : Nat} (h : n < 256) : IsByte (n : Int) := by unfold IsByte; omega
theorem BankT.Use.of {T : BankT} (i : T.Inv) (h : (decide (T.l.length ≠ 0) && decide (T.clock < 1000000000) && decide (T.writes < 1000000000)) = true) : T.Use := by
  simp only [Bool.and_eq_true, decide_eq_true_eq] at h
  exact ⟨i, h.1.1, h.1.2, h.2⟩
theorem BankT.Inv.flushC {T : BankT} (h : T.Inv) (d : Int) : (T.flushC d).1.Inv := by
  unfold BankT.flushC
  split
  · rename_i hr
    obtain ⟨k, rfl, hk⟩ := BankT.readyE_in hr
    rw [Int.toNat_natCast]; exact h.flush hk
  · exact h
theorem BankT.Inv.failC {T : BankT} (h : T.Inv) (d : Int) : (T.failC d).1.Inv := by
  unfold BankT.failC
  split
  · exact h
  · exact h.fell (by omega)
theorem BankT.Inv.start {T : BankT} (h : T.Inv) : T.start.Inv := ⟨h.ok, h.clk, h.wr, h.ar, h.msk, h.top, h.uniq⟩
theorem sh0_u : sh0.Use := BankT.Use.of (BankT.Inv.zero.add (by decide) (by decide)) (by kernel_rfl)
theorem sh1_u : sh1.Use := BankT.Use.of (sh0_u.inv.write 0 0 (secB_byte (byte_of (by decide)))) (by kernel_rfl)
theorem sh2_u : sh2.Use := BankT.Use.of (sh1_u.inv.write 0 1 (secB_byte (byte_of (by decide)))) (by kernel_rfl)
theorem sh3_u : sh3.Use := BankT.Use.of (sh2_u.inv.flushC 0) (by kernel_rfl)
theorem sh4_u : sh4.Use := BankT.Use.of (sh3_u.inv.write 0 1 (secB_byte (byte_of (by decide)))) (by kernel_rfl)
theorem sh5_u : sh5.Use := BankT.Use.of (sh4_u.inv.write 0 0 (secB_byte (byte_of (by decide)))) (by kernel_rfl)
theorem sh6_u : sh6.Use := BankT.Use.of (sh5_u.inv.crash 2) (by kernel_rfl)
theorem sh7_u : sh7.Use := BankT.Use.of sh6_u.inv.start (by kernel_rfl)
theorem sh8_u : sh8.Use := BankT.Use.of (sh7_u.inv.failC 0) (by kernel_rfl)
theorem sh_e : ((sh0.write 0 0 (secB 97)).2, (sh1.write 0 1 (secB 98)).2, (sh2.flushC 0).2, (sh3.write 0 1 (secB 99)).2, (sh4.write 0 0 (secB 100)).2, sh5.looseN, sh7.writes, (sh7.failC 0).2, (sh8.flushC 0).2) = (0, 0, 0, 0, 0, 2, 4, 0, 7) := by kernel_rfl
theorem sh_r : (sh6.read 0 0, sh7.read 0 0, sh7.read 0 1, sh7.read 0 4, sh7.read 1 0) = ((zeroB, 6), (secB 100, 0), (secB 98, 0), (zeroB, 3), (zeroB, 8)) := by kernel_rfl
section
variable {w0 W : World} {R : Nat → Prop} {q : Nat}
theorem st_write {T T' : BankT} (h : BK w0 R W q T) (u : T.Use) (d a : Int) {s : List Int} (hs : s.length = 64) (he : (T.write d a s).2 = 0) (hT : T' = (T.write d a s).1) :
    Calls Tryz.prog 34 #[.pointer (some ⟨q, 0, none⟩), .agg #[.int .i64 d, .int .i64 a], .agg (u8s s).toArray] W fun e w' => e = .returned (.int .i64 0) ∧ BK w0 R w' q T' ∧ SameR R W w' :=
  (bk_Write h u d a hs).mono fun e w' ⟨h1, h2, h3⟩ => ⟨by rw [h1, he], by rw [hT]; exact h2, h3⟩
theorem st_flush {T T' : BankT} (h : BK w0 R W q T) (u : T.Use) (d : Int) {c : Int} (he : (T.flushC d).2 = c) (hT : T' = (T.flushC d).1) :
    Calls Tryz.prog 45 #[.pointer (some ⟨q, 0, none⟩), .int .i64 d] W fun e w' => e = .returned (.int .i64 c) ∧ BK w0 R w' q T' ∧ SameR R W w' :=
  (bk_Flush h u d).mono fun e w' ⟨h1, h2, h3⟩ => ⟨by rw [h1, he], by rw [hT]; exact h2, h3⟩
theorem st_fail {T T' : BankT} (h : BK w0 R W q T) (u : T.Use) (d : Int) {c : Int} (he : (T.failC d).2 = c) (hT : T' = (T.failC d).1) :
    Calls Tryz.prog 21 #[.pointer (some ⟨q, 0, none⟩), .int .i64 d] W fun e w' => e = .returned (.int .i64 c) ∧ BK w0 R w' q T' ∧ SameR R W w' :=
  (bk_Fail h u d).mono fun e w' ⟨h1, h2, h3⟩ => ⟨by rw [h1, he], by rw [hT]; exact h2, h3⟩
theorem st_read {T : BankT} (h : BK w0 R W q T) (u : T.Use) (d a : Int) {s : List Int} {c : Int} (he : T.read d a = (s, c)) :
    Calls Tryz.prog 13 #[.pointer (some ⟨q, 0, none⟩), .agg #[.int .i64 d, .int .i64 a]] W fun e w' => e = .returned (.tuple #[.agg (u8s s).toArray, .int .i64 c]) ∧ BK w0 R w' q T ∧ Kept W w' :=
  (bk_Read h u d a).mono fun e w' ⟨h1, h2, h3, h4⟩ => ⟨by rw [h1, he], h2, h4⟩
theorem st_loose {T : BankT} (h : BK w0 R W q T) (u : T.Use) {c : Nat} (he : T.looseN = c) :
    Calls Tryz.prog 12 #[.pointer (some ⟨q, 0, none⟩)] W fun e w' => e = .returned (.int .i64 (c : Int)) ∧ BK w0 R w' q T ∧ Kept W w' :=
  (bk_Loose h u).mono fun e w' ⟨h1, h2, h3, h4⟩ => ⟨by rw [h1, he], h2, h4⟩
theorem st_writes {T : BankT} (h : BK w0 R W q T) {c : Int} (he : T.writes = c) :
    Calls Tryz.prog 10 #[.pointer (some ⟨q, 0, none⟩)] W fun e w' => e = .returned (.int .i64 c) ∧ W = w' :=
  (bk_Writes h).mono fun e w' ⟨h1, h2⟩ => ⟨by rw [h1, he], h2⟩
set_option maxHeartbeats 2000000
set_option maxRecDepth 100000
--
--
--
--
--
--
--
--
--
--
--
--
--
--
--
--
--
--
--
--
--
--
--
--
--
--
--
--
--
--
--
--
--
--
--
--
--
--
--
--
--
--
--
--
--
--
--
--
--
--
--
--
--
--
--
--
--
--
--
--
--
--
--
--
--
--
--
--
--
--
--
--
--
--
--
--
--
--
--
--
--
--
--
--
--
--
--
--
--
--
--
--
--
--
--
--
--
--
--
--
--
--
--
--
--
--
--
--
--
--
--
--
--
--
--
--
--
--
--
--
--
--
--
--
--
--
--
--
--
--
--
--
end
end Go.Proofs.YtglplhmclfekfaaGreat
