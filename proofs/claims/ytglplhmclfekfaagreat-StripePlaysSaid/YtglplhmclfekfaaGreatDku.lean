/- A law's own disk.Bank: its calls, with what else the law has. -/
import Derived.Test.YtglplhmclfekfaaGreatDks
import Derived.Test.YtglplhmclfekfaaGreatDki
namespace Go.Proofs.YtglplhmclfekfaaGreat
open Go.RowKit
set_option linter.unusedVariables false
set_option linter.unusedSimpArgs false

/-- Block q of W is a bank that reads as T, made since w0; the blocks that R names are none of its own. -/
def BK (w0 : World) (R : Nat → Prop) (W : World) (q : Nat) (T : BankT) : Prop := ∃ Y : Lay, Y.A 0 = q ∧ BO w0 R W Y T
/-- a bank of which one may make use -/
structure BankT.Use (T : BankT) : Prop where
  inv : T.Inv
  len : T.l.length ≠ 0
  clk : T.clock < 1000000000
  wri : T.writes < 1000000000
section
variable {w0 W W' : World} {R : Nat → Prop} {q : Nat} {T : BankT}
theorem BK.keeps (h : BK w0 R W q T) : Kept w0 W := by obtain ⟨_, _, h⟩ := h; exact h.keeps
theorem BK.kept (h : BK w0 R W q T) (hk : Kept W W') : BK w0 R W' q T ∧ SameR R W W' := by
  obtain ⟨Y, h0, h⟩ := h
  exact ⟨⟨Y, h0, (h.kept hk).1⟩, (h.kept hk).2⟩
theorem BK.less {R' : Nat → Prop} (h : BK w0 R W q T) (hr : ∀ k, R' k → R k) : BK w0 R' W q T := by
  obtain ⟨Y, h0, h⟩ := h
  exact ⟨Y, h0, h.less hr⟩
theorem BK.more (h : BK w0 R W q T) (hk : Kept W W') (B : Nat) (h1 : W.heap.size ≤ B) (h2 : B < W'.heap.size) : BK w0 (fun k => R k ∨ k = B) W' q T := by
  obtain ⟨Y, h0, h⟩ := h
  exact ⟨Y, h0, h.more hk B h1 h2⟩
theorem BK.wrote (h : BK w0 R W q T) {B : Nat} {cs : List Value} {t : TypeId} (hw : Wrote W W' B cs t) (hB : R B) (hb : w0.heap.size ≤ B) : BK w0 R W' q T := by
  obtain ⟨Y, h0, h⟩ := h
  exact ⟨Y, h0, h.wrote hw hB hb⟩
theorem BK.wrote_same {B : Nat} {cs : List Value} {t : TypeId} (hw : Wrote W W' B cs t) (hR : ∀ k, R k → k ≠ B) : SameR R W W' := fun k hk => hw.oth k (hR k hk)
theorem bk_New (w0 W : World) (R : Nat → Prop) (hk : Kept w0 W) (hR : ∀ k, R k → k < W.heap.size) : Calls Tryz.prog 24 #[] W fun e w' => ∃ q, e = .returned (.pointer (some ⟨q, 0, none⟩)) ∧ BK w0 R w' q BankT.zero ∧ Kept W w' :=
  (bank_New W).mono fun e w' ⟨Y, he, hd, h0, hk'⟩ => by
    have hin : ∀ b, Y.In BankT.zero.l.length b → b = W.heap.size := fun b ⟨i, hi, h1, hb⟩ => by
      have h2 := h1 rfl
      have hi : i < 2 := hi
      have : i = 0 := by omega
      rw [hb, this, h0]
    exact ⟨Y.A 0, he, ⟨Y, rfl, ⟨hd, hk.trans hk', fun b hb => by rw [hin b hb]; exact hk.size, fun k hk2 => ⟨Nat.lt_of_lt_of_le (hR k hk2) hk'.size, fun hi => by have := hin k hi; have := hR k hk2; omega⟩⟩⟩, hk'⟩
theorem bk_Add (h : BK w0 R W q T) (hl : T.l.length < 32) (n : Nat) (hn1 : 1 ≤ n) (hn2 : n ≤ 4096) :
    Calls Tryz.prog 25 #[.pointer (some ⟨q, 0, none⟩), .int .i64 (n : Int)] W fun e w' => e = .returned (.tuple #[.int .i64 (T.l.length : Int), .int .i64 0]) ∧ BK w0 R w' q (T.add n) ∧ SameR R W w' := by
  obtain ⟨Y, rfl, h⟩ := h
  refine (bank_Add h.d hl n hn1 hn2).mono ?_
  rintro e w' ⟨he, Y', hd, h0, hin, hb⟩
  have hk' : Kept w0 w' := But.to_kept h.keeps hb h.own
  refine ⟨he, ⟨Y', h0, ⟨hd, hk', fun b hb' => ?_, fun k hk => ⟨Nat.lt_of_lt_of_le (h.off k hk).1 hb.size, fun hi => ?_⟩⟩⟩, fun k hk => hb.block k (h.off k hk).1 (h.off k hk).2⟩
  · rw [BankT.add_len] at hb'
    rcases hin b hb' with h' | h'
    · exact h.own b h'
    · exact Nat.le_trans h.keeps.size h'
  · rw [BankT.add_len] at hi
    rcases hin k hi with h' | h'
    · exact (h.off k hk).2 h'
    · have := (h.off k hk).1; omega
theorem BO.of {Y : Lay} {T' : BankT} (h : BO w0 R W Y T) (hd : BankD W' Y T') (hl : T'.l.length = T.l.length) (hb : But (Y.In T.l.length) W W') : BK w0 R W' (Y.A 0) T' ∧ SameR R W W' := by
  obtain ⟨h1, h2⟩ := h.step hd hl hb
  exact ⟨⟨Y, rfl, h1⟩, h2⟩
theorem bk_Flush (h : BK w0 R W q T) (u : T.Use) (d : Int) : Calls Tryz.prog 45 #[.pointer (some ⟨q, 0, none⟩), .int .i64 d] W fun e w' => e = .returned (.int .i64 (T.flushC d).2) ∧ BK w0 R w' q (T.flushC d).1 ∧ SameR R W w' := by
  obtain ⟨Y, rfl, h⟩ := h
  refine (bank_Flush h.d u.inv.ok u.len d).mono ?_
  rintro e w' ⟨he, hd, hb⟩
  exact ⟨he, h.of hd (by unfold BankT.flushC; split; exact BankT.up_len _ _ _; rfl) hb⟩
theorem bk_Fail (h : BK w0 R W q T) (u : T.Use) (d : Int) : Calls Tryz.prog 21 #[.pointer (some ⟨q, 0, none⟩), .int .i64 d] W fun e w' => e = .returned (.int .i64 (T.failC d).2) ∧ BK w0 R w' q (T.failC d).1 ∧ SameR R W w' := by
  obtain ⟨Y, rfl, h⟩ := h
  refine (bank_Fail h.d u.inv.ok u.len d).mono ?_
  rintro e w' ⟨he, hd, hb⟩
  exact ⟨he, h.of hd (by unfold BankT.failC; split; rfl; exact BankT.up_len _ _ _) hb⟩
theorem bk_Write (h : BK w0 R W q T) (u : T.Use) (d a : Int) {s : List Int} (hs : s.length = 64) : Calls Tryz.prog 34 #[.pointer (some ⟨q, 0, none⟩), .agg #[.int .i64 d, .int .i64 a], .agg (u8s s).toArray] W fun e w' => e = .returned (.int .i64 (T.write d a s).2) ∧ BK w0 R w' q (T.write d a s).1 ∧ SameR R W w' := by
  obtain ⟨Y, rfl, h⟩ := h
  refine (bank_Write h.d u.inv u.len u.wri u.clk d a hs).mono ?_
  rintro e w' ⟨he, hd, hb⟩
  exact ⟨he, h.of hd (BankT.write_rest u.inv.ok d a s).1 hb⟩
theorem bk_Crash (h : BK w0 R W q T) (u : T.Use) (m : Int) (h0 : 0 ≤ m) (h1 : m < 18446744073709551616) : Calls Tryz.prog 41 #[.pointer (some ⟨q, 0, none⟩), .int .u64 m] W fun e w' => e = .returned (.tuple #[]) ∧ BK w0 R w' q (T.crash m) ∧ SameR R W w' := by
  obtain ⟨Y, rfl, h⟩ := h
  refine (bank_Crash h.d u.inv u.len m h0 h1).mono ?_
  rintro e w' ⟨he, hd, hb⟩
  exact ⟨he, h.of hd (BankT.crash_len _ _) hb⟩
theorem bk_Start (h : BK w0 R W q T) : Calls Tryz.prog 43 #[.pointer (some ⟨q, 0, none⟩)] W fun e w' => e = .returned (.tuple #[]) ∧ BK w0 R w' q T.start ∧ SameR R W w' := by
  obtain ⟨Y, rfl, h⟩ := h
  refine (bank_Start h.d).mono ?_
  rintro e w' ⟨he, hd, hb⟩
  exact ⟨he, h.of hd rfl hb⟩
theorem bk_Read (h : BK w0 R W q T) (u : T.Use) (d a : Int) : Calls Tryz.prog 13 #[.pointer (some ⟨q, 0, none⟩), .agg #[.int .i64 d, .int .i64 a]] W fun e w' => e = .returned (.tuple #[.agg (u8s (T.read d a).1).toArray, .int .i64 (T.read d a).2]) ∧ BK w0 R w' q T ∧ SameR R W w' ∧ Kept W w' := by
  obtain ⟨Y, rfl, h⟩ := h
  refine (bank_Read h.d u.inv.ok u.len d a).mono ?_
  rintro e w' ⟨he, hk⟩
  exact ⟨he, ⟨Y, rfl, (h.kept hk).1⟩, (h.kept hk).2, hk⟩
theorem bk_Loose (h : BK w0 R W q T) (u : T.Use) : Calls Tryz.prog 12 #[.pointer (some ⟨q, 0, none⟩)] W fun e w' => e = .returned (.int .i64 (T.looseN : Int)) ∧ BK w0 R w' q T ∧ SameR R W w' ∧ Kept W w' := by
  obtain ⟨Y, rfl, h⟩ := h
  refine (bank_Loose h.d u.inv.ok u.len).mono ?_
  rintro e w' ⟨he, hk⟩
  exact ⟨he, ⟨Y, rfl, (h.kept hk).1⟩, (h.kept hk).2, hk⟩
theorem bk_Up (h : BK w0 R W q T) : Calls Tryz.prog 11 #[.pointer (some ⟨q, 0, none⟩)] W fun e w' => e = .returned (.bool (!T.down)) ∧ W = w' := by
  obtain ⟨Y, rfl, h⟩ := h
  exact bank_Up h.d
theorem bk_Writes (h : BK w0 R W q T) : Calls Tryz.prog 10 #[.pointer (some ⟨q, 0, none⟩)] W fun e w' => e = .returned (.int .i64 T.writes) ∧ W = w' := by
  obtain ⟨Y, rfl, h⟩ := h
  exact bank_Writes h.d
--
--
--
theorem bk_Arm (h : BK w0 R W q T) (n m : Int) : Calls Tryz.prog 39 #[.pointer (some ⟨q, 0, none⟩), .int .i64 n, .int .u64 m] W fun e w' => e = .returned (.tuple #[]) ∧ BK w0 R w' q (T.arm n m) ∧ SameR R W w' := by
  obtain ⟨Y, rfl, h⟩ := h
  refine (bank_Arm h.d n m).mono ?_
  rintro e w' ⟨he, hd, hb⟩
  exact ⟨he, h.of hd rfl hb⟩
theorem bk_FailAt (h : BK w0 R W q T) {k : Nat} (hk : k < T.l.length) (n : Int) : Calls Tryz.prog 37 #[.pointer (some ⟨q, 0, none⟩), .int .i64 (k : Int), .int .i64 n] W fun e w' => e = .returned (.tuple #[]) ∧ BK w0 R w' q (T.up k { T.d k with fail := max n 0 }) ∧ SameR R W w' := by
  obtain ⟨Y, rfl, h⟩ := h
  refine (bank_FailAt h.d hk n).mono ?_
  rintro e w' ⟨he, hd, hb⟩
  exact ⟨he, h.of hd (BankT.up_len _ _ _) hb⟩
end
/-- the sector that law03 makes of a number -/
def secN (n : Int) : List Int := (n % 256) :: ((n / 256) % 256) :: (List.replicate 61 0 ++ [n % 256])
theorem secN_len (n : Int) : (secN n).length = 64 := by simp [secN]
theorem secN_byte (n : Int) : ∀ x ∈ secN n, IsByte x := by
  intro x hx
  simp only [secN, List.mem_cons, List.mem_append, List.mem_replicate, List.mem_singleton, List.mem_nil_iff, or_false] at hx
  unfold IsByte
  rcases hx with rfl | rfl | ⟨_, rfl⟩ | rfl <;> omega
end Go.Proofs.YtglplhmclfekfaaGreat
