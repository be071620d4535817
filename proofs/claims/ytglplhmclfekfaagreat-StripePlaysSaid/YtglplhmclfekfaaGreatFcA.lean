/- FcA: several texts in one: Rlk Rll Rlm Rbr Pba Pbb Pbd. -/
import Derived.Test.YtglplhmclfekfaaGreatFbB
import Derived.Test.YtglplhmclfekfaaGreatFaA
import Derived.ProofKit
import Derived.OpenShut
import Derived.ChangeOld
import Derived.Deep.Slices
import Derived.Deep.Fields
import Derived.Deep.DeepCutAuto
/- ref12 on the document's bank: Lost, Write, Read, Alike, Copy (gen_ref12.py). -/
namespace Go.Proofs.YtglplhmclfekfaaGreat
open Go.RowKit
set_option linter.unusedVariables false
set_option linter.unusedSimpArgs false

theorem exec_cmp_secB {W : World} {a : Act} {o : Oper} (x y : Operand) {t' : TypeId} (ho : o.op = .binOp .eql 43 x y t') (xs ys : List Int) (hx1 : xs.length = 64) (hy1 : ys.length = 64) (hx : a.eval x = .agg (u8s xs).toArray) (hy : a.eval y = .agg (u8s ys).toArray) :
    (execOp a.eval o).run Tryz.prog W = .ok (.value (.bool (xs == ys))) W := by
  have heq := run_equal_secA xs ys hx1 hy1 W
  unfold execOp
  simp only [ho, hx, hy, Sem.run_bind]
  rw [run_eqGuard_agg _ _ _ _ _ _ _ eqg_sec]
  simp only [Result.andThen_ok]
  rw [run_eql_struct, heq]
  simp only [Result.andThen_ok, Sem.run_pure]
section
variable {w0 W : World} {R : Nat → Prop} {q : Nat} {B : BankT}
set_option maxHeartbeats 2000000
set_option maxRecDepth 100000
theorem doc_Lost (e : Int) (w : World) : Calls Tryz.prog 66 #[.int .i64 e] w fun e' w' => e' = .returned (.bool (lostB e)) ∧ w = w' := by
  unfold lostB
  by_cases h8 : e = 8
  · subst h8
    go_enter Tryz.func66, Tryz.ntmps66
    go_wp2
    go_ret
    exact ⟨rfl, rfl⟩
  · have k8 : (e == 8) = false := by simpa using h8
    by_cases h7 : e = 7
    · subst h7
      go_enter Tryz.func66, Tryz.ntmps66
      go_wp2
      go_ret
      exact ⟨rfl, rfl⟩
    · have k7 : (e == 7) = false := by simpa using h7
      rw [k8, k7]
      clear h8 h7
      go_enter Tryz.func66, Tryz.ntmps66
      go_wp2
      go_ret
      exact ⟨rfl, rfl⟩
--
--
--
--
--
--
--
--
--
--
--
--
--
--
--
--
--
--
--
--
--
--
--
--
--
--
--
--
--
--
--
--
--
--
--
--
--
--
--
--
--
--
--
--
--
--
--
--
--
--
--
--
--
--
--
--
--
--
--
--
--
--
--
--
--
--
--
--
--
--
--
--
--
--
--
--
--
--
--
--
--
--
--
--
--
--
--
--
--
--
--
--
--
--
--
--
--
--
--
--
--
--
--
--
--
--
--
--
--
--
--
--
--
--
--
--
--
--
--
--
--
--
--
--
--
--
--
--
--
--
--
--
--
--
--
--
--
--
--
--
--
--
--
--
--
--
--
--
--
--
--
--
--
--
--
--
--
--
--
--
--
--
--
--
--
--
--
--
--
--
--
--
--
--
--
--
--
--
--
--
--
--
--
--
--
--
--
--
--
--
--
--
--
--
--
--
--
--
--
--
--
--
--
end
end Go.Proofs.YtglplhmclfekfaaGreat
/- ref12 on the document's bank: Read. -/
namespace Go.Proofs.YtglplhmclfekfaaGreat
open Go.RowKit
set_option linter.unusedVariables false
set_option linter.unusedSimpArgs false

theorem zeroB_sec : zeroB.length = 64 ∧ ∀ x ∈ zeroB, IsByte x := ⟨rfl, fun x hx => by
  have : x = 0 := by unfold zeroB at hx; exact List.eq_of_mem_replicate hx
  rw [this]; exact ⟨by decide, by decide⟩⟩
theorem BankT.read_is {B : BankT} (h : B.Ok) (d a : Int) : (B.read d a).1.length = 64 ∧ ∀ x ∈ (B.read d a).1, IsByte x := by
  unfold BankT.read
  by_cases h0 : B.inE d a = 0
  · rw [if_pos h0]
    obtain ⟨k, b, rfl, rfl, hk, hb⟩ := BankT.inE_at h0
    simp only [Int.toNat_natCast]
    exact (h.d hk).new.at hb
  · rw [if_neg h0]; exact zeroB_sec
theorem BankT.read_zero {B : BankT} {d a : Int} (h : (B.read d a).2 ≠ 0) : (B.read d a).1 = zeroB := by
  unfold BankT.read at h ⊢
  by_cases h0 : B.inE d a = 0
  · rw [if_pos h0] at h; exact absurd rfl h
  · rw [if_neg h0]
theorem lostB_ne {e : Int} (h : lostB e = true) : e ≠ 0 := fun e' => by rw [e'] at h; cases h
section
variable {w0 W : World} {R : Nat → Prop} {q : Nat} {B : BankT}
set_option maxHeartbeats 2000000
set_option maxRecDepth 100000
--
--
--
--
--
--
--
--
--
--
--
--
--
--
--
--
--
--
--
--
--
--
--
--
--
--
--
--
--
--
--
--
--
--
--
--
--
--
--
--
--
--
--
--
--
--
--
--
--
--
--
--
--
--
--
--
--
--
--
--
--
--
--
--
--
--
--
--
--
--
--
--
--
--
--
--
--
--
--
--
--
--
--
--
--
--
--
--
--
--
--
--
--
--
--
--
--
--
--
--
--
--
--
--
--
--
--
--
--
--
--
--
--
--
--
--
--
--
--
--
--
--
--
--
--
--
--
--
--
--
--
--
--
--
--
--
--
--
--
end
end Go.Proofs.YtglplhmclfekfaaGreat
/- ref12 on the document's bank: Alike (gen_alike12.py). -/
namespace Go.Proofs.YtglplhmclfekfaaGreat
open Go.RowKit
set_option linter.unusedVariables false
set_option linter.unusedSimpArgs false

section
variable {w0 W : World} {R : Nat → Prop} {q : Nat} {B : BankT}
set_option maxHeartbeats 4000000
set_option maxRecDepth 100000
--
--
--
--
--
--
--
--
--
--
--
--
--
--
--
--
--
--
--
--
--
--
--
--
--
--
--
--
--
--
--
--
--
--
--
--
--
--
--
--
--
--
--
--
--
--
--
--
--
--
--
--
--
--
--
--
--
--
--
--
--
--
--
--
--
--
--
--
--
--
--
--
--
--
--
--
--
--
--
--
--
--
--
--
--
--
--
--
--
--
--
--
--
--
--
--
--
--
--
--
--
--
--
--
--
--
--
--
--
--
--
--
--
--
--
--
--
--
--
--
--
--
--
--
--
--
--
--
--
--
--
--
--
--
--
--
--
--
--
--
--
--
--
--
--
--
--
--
--
--
--
--
--
--
--
--
--
--
--
--
--
--
--
--
--
--
--
--
--
--
--
--
--
--
--
--
--
--
--
--
--
--
--
--
--
--
--
--
--
--
--
--
--
--
--
--
--
--
--
--
--
--
end
end Go.Proofs.YtglplhmclfekfaaGreat
/- Both banks, apart from one another: a call on the one, a call on the other (split out of XRke). -/
namespace Go.Proofs.YtglplhmclfekfaaGreat
open Go.RowKit
set_option linter.unusedVariables false
set_option linter.unusedSimpArgs false

/-- both banks, apart, and apart from the blocks that R names -/
def BR (w0 : World) (R : Nat → Prop) (W : World) (qb : Nat) (T : BankT) (qr : Nat) (S : RT) : Prop :=
  ∃ Y : Lay, Y.A 0 = qb ∧ BankD W Y T ∧ (∀ b, Y.In T.l.length b → w0.heap.size ≤ b) ∧ (∀ k, R k → ¬ Y.In T.l.length k) ∧ RK w0 (fun k => Y.In T.l.length k ∨ R k) W qr S
section
variable {w0 W W' : World} {R : Nat → Prop} {qb qr : Nat} {T T' : BankT} {S S' : RT}
theorem BR.keeps (h : BR w0 R W qb T qr S) : Kept w0 W := by obtain ⟨_, _, _, _, _, h⟩ := h; exact h.keeps
theorem BR.kept (h : BR w0 R W qb T qr S) (hk : Kept W W') : BR w0 R W' qb T qr S := by
  obtain ⟨Y, h0, hd, ho, hr, h⟩ := h
  exact ⟨Y, h0, hd.kept hk, ho, hr, (h.kept hk).1⟩
theorem BR.less {R' : Nat → Prop} (h : BR w0 R W qb T qr S) (hr : ∀ k, R' k → R k) : BR w0 R' W qb T qr S := by
  obtain ⟨Y, h0, hd, ho, hr0, h⟩ := h
  exact ⟨Y, h0, hd, ho, fun k hk => hr0 k (hr k hk), h.less fun k hk => hk.elim .inl (fun hk => .inr (hr k hk))⟩
theorem BR.box {w1 : World} (h : BR w0 R W qb T qr S) (hk : Kept W w1) (hs : W.heap.size < w1.heap.size) : BR w0 (fun k => R k ∨ k = W.heap.size) w1 qb T qr S := by
  obtain ⟨Y, h0, hd, ho, hr, h⟩ := h
  refine ⟨Y, h0, hd.kept hk, ho, fun k hk' => ?_, (h.more hk _ (Nat.le_refl _) hs).less fun k hk' => ?_⟩
  · rcases hk' with hk' | rfl
    · exact hr k hk'
    · intro hi; have := hd.lt hi; omega
  · rcases hk' with hk' | hk' | hk'
    · exact .inl (.inl hk')
    · exact .inl (.inr hk')
    · exact .inr hk'
/-- a call on the document's one -/
theorem BR.opr {f : Nat} {args : Array Value} {P : Ending → Prop} (h : BR w0 R W qb T qr S)
    (C : ∀ R, RK w0 R W qr S → Calls Tryz.prog f args W fun e w' => P e ∧ RK w0 R w' qr S' ∧ SameR R W w') : Calls Tryz.prog f args W fun e w' => P e ∧ BR w0 R w' qb T qr S' ∧ SameR R W w' := by
  obtain ⟨Y, h0, hd, ho, hr, h⟩ := h
  exact (C _ h).mono fun e w' ⟨he, hb, hs⟩ => ⟨he, ⟨Y, h0, hd.same fun b hb' => hs b (.inl hb'), ho, hr, hb⟩, fun k hk => hs k (.inr hk)⟩
/-- a call on the disks -/
theorem BR.opd {f : Nat} {args : Array Value} {P : Ending → Prop} (h : BR w0 R W qb T qr S)
    (C : ∀ R, BK w0 R W qb T → Calls Tryz.prog f args W fun e w' => P e ∧ BK w0 R w' qb T' ∧ SameR R W w') : Calls Tryz.prog f args W fun e w' => P e ∧ BR w0 R w' qb T' qr S ∧ SameR R W w' := by
  obtain ⟨Y, h0, hd, ho, hr, Yr, hq, hrd, hk, hro, hrr⟩ := h
  have hb : BK w0 (fun k => Yr.In k ∨ R k) W qb T := ⟨Y, h0, ⟨hd, hk, ho, fun k hk' => by
    rcases hk' with hk' | hk'
    · exact ⟨hrd.lt hk', fun hi => (hrr k (.inl hi)).2 hk'⟩
    · exact ⟨(hrr k (.inr hk')).1, hr k hk'⟩⟩⟩
  refine (C _ hb).mono ?_
  rintro e w' ⟨he, ⟨Y', h0', hb'⟩, hs⟩
  exact ⟨he, ⟨Y', h0', hb'.d, hb'.own, fun k hk' => (hb'.off k (.inr hk')).2, Yr, hq, hrd.same fun b hbi => hs b (.inl hbi), hb'.keeps, hro, fun k hk' => by
    rcases hk' with hk' | hk'
    · exact ⟨hb'.d.lt hk', fun hi => (hb'.off k (.inl hi)).2 hk'⟩
    · exact ⟨(hb'.off k (.inr hk')).1, (hrr k (.inr hk')).2⟩⟩, fun k hk' => hs k (.inr hk')⟩
theorem BR.disk (h : BR w0 R W qb T qr S) : BK w0 R W qb T := by
  obtain ⟨Y, h0, hd, ho, hr, h⟩ := h
  obtain ⟨Yr, hq, hrd, hk, hro, hrr⟩ := h
  exact ⟨Y, h0, ⟨hd, hk, ho, fun k hk' => ⟨(hrr k (.inr hk')).1, hr k hk'⟩⟩⟩
theorem br_New (h : BK w0 R W qb T) : Calls Tryz.prog 6 #[] W fun e w' => ∃ qr, e = .returned (.pointer (some ⟨qr, 0, none⟩)) ∧ BR w0 R w' qb T qr RT.zero := by
  obtain ⟨Y, h0, h⟩ := h
  exact (rk_New w0 W (fun k => Y.In T.l.length k ∨ R k) h.keeps (fun k hk => by
    rcases hk with hk | hk
    · exact h.d.lt hk
    · exact (h.off k hk).1)).mono fun e w' ⟨qr, he, hb, hk⟩ => ⟨qr, he, Y, h0, h.d.kept hk, h.own, fun k hk => (h.off k hk).2, hb⟩
theorem BR.doc (h : BR w0 R W qb T qr S) : RK w0 R W qr S := by
  obtain ⟨Y, h0, hd, ho, hr, h⟩ := h
  exact h.less fun k hk => .inr hk
theorem BR.keptS (h : BR w0 R W qb T qr S) (hk : Kept W W') : BR w0 R W' qb T qr S ∧ SameR R W W' := ⟨h.kept hk, (h.doc.kept hk).2⟩
end
end Go.Proofs.YtglplhmclfekfaaGreat
/- A bank of n disks of z sectors, with how much has come to pass: what each call keeps; FailAt of any disk. -/
namespace Go.Proofs.YtglplhmclfekfaaGreat
open Go.RowKit
set_option linter.unusedVariables false
set_option linter.unusedSimpArgs false

theorem Med.looseTo_leL (k : Nat) (m : Med) : ∀ j, (m.looseTo k j).length ≤ j
  | 0 => Nat.le_refl _
  | j + 1 => by
    have := Med.looseTo_leL k m j
    unfold Med.looseTo
    split
    · rw [List.length_append, List.length_singleton]; omega
    · omega
theorem BankT.looseTo_leL {T : BankT} {z : Nat} : ∀ {j : Nat}, (∀ k, k < j → (T.d k).sin.length ≤ z) → (T.looseTo j).length ≤ j * z
  | 0, _ => by simp [BankT.looseTo]
  | j + 1, h => by
    have h1 := BankT.looseTo_leL (T := T) (j := j) fun k hk => h k (by omega)
    have h2 := Med.looseTo_leL j (T.d j) (T.d j).sin.length
    have h3 := h j (by omega)
    unfold BankT.looseTo
    rw [List.length_append, Nat.add_mul, Nat.one_mul]; omega
section
variable {T : BankT} {n z c : Nat}
theorem BankT.crash_lens (h : T.Inv) (mask : Int) (k : Nat) : ((T.crash mask).d k).sin.length = (T.d k).sin.length := by
  unfold BankT.crash
  split
  · rfl
  · have hp : ∀ p ∈ T.order, T.Has p := fun p hp => ((T.mem_order p).1 hp).1
    obtain ⟨c, _⟩ := BankT.settleL_calmer mask T.order 0 h.ok hp
    exact c.lens k
theorem BankT.tick_lens (h : T.Inv) (k : Nat) : (T.tick.1.d k).sin.length = (T.d k).sin.length := by
  obtain ⟨c, o, w, a, m, d⟩ := BankT.tickTo_calmer h.ok (Nat.le_refl _)
  have hi : (T.tickTo T.l.length).Inv := c.inv h o (by rw [w]; have := h.wr; omega) (by rw [a]; exact h.ar) (by rw [m]; exact h.msk)
  unfold BankT.tick
  split
  · rfl
  · split
    · rename_i h0
      have h1 : (T.tickTo T.l.length).arm1.Inv := ⟨hi.ok, hi.clk, hi.wr, by have := hi.ar; simp only [BankT.arm1]; omega, hi.msk, hi.top, hi.uniq⟩
      split
      · exact (BankT.crash_lens h1 _ k).trans (c.lens k)
      · exact c.lens k
    · exact c.lens k
theorem BankT.write_lens (h : T.Inv) (d a : Int) (s : List Int) (k : Nat) : ((T.write d a s).1.d k).sin.length = (T.d k).sin.length := by
  have ht := BankT.tick_lens h k
  unfold BankT.write
  split
  · exact ht
  · split
    · rename_i hin
      obtain ⟨j, b, rfl, rfl, hk, hb, _⟩ := BankT.inE_has hin
      rw [Int.toNat_natCast, Int.toNat_natCast]
      rw [BankT.put_d hk]
      split
      · rename_i e; rw [← ht, e]; simp [Med.put]
      · exact ht
    · exact ht
/-- n disks of z sectors, and no more than c writes and numbers -/
structure Sane (T : BankT) (n z c : Nat) : Prop where
  inv : T.Inv
  len : T.l.length = n
  sz : ∀ k, k < n → (T.d k).sin.length = z
  clk : T.clock ≤ c
  wri : T.writes ≤ c
theorem Sane.few (h : Sane T n z c) : T.order.length ≤ n * z := by
  rw [show T.order.length = (T.looseTo T.l.length).length from (sortBy_perm _ _).length_eq, h.len]
  exact BankT.looseTo_leL fun k hk => Nat.le_of_eq (h.sz k hk)
theorem Sane.use (h : Sane T n z c) (hn : n ≠ 0) (hc : c < 1000000000) : T.Use := ⟨h.inv, by rw [h.len]; exact hn, by have := h.clk; omega, by have := h.wri; omega⟩
theorem Sane.doc (h : Sane T n z c) (hm : n * z < 9000) (hc : c < 1000000000) : T.Doc := ⟨h.inv, by have := h.few; omega, by have := h.wri; omega⟩
theorem Sane.le {c' : Nat} (h : Sane T n z c) (hc : c ≤ c') : Sane T n z c' := ⟨h.inv, h.len, h.sz, by have := h.clk; omega, by have := h.wri; omega⟩
theorem Sane.write (h : Sane T n z c) (d a : Int) {s : List Int} (hs : s.length = 64 ∧ ∀ x ∈ s, IsByte x) : Sane (T.write d a s).1 n z (c + 1) := by
  obtain ⟨r1, r2, r3⟩ := BankT.write_rest h.inv.ok d a s
  exact ⟨h.inv.write d a hs, r1.trans h.len, fun k hk => (BankT.write_lens h.inv d a s k).trans (h.sz k hk), by have := h.clk; omega, by have := h.wri; omega⟩
theorem Sane.calmer {T' : BankT} (h : Sane T n z c) (hc : T.Calmer T') (hi : T'.Inv) (hw : T'.writes = T.writes) : Sane T' n z c :=
  ⟨hi, hc.len.trans h.len, fun k hk => (hc.lens k).trans (h.sz k hk), by rw [hc.clk]; exact h.clk, by rw [hw]; exact h.wri⟩
theorem Sane.flushC (h : Sane T n z c) (d : Int) : Sane (T.flushC d).1 n z c := by
  have hi := h.inv.flushC d
  unfold BankT.flushC at hi ⊢
  split at hi
  · rename_i hr
    obtain ⟨k, rfl, hk⟩ := BankT.readyE_in hr
    rw [if_pos hr]
    rw [Int.toNat_natCast] at hi ⊢
    exact h.calmer (BankT.flush_calmer h.inv.ok hk) hi rfl
  · rename_i hr; rw [if_neg hr]; exact h
theorem Sane.failC (h : Sane T n z c) (d : Int) : Sane (T.failC d).1 n z c := by
  have hi := h.inv.failC d
  unfold BankT.failC at hi ⊢
  split at hi
  · rename_i hr; rw [if_pos hr]; exact h
  · rename_i hr; rw [if_neg hr]; exact h.calmer (BankT.fell_calmer h.inv.ok (by omega)) hi rfl
theorem Sane.crash (h : Sane T n z c) (m : Int) : Sane (T.crash m) n z c := by
  refine ⟨h.inv.crash m, (BankT.crash_len T m).trans h.len, fun k hk => (BankT.crash_lens h.inv m k).trans (h.sz k hk), ?_, ?_⟩
  all_goals
    unfold BankT.crash
    split
    · first | exact h.clk | exact h.wri
    · have hp : ∀ p ∈ T.order, T.Has p := fun p hp => ((T.mem_order p).1 hp).1
      obtain ⟨c1, w1, _⟩ := BankT.settleL_calmer m T.order 0 h.inv.ok hp
      first
        | (show (BankT.settleL m T.order 0 T).clock ≤ (c : Int); rw [c1.clk]; exact h.clk)
        | (show (BankT.settleL m T.order 0 T).writes ≤ (c : Int); rw [w1]; exact h.wri)
theorem Sane.start (h : Sane T n z c) : Sane T.start n z c := ⟨h.inv.start, h.len, h.sz, h.clk, h.wri⟩
theorem Sane.arm (h : Sane T n z c) {k m : Int} (hk : k < 9223372036854775808) (hm : 0 ≤ m ∧ m < 18446744073709551616) : Sane (T.arm k m) n z c :=
  ⟨⟨h.inv.ok, h.inv.clk, h.inv.wr, by show 0 ≤ max k 0 ∧ max k 0 < _; omega, hm, h.inv.top, h.inv.uniq⟩, h.len, h.sz, h.clk, h.wri⟩
theorem Sane.failAt (h : Sane T n z c) (d : Int) {k : Int} (hk : k < 9223372036854775808) : Sane (T.failAt d k) n z c := by
  unfold BankT.failAt
  split
  · exact h
  · have hd : d.toNat < T.l.length := by omega
    have ho := h.inv.ok.d hd
    have hok : ({ T.d d.toNat with fail := max k 0 } : Med).Ok := ⟨ho.flu, ho.new, ho.len, ho.sin, by show 0 ≤ max k 0 ∧ max k 0 < _; omega⟩
    exact h.calmer (BankT.Calmer.up hd rfl fun _ => .inl rfl) (h.inv.up hd rfl hok) rfl
theorem Sane.mWrite (h : Sane T n z c) (x0 x1 y0 y1 : Int) {s : List Int} (hs : s.length = 64 ∧ ∀ x ∈ s, IsByte x) : Sane (T.mWrite x0 x1 y0 y1 s).1 n z (c + 2) := by
  have h1 := h.write x0 x1 hs
  have h2 := h1.write y0 y1 hs
  unfold BankT.mWrite
  split
  · exact h1.le (by omega)
  · split
    · exact h2
    · exact h2
theorem Sane.mCopy (h : Sane T n z c) (x0 x1 y0 y1 : Int) : Sane (T.mCopy x0 x1 y0 y1).1 n z (c + 2) := by
  have h1 := h.write y0 y1 (T.read_is h.inv.ok x0 x1)
  unfold BankT.mCopy
  split
  · exact h.le (by omega)
  · exact h1.le (by omega)
theorem Sane.mAlike (h : Sane T n z c) (x0 x1 y0 y1 : Int) : Sane (T.mAlike x0 x1 y0 y1).1 n z (c + 2) := by
  have h1 := h.write y0 y1 (T.read_is h.inv.ok x0 x1)
  unfold BankT.mAlike
  split
  · exact h.le (by omega)
  · split
    · exact h.le (by omega)
    · split
      · exact h.le (by omega)
      · split
        · exact h.le (by omega)
        · split
          · exact h1.le (by omega)
          · exact h1.le (by omega)
theorem Sane.addZ {n z : Nat} (hn : n ≤ 31) (hz : z ≤ 4096) : Sane (addZ z n) n z 0 := by
  have hs := addZ_still (z := z) (k := n) hz hn
  exact ⟨hs.inv, hs.len, hs.sz, Int.le_of_eq (addZ_rest z n).2.2.1, Int.le_of_eq (addZ_rest z n).2.2.2⟩
end
section
variable {w0 W : World} {R : Nat → Prop} {q : Nat} {T : BankT}
theorem bk_FailAtX (h : BK w0 R W q T) (u : T.Use) (d n : Int) : Calls Tryz.prog 37 #[.pointer (some ⟨q, 0, none⟩), .int .i64 d, .int .i64 n] W fun e w' => e = .returned (.tuple #[]) ∧ BK w0 R w' q (T.failAt d n) ∧ SameR R W w' := by
  unfold BankT.failAt
  by_cases hd : d < 0 ∨ (T.l.length : Int) ≤ d
  · rw [if_pos hd]
    obtain ⟨Y, rfl, h⟩ := h
    have hi := Lib.hid (bank_is_f h.d u.len hd)
    have HB : Hid (BK w0 R W (Y.A 0) T) := Lib.hid ⟨Y, rfl, h⟩
    clear h hd u
    go_enter Tryz.func37, Tryz.ntmps37
    go_wp2_with fail
    refine Calls.mono hi.out ?_
    rintro e w' ⟨rfl, rfl⟩
    go_wp2
    go_end0
    exact ⟨rfl, HB.out, fun _ _ => rfl⟩
  · rw [if_neg hd]
    obtain ⟨k, rfl⟩ : ∃ k : Nat, d = (k : Int) := ⟨d.toNat, by omega⟩
    rw [Int.toNat_natCast]
    exact bk_FailAt h (by omega) n
end
end Go.Proofs.YtglplhmclfekfaaGreat
/- The mirror's calls on both banks, each in two halves. -/
namespace Go.Proofs.YtglplhmclfekfaaGreat
open Go.RowKit
set_option linter.unusedVariables false
set_option linter.unusedSimpArgs false

theorem secN_is (n : Int) : (secN n).length = 64 ∧ ∀ x ∈ secN n, IsByte x := ⟨secN_len n, secN_byte n⟩
theorem BankT.mRead_is {B : BankT} (h : B.Ok) (x0 x1 y0 y1 : Int) : (B.mRead x0 x1 y0 y1).1.length = 64 := by
  unfold BankT.mRead
  split
  · split
    · exact (B.read_is h y0 y1).1
    · exact (B.read_is h y0 y1).1
  · exact (B.read_is h x0 x1).1
section
variable {w0 W : World} {R : Nat → Prop} {p q : Nat} {T V : BankT} {U : RT}
--
--
--
--
--
--
--
--
--
--
--
--
--
--
--
--
--
--
--
--
--
--
--
--
theorem br_Write (h : BR w0 R W p T q U) (u : T.Use) (d a : Int) {s : List Int} (hs : s.length = 64) :
    Calls Tryz.prog 34 #[.pointer (some ⟨p, 0, none⟩), .agg #[.int .i64 d, .int .i64 a], .agg (u8s s).toArray] W fun e w' => e = .returned (.int .i64 (T.write d a s).2) ∧ BR w0 R w' p (T.write d a s).1 q U ∧ SameR R W w' :=
  h.opd (P := fun e => e = .returned (.int .i64 (T.write d a s).2)) fun R hb => bk_Write hb u d a hs
theorem br_Write2 (h : BR w0 R W p V q T.ref) (u : T.Doc) (d a : Int) {s : List Int} (hs : s.length = 64 ∧ ∀ x ∈ s, IsByte x) :
    Calls Tryz.prog 35 #[.pointer (some ⟨q, 0, none⟩), .agg #[.int .i64 d, .int .i64 a], .agg (u8s s).toArray] W fun e w' => e = .returned (.int .i64 (T.write d a s).2) ∧ BR w0 R w' p V q (T.write d a s).1.ref ∧ SameR R W w' :=
  h.opr (P := fun e => e = .returned (.int .i64 (T.write d a s).2)) fun R hb => rb_Write hb u d a hs
theorem br_Fail (h : BR w0 R W p T q U) (u : T.Use) (d : Int) :
    Calls Tryz.prog 21 #[.pointer (some ⟨p, 0, none⟩), .int .i64 d] W fun e w' => e = .returned (.int .i64 (T.failC d).2) ∧ BR w0 R w' p (T.failC d).1 q U ∧ SameR R W w' :=
  h.opd (P := fun e => e = .returned (.int .i64 (T.failC d).2)) fun R hb => bk_Fail hb u d
theorem br_Fail2 (h : BR w0 R W p V q T.ref) (u : T.Doc) (d : Int) :
    Calls Tryz.prog 36 #[.pointer (some ⟨q, 0, none⟩), .int .i64 d] W fun e w' => e = .returned (.int .i64 (T.failC d).2) ∧ BR w0 R w' p V q (T.failC d).1.ref ∧ SameR R W w' :=
  h.opr (P := fun e => e = .returned (.int .i64 (T.failC d).2)) fun R hb => rb_Fail hb u d
theorem br_Flush (h : BR w0 R W p T q U) (u : T.Use) (d : Int) :
    Calls Tryz.prog 45 #[.pointer (some ⟨p, 0, none⟩), .int .i64 d] W fun e w' => e = .returned (.int .i64 (T.flushC d).2) ∧ BR w0 R w' p (T.flushC d).1 q U ∧ SameR R W w' :=
  h.opd (P := fun e => e = .returned (.int .i64 (T.flushC d).2)) fun R hb => bk_Flush hb u d
theorem br_Flush2 (h : BR w0 R W p V q T.ref) (u : T.Doc) (d : Int) :
    Calls Tryz.prog 46 #[.pointer (some ⟨q, 0, none⟩), .int .i64 d] W fun e w' => e = .returned (.int .i64 (T.flushC d).2) ∧ BR w0 R w' p V q (T.flushC d).1.ref ∧ SameR R W w' :=
  h.opr (P := fun e => e = .returned (.int .i64 (T.flushC d).2)) fun R hb => rb_Flush hb u d
theorem br_FailAt (h : BR w0 R W p T q U) (u : T.Use) (d n : Int) :
    Calls Tryz.prog 37 #[.pointer (some ⟨p, 0, none⟩), .int .i64 d, .int .i64 n] W fun e w' => e = .returned (.tuple #[]) ∧ BR w0 R w' p (T.failAt d n) q U ∧ SameR R W w' :=
  h.opd (P := fun e => e = .returned (.tuple #[])) fun R hb => bk_FailAtX hb u d n
theorem br_FailAt2 (h : BR w0 R W p V q T.ref) (u : T.Doc) (d n : Int) :
    Calls Tryz.prog 38 #[.pointer (some ⟨q, 0, none⟩), .int .i64 d, .int .i64 n] W fun e w' => e = .returned (.tuple #[]) ∧ BR w0 R w' p V q (T.failAt d n).ref ∧ SameR R W w' :=
  h.opr (P := fun e => e = .returned (.tuple #[])) fun R hb => rb_FailAt hb u d n
theorem br_Arm (h : BR w0 R W p T q U) (n m : Int) :
    Calls Tryz.prog 39 #[.pointer (some ⟨p, 0, none⟩), .int .i64 n, .int .u64 m] W fun e w' => e = .returned (.tuple #[]) ∧ BR w0 R w' p (T.arm n m) q U ∧ SameR R W w' :=
  h.opd (P := fun e => e = .returned (.tuple #[])) fun R hb => bk_Arm hb n m
theorem br_Arm2 (h : BR w0 R W p V q T.ref) (n m : Int) :
    Calls Tryz.prog 40 #[.pointer (some ⟨q, 0, none⟩), .int .i64 n, .int .u64 m] W fun e w' => e = .returned (.tuple #[]) ∧ BR w0 R w' p V q (T.arm n m).ref ∧ SameR R W w' :=
  h.opr (P := fun e => e = .returned (.tuple #[])) fun R hb => rb_Arm hb n m
theorem br_Crash (h : BR w0 R W p T q U) (u : T.Use) (m : Int) (h0 : 0 ≤ m) (h1 : m < 18446744073709551616) :
    Calls Tryz.prog 41 #[.pointer (some ⟨p, 0, none⟩), .int .u64 m] W fun e w' => e = .returned (.tuple #[]) ∧ BR w0 R w' p (T.crash m) q U ∧ SameR R W w' :=
  h.opd (P := fun e => e = .returned (.tuple #[])) fun R hb => bk_Crash hb u m h0 h1
theorem br_Crash2 (h : BR w0 R W p V q T.ref) (u : T.Doc) (m : Int) (h0 : 0 ≤ m) :
    Calls Tryz.prog 42 #[.pointer (some ⟨q, 0, none⟩), .int .u64 m] W fun e w' => e = .returned (.tuple #[]) ∧ BR w0 R w' p V q (T.crash m).ref ∧ SameR R W w' :=
  h.opr (P := fun e => e = .returned (.tuple #[])) fun R hb => rb_Crash hb u m h0
theorem br_Start (h : BR w0 R W p T q U) :
    Calls Tryz.prog 43 #[.pointer (some ⟨p, 0, none⟩)] W fun e w' => e = .returned (.tuple #[]) ∧ BR w0 R w' p T.start q U ∧ SameR R W w' :=
  h.opd (P := fun e => e = .returned (.tuple #[])) fun R hb => bk_Start hb
theorem br_Start2 (h : BR w0 R W p V q T.ref) :
    Calls Tryz.prog 44 #[.pointer (some ⟨q, 0, none⟩)] W fun e w' => e = .returned (.tuple #[]) ∧ BR w0 R w' p V q T.start.ref ∧ SameR R W w' :=
  h.opr (P := fun e => e = .returned (.tuple #[])) fun R hb => rb_Start hb
theorem br_Read (h : BR w0 R W p T q U) (u : T.Use) (d a : Int) :
    Calls Tryz.prog 13 #[.pointer (some ⟨p, 0, none⟩), .agg #[.int .i64 d, .int .i64 a]] W fun e w' => e = .returned (.tuple #[.agg (u8s (T.read d a).1).toArray, .int .i64 (T.read d a).2]) ∧ Kept W w' :=
  (bk_Read h.disk u d a).mono fun e w' ⟨he, _, _, hk⟩ => ⟨he, hk⟩
theorem br_Read2 (h : BR w0 R W p V q T.ref) (u : T.Doc) (d a : Int) :
    Calls Tryz.prog 14 #[.pointer (some ⟨q, 0, none⟩), .agg #[.int .i64 d, .int .i64 a]] W fun e w' => e = .returned (.tuple #[.agg (u8s (T.read d a).1).toArray, .int .i64 (T.read d a).2]) ∧ Kept W w' :=
  rb_Read (B := T) h.doc u d a
end
end Go.Proofs.YtglplhmclfekfaaGreat
/- law12: its steps as they come in (gen_open.py braidworklaw12 OpM KSrc kops opM kind:i n:i x0,x1:p y0,y1:p m:u); the document's bank laid. -/
namespace Go.Proofs.YtglplhmclfekfaaGreat
open Go.RowKit Go.ChangeMaps
set_option linter.unusedVariables false
set_option linter.unusedSimpArgs false

/-- a step of braidworklaw12 -/
structure OpM where
  kind : Int
  n : Int
  x0 : Int
  x1 : Int
  y0 : Int
  y1 : Int
  m : Int
def KSrc (w : World) (v : Value) (l : List OpM) : Prop := ∃ oa cap, v = .slice oa l.length cap ∧ l.length ≤ cap ∧ cap ≤ maxLen ∧ ∀ k (hk : k < l.length), ∃ b off, oa = some ⟨b, off, none⟩ ∧
  Cells w b (off + k * 7) [.int .i64 l[k].kind, .int .i64 l[k].n, .int .i64 l[k].x0, .int .i64 l[k].x1, .int .i64 l[k].y0, .int .i64 l[k].y1, .int .u64 l[k].m] ∧ (-9223372036854775808 ≤ l[k].kind ∧ l[k].kind ≤ 9223372036854775807) ∧ (-9223372036854775808 ≤ l[k].n ∧ l[k].n ≤ 9223372036854775807) ∧ (-9223372036854775808 ≤ l[k].x0 ∧ l[k].x0 ≤ 9223372036854775807) ∧ (-9223372036854775808 ≤ l[k].x1 ∧ l[k].x1 ≤ 9223372036854775807) ∧ (-9223372036854775808 ≤ l[k].y0 ∧ l[k].y0 ≤ 9223372036854775807) ∧ (-9223372036854775808 ≤ l[k].y1 ∧ l[k].y1 ≤ 9223372036854775807) ∧ (0 ≤ l[k].m ∧ l[k].m < 18446744073709551616)
theorem KSrc.kept {w w' : World} {v : Value} {l : List OpM} (h : KSrc w v l) (hk : Kept w w') : KSrc w' v l := by
  obtain ⟨oa, cap, rfl, h1, h2, h3⟩ := h
  refine ⟨oa, cap, rfl, h1, h2, fun k hkl => ?_⟩
  obtain ⟨b, off, e, c0, r⟩ := h3 k hkl
  exact ⟨b, off, e, c0.kept hk, r⟩
theorem KSrc.at {w : World} {oa : Option Addr} {n cap : Nat} {l : List OpM} (h : KSrc w (.slice oa n cap) l) (k : Nat) (hk : k < l.length) : ∃ b off, oa = some ⟨b, off, none⟩ ∧
    Cells w b (off + k * 7) [.int .i64 l[k].kind, .int .i64 l[k].n, .int .i64 l[k].x0, .int .i64 l[k].x1, .int .i64 l[k].y0, .int .i64 l[k].y1, .int .u64 l[k].m] ∧ (-9223372036854775808 ≤ l[k].kind ∧ l[k].kind ≤ 9223372036854775807) ∧ (-9223372036854775808 ≤ l[k].n ∧ l[k].n ≤ 9223372036854775807) ∧ (-9223372036854775808 ≤ l[k].x0 ∧ l[k].x0 ≤ 9223372036854775807) ∧ (-9223372036854775808 ≤ l[k].x1 ∧ l[k].x1 ≤ 9223372036854775807) ∧ (-9223372036854775808 ≤ l[k].y0 ∧ l[k].y0 ≤ 9223372036854775807) ∧ (-9223372036854775808 ≤ l[k].y1 ∧ l[k].y1 ≤ 9223372036854775807) ∧ (0 ≤ l[k].m ∧ l[k].m < 18446744073709551616) := by
  obtain ⟨oa', cap', e, h1, h2, h3⟩ := h
  cases e
  exact h3 k hk
theorem wf_ikops {z : Int} (h : (Lit.int .i64 z).wf = true) : -9223372036854775808 ≤ z ∧ z ≤ 9223372036854775807 := by
  have h1 : IntKind.i64.min = -9223372036854775808 := rfl
  have h2 : IntKind.i64.max = 9223372036854775807 := rfl
  simp [Lit.wf] at h; omega
theorem wf_ukops {z : Int} (h : (Lit.int .u64 z).wf = true) : 0 ≤ z ∧ z < 18446744073709551616 := by
  have h1 : IntKind.u64.min = 0 := rfl
  have h2 : IntKind.u64.max = 18446744073709551615 := rfl
  simp [Lit.wf] at h; omega
--
--
--
--
--
--
--
--
--
--
--
--
--
--
--
--
--
--
--
--
--
--
--
--
--
--
--
--
--
--
--
--
--
--
--
--
--
--
--
--
--
--
--
--
--
--
--
--
--
--
--
--
--
--
--
--
--
--
--
--
--
--
--
--
--
--
--
--
--
--
--
--
--
--
--
--
--
--
theorem addZ_since (z : Nat) : ∀ (n : Nat) (p : Nat × Nat), (addZ z n).since p = 0
  | 0, p => rfl
  | n + 1, p => by rw [show addZ z (n + 1) = (addZ z n).add z from rfl, BankT.since_add]; exact addZ_since z n p
theorem addZ_ref (z : Nat) {n : Nat} (hn : n + 1 ≤ 31) (hz : z ≤ 4096) : (addZ z (n + 1)).ref = (addZ z n).ref.add z := by
  have o1 : (addZ z (n + 1)).order = [] := BankT.order_nil (addZ_still hz hn).inv fun p _ => addZ_since z _ p
  have o2 : (addZ z n).order = [] := BankT.order_nil (addZ_still hz (by omega)).inv fun p _ => addZ_since z _ p
  unfold BankT.ref
  rw [o1, o2]
  unfold BankT.refL RT.add
  show (⟨List.map Med.ref ((addZ z n).l ++ [Med.fresh z]), _, _, _, _, _⟩ : RT) = _
  rw [List.map_append]
  rfl
theorem zero_ref (z : Nat) : (addZ z 0).ref = RT.zero := by
  have o2 : (addZ z 0).order = [] := rfl
  unfold BankT.ref
  rw [o2]; rfl
section
variable {w0 W : World} {R : Nat → Prop} {p q : Nat} {T V : BankT}
theorem br_Add2 {z k : Nat} (h : BR w0 R W p V q (addZ z k).ref) (hk : k + 1 ≤ 31) (hz : 1 ≤ z ∧ z ≤ 4096) :
    Calls Tryz.prog 7 #[.pointer (some ⟨q, 0, none⟩), .int .i64 (z : Int)] W fun e w' => e = .returned (.tuple #[.int .i64 (k : Int), .int .i64 0]) ∧ BR w0 R w' p V q (addZ z (k + 1)).ref ∧ SameR R W w' := by
  have hl : (addZ z k).ref.l.length = k := (ref_len _ _).trans (addZ_len z k)
  rw [addZ_ref z hk hz.2]
  exact h.opr (P := fun e => e = .returned (.tuple #[.int .i64 (k : Int), .int .i64 0])) fun R hb => (rk_Add hb (by rw [hl]; omega) z hz.1 hz.2).mono fun e w' ⟨h1, h2, h3⟩ => ⟨by rw [h1, hl], h2, h3⟩
theorem br_New2 (z : Nat) (h : BK w0 R W p V) : Calls Tryz.prog 6 #[] W fun e w' => ∃ q, e = .returned (.pointer (some ⟨q, 0, none⟩)) ∧ BR w0 R w' p V q (addZ z 0).ref := by
  rw [zero_ref]; exact br_New h
theorem br_NewS (z : Nat) (h : BK w0 R W p V) : Calls Tryz.prog 6 #[] W fun e w' => ∃ q, e = .returned (.pointer (some ⟨q, 0, none⟩)) ∧ BR w0 R w' p V q (addZ z 0).ref ∧ SameR R W w' := by
  rw [zero_ref]
  obtain ⟨Y, h0, h⟩ := h
  exact (rk_New w0 W (fun k => Y.In V.l.length k ∨ R k) h.keeps (fun k hk => by
    rcases hk with hk | hk
    · exact h.d.lt hk
    · exact (h.off k hk).1)).mono fun e w' ⟨qr, he, hb, hk⟩ => ⟨qr, he, ⟨Y, h0, h.d.kept hk, h.own, fun k hk => (h.off k hk).2, hb⟩, fun k hk' => hk.block_eq (h.off k hk').1⟩
/-- what a law reads of the document's bank itself -/
theorem BR.cells (h : BR w0 R W p V q T.ref) : ∃ oa cap, W.cell? ⟨q, 1, none⟩ = some (.slice oa T.looseN cap) ∧ W.cell? ⟨q, 2, none⟩ = some (.bool T.down) ∧ W.cell? ⟨q, 3, none⟩ = some (.int .i64 T.writes) := by
  obtain ⟨Y, rfl, hd, _⟩ := h.doc
  have hn : T.looseN = T.ref.loose.length := (sortBy_perm _ _).length_eq.symm
  have hb := hd.bank
  have c1 := cell_of_row _ _ 1 _ _ _ hb
  have c2 := cell_of_row _ _ 2 _ _ _ hb
  have c3 := cell_of_row _ _ 3 _ _ _ hb
  rw [hn]
  rcases owns_form hd.loo with ⟨e, e0, _⟩ | ⟨g, cap, e, _⟩
  · refine ⟨none, 0, ?_, c2, c3⟩
    rw [c1, e0]
    show some Y.lv = _
    rw [e]
  · refine ⟨some ⟨g, 0, none⟩, cap, ?_, c2, c3⟩
    rw [c1]
    show some Y.lv = _
    rw [e]
end
end Go.Proofs.YtglplhmclfekfaaGreat
