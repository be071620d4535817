/- A disk.Bank in plain Lean: what its calls make of it. -/
import Derived.Test.YtglplhmclfekfaaDkb
namespace Go.Proofs.Ytglplhmclfekfaa
open Go.RowKit
set_option linter.unusedVariables false
set_option linter.unusedSimpArgs false

def insBy (key : Nat × Nat → Int) (x : Nat × Nat) : List (Nat × Nat) → List (Nat × Nat)
  | [] => [x]
  | y :: l => if key x ≤ key y then x :: y :: l else y :: insBy key x l
def sortBy (key : Nat × Nat → Int) : List (Nat × Nat) → List (Nat × Nat)
  | [] => []
  | x :: l => insBy key x (sortBy key l)
theorem insBy_perm (key : Nat × Nat → Int) (x : Nat × Nat) : ∀ l, (insBy key x l).Perm (x :: l)
  | [] => List.Perm.refl _
  | y :: l => by
    unfold insBy
    split
    · exact List.Perm.refl _
    · exact ((insBy_perm key x l).cons y).trans (List.Perm.swap x y l)
theorem sortBy_perm (key : Nat × Nat → Int) : ∀ l, (sortBy key l).Perm l
  | [] => List.Perm.refl _
  | x :: l => (insBy_perm key x _).trans ((sortBy_perm key l).cons x)
theorem insBy_sorted (key : Nat × Nat → Int) (x : Nat × Nat) : ∀ l, l.Pairwise (fun a b => key a ≤ key b) → (insBy key x l).Pairwise (fun a b => key a ≤ key b)
  | [], _ => by simp [insBy]
  | y :: l, h => by
    have h' := List.pairwise_cons.1 h
    unfold insBy
    split
    · rename_i hxy
      refine List.pairwise_cons.2 ⟨fun a ha => ?_, h⟩
      rcases List.mem_cons.1 ha with e | e
      · rw [e]; exact hxy
      · exact Int.le_trans hxy (h'.1 a e)
    · rename_i hxy
      refine List.pairwise_cons.2 ⟨fun a ha => ?_, insBy_sorted key x l h'.2⟩
      rcases List.mem_cons.1 ((insBy_perm key x l).mem_iff.1 ha) with e | e
      · rw [e]; omega
      · exact h'.1 a e
theorem sortBy_sorted (key : Nat × Nat → Int) : ∀ l, (sortBy key l).Pairwise (fun a b => key a ≤ key b)
  | [] => List.Pairwise.nil
  | x :: l => insBy_sorted key x _ (sortBy_sorted key l)
theorem sorted_unique (key : Nat × Nat → Int) : ∀ (l l' : List (Nat × Nat)), l.Perm l' → l.Pairwise (fun a b => key a ≤ key b) → l'.Pairwise (fun a b => key a ≤ key b) → (∀ x ∈ l, ∀ y ∈ l, key x = key y → x = y) → l = l'
  | [], l', h, _, _, _ => (List.nil_perm.1 h).symm
  | x :: l, [], h, _, _, _ => absurd h.length_eq (by simp)
  | x :: l, y :: l', h, h1, h2, hk => by
    have h1' := List.pairwise_cons.1 h1
    have h2' := List.pairwise_cons.1 h2
    have hy : y ∈ x :: l := h.mem_iff.2 (by simp)
    have hx : x ∈ y :: l' := h.mem_iff.1 (by simp)
    have hxy : key x ≤ key y := by
      rcases List.mem_cons.1 hy with e | e
      · rw [e]; exact Int.le_refl _
      · exact h1'.1 y e
    have hyx : key y ≤ key x := by
      rcases List.mem_cons.1 hx with e | e
      · rw [e]; exact Int.le_refl _
      · exact h2'.1 x e
    have e : x = y := hk x (by simp) y hy (by omega)
    subst e
    rw [sorted_unique key l l' (List.Perm.cons_inv h) h1'.2 h2'.2 (fun a ha b hb => hk a (by simp [ha]) b (by simp [hb]))]

def BankT.since (T : BankT) (p : Nat × Nat) : Int := (T.d p.1).sin.getD p.2 0
def BankT.order (T : BankT) : List (Nat × Nat) := sortBy T.since (T.looseTo T.l.length)
def BankT.crash (T : BankT) (mask : Int) : BankT := if T.down then T else { BankT.settleL mask T.order 0 T with down := true, armed := 0 }
def BankT.flush (T : BankT) (k : Nat) : BankT := T.up k ((T.d k).settleTo true (T.d k).sin.length)
def Med.kill (m : Med) : Med := { m with dead := true }
def BankT.fell (T : BankT) (k : Nat) : BankT := T.up k ((T.d k).kill.settleTo false (T.d k).sin.length)
def Med.less (m : Med) : Med := { m with fail := m.fail - 1 }
/-- a write is counted for disk k -/
def BankT.tick1 (T : BankT) (k : Nat) : BankT :=
  if 0 < (T.d k).fail then (if (T.d k).fail = 1 then (T.up k (T.d k).less).fell k else T.up k (T.d k).less) else T
def BankT.tickTo (T : BankT) : Nat → BankT
  | 0 => { T with writes := T.writes + 1 }
  | j + 1 => (T.tickTo j).tick1 j
def BankT.arm1 (T : BankT) : BankT := { T with armed := T.armed - 1 }
/-- a write is counted; false: the bank crashes at it -/
def BankT.tick (T : BankT) : BankT × Bool :=
  if T.down then (T, true)
  else if 0 < (T.tickTo T.l.length).armed then (if (T.tickTo T.l.length).armed = 1 then ((T.tickTo T.l.length).arm1.crash (T.tickTo T.l.length).mask, false) else ((T.tickTo T.l.length).arm1, true))
  else (T.tickTo T.l.length, true)
def BankT.readyE (T : BankT) (disk : Int) : Int :=
  if disk < 0 ∨ (T.l.length : Int) ≤ disk then 8 else if (T.d disk.toNat).dead then 7 else if T.down then 6 else 0
def BankT.inE (T : BankT) (disk at_ : Int) : Int :=
  if T.readyE disk ≠ 0 then T.readyE disk else if at_ < 0 ∨ ((T.d disk.toNat).sin.length : Int) ≤ at_ then 3 else 0
def Med.put (m : Med) (a : Nat) (s : List Int) (x : Int) : Med := { m with new := m.new.set a s, sin := m.sin.set a x }
def BankT.put (T : BankT) (k a : Nat) (s : List Int) : BankT :=
  if (T.d k).sin.getD a 0 = 0 then { T.up k ((T.d k).put a s (T.clock + 1)) with clock := T.clock + 1 } else T.up k ((T.d k).put a s ((T.d k).sin.getD a 0))
def BankT.write (T : BankT) (disk at_ : Int) (s : List Int) : BankT × Int :=
  if T.tick.2 = false then (T.tick.1, 6) else if T.tick.1.inE disk at_ = 0 then (T.tick.1.put disk.toNat at_.toNat s, 0) else (T.tick.1, T.tick.1.inE disk at_)
def BankT.read (T : BankT) (disk at_ : Int) : List Int × Int :=
  if T.inE disk at_ = 0 then ((T.d disk.toNat).new.getD at_.toNat [], 0) else (zeroB, T.inE disk at_)
def BankT.flushC (T : BankT) (disk : Int) : BankT × Int := if T.readyE disk = 0 then (T.flush disk.toNat, 0) else (T, T.readyE disk)
def BankT.failC (T : BankT) (disk : Int) : BankT × Int := if disk < 0 ∨ (T.l.length : Int) ≤ disk then (T, 8) else (T.fell disk.toNat, 0)
def BankT.failAt (T : BankT) (disk n : Int) : BankT := if disk < 0 ∨ (T.l.length : Int) ≤ disk then T else T.up disk.toNat { T.d disk.toNat with fail := max n 0 }
def BankT.arm (T : BankT) (n mask : Int) : BankT := { T with armed := max n 0, mask := mask }
def BankT.start (T : BankT) : BankT := { T with down := false }
def BankT.looseN (T : BankT) : Nat := (T.looseTo T.l.length).length
def BankT.add (T : BankT) (n : Nat) : BankT := { T with l := T.l ++ [Med.fresh n] }

/-- what always holds -/
structure BankT.Inv (T : BankT) : Prop where
  ok : T.Ok
  clk : 0 ≤ T.clock
  wr : 0 ≤ T.writes
  ar : 0 ≤ T.armed ∧ T.armed < 9223372036854775808
  msk : 0 ≤ T.mask ∧ T.mask < 18446744073709551616
  top : ∀ p, T.since p ≤ T.clock
  uniq : ∀ p q, 0 < T.since p → T.since p = T.since q → p = q
theorem BankT.mem_order (T : BankT) (p : Nat × Nat) : p ∈ T.order ↔ T.Has p ∧ 0 < T.since p := by
  unfold BankT.order
  rw [(sortBy_perm _ _).mem_iff, BankT.mem_looseTo]
  exact ⟨fun ⟨h1, h2, h3⟩ => ⟨⟨h1, h2⟩, h3⟩, fun ⟨⟨h1, h2⟩, h3⟩ => ⟨h1, h2, h3⟩⟩
theorem BankT.nodup_order (T : BankT) : T.order.Nodup := (sortBy_perm _ _).nodup_iff.2 (T.nodup_looseTo _)
theorem BankT.order_eq {T : BankT} (h : T.Inv) {l : List (Nat × Nat)} (hp : l.Perm (T.looseTo T.l.length)) (hs : l.Pairwise (fun a b => T.since a ≤ T.since b)) : l = T.order :=
  sorted_unique T.since l T.order (hp.trans (sortBy_perm _ _).symm) hs (sortBy_sorted _ _) fun x hx y hy e => h.uniq x y (((T.mem_looseTo _ x).1 (hp.mem_iff.1 hx)).2.2) e
/-- the numbers of loose places only become nought -/
structure BankT.Calmer (T T' : BankT) : Prop where
  len : T'.l.length = T.l.length
  lens : ∀ k, (T'.d k).sin.length = (T.d k).sin.length
  sin : ∀ p, T'.since p = T.since p ∨ T'.since p = 0
  clk : T'.clock = T.clock
theorem BankT.Calmer.refl (T : BankT) : T.Calmer T := ⟨rfl, fun _ => rfl, fun _ => .inl rfl, rfl⟩
theorem BankT.Calmer.trans {T T' T'' : BankT} (h : T.Calmer T') (k : T'.Calmer T'') : T.Calmer T'' :=
  ⟨k.len.trans h.len, fun i => (k.lens i).trans (h.lens i), fun p => by rcases k.sin p with e | e; · rw [e]; exact h.sin p
                                                                        · exact .inr e, k.clk.trans h.clk⟩
theorem BankT.Calmer.inv {T T' : BankT} (h : T.Calmer T') (i : T.Inv) (ok : T'.Ok) (wr : 0 ≤ T'.writes) (ar : 0 ≤ T'.armed ∧ T'.armed < 9223372036854775808) (mk : 0 ≤ T'.mask ∧ T'.mask < 18446744073709551616) : T'.Inv := by
  refine ⟨ok, by rw [h.clk]; exact i.clk, wr, ar, mk, fun p => ?_, fun p q hp hq => ?_⟩
  · rw [h.clk]
    rcases h.sin p with e | e
    · rw [e]; exact i.top p
    · rw [e]; exact i.clk
  · rcases h.sin p with e | e <;> rcases h.sin q with e' | e'
    · rw [e] at hp hq; rw [e'] at hq; exact i.uniq p q hp hq
    · rw [hq, e'] at hp; omega
    · omega
    · omega
theorem BankT.Calmer.up {T : BankT} {k : Nat} (hk : k < T.l.length) {m : Med} (hl : m.sin.length = (T.d k).sin.length) (hs : ∀ a, m.sin.getD a 0 = (T.d k).sin.getD a 0 ∨ m.sin.getD a 0 = 0) : T.Calmer (T.up k m) := by
  refine ⟨T.up_len k m, fun j => ?_, fun p => ?_, rfl⟩
  · rw [BankT.d_up m hk]; split
    · rename_i e; rw [e, hl]
    · rfl
  · unfold BankT.since
    rw [BankT.d_up m hk]; split
    · rename_i e; rw [e]; exact hs p.2
    · exact .inl rfl
theorem Med.settleTo_sin {m : Med} (h : m.Ok) (keep : Bool) {j : Nat} (hj : j ≤ m.sin.length) (a : Nat) : (m.settleTo keep j).sin.getD a 0 = m.sin.getD a 0 ∨ (m.settleTo keep j).sin.getD a 0 = 0 := by
  rw [(Med.settleTo_at h keep a hj).2.2]
  split
  · exact .inr rfl
  · exact .inl rfl
theorem Med.Ok.kill {m : Med} (h : m.Ok) : m.kill.Ok := ⟨h.flu, h.new, h.len, h.sin, h.fail⟩
theorem Med.Ok.less {m : Med} (h : m.Ok) (h0 : 0 < m.fail) : m.less.Ok := ⟨h.flu, h.new, h.len, h.sin, by have := h.fail; simp only [Med.less]; omega⟩
theorem BankT.flush_calmer {T : BankT} (h : T.Ok) {k : Nat} (hk : k < T.l.length) : T.Calmer (T.flush k) :=
  BankT.Calmer.up hk (by rw [Med.settleTo_len]) (Med.settleTo_sin (h.d hk) true (Nat.le_refl _))
theorem BankT.flush_ok {T : BankT} (h : T.Ok) {k : Nat} (hk : k < T.l.length) : (T.flush k).Ok := h.up k ((h.d hk).settleTo true (Nat.le_refl _))
theorem BankT.fell_calmer {T : BankT} (h : T.Ok) {k : Nat} (hk : k < T.l.length) : T.Calmer (T.fell k) :=
  BankT.Calmer.up hk (by rw [Med.settleTo_len]; rfl) (Med.settleTo_sin (h.d hk).kill false (Nat.le_refl _))
theorem BankT.fell_ok {T : BankT} (h : T.Ok) {k : Nat} (hk : k < T.l.length) : (T.fell k).Ok := h.up k ((h.d hk).kill.settleTo false (Nat.le_refl _))
theorem BankT.tick1_calmer {T : BankT} (h : T.Ok) {k : Nat} (hk : k < T.l.length) : T.Calmer (T.tick1 k) ∧ (T.tick1 k).Ok ∧ (T.tick1 k).writes = T.writes ∧ (T.tick1 k).armed = T.armed ∧ (T.tick1 k).mask = T.mask ∧ (T.tick1 k).down = T.down := by
  unfold BankT.tick1
  split
  · rename_i h0
    have c1 : T.Calmer (T.up k (T.d k).less) := BankT.Calmer.up hk rfl (fun _ => .inl rfl)
    have o1 : (T.up k (T.d k).less).Ok := h.up k ((h.d hk).less h0)
    split
    · exact ⟨c1.trans (BankT.fell_calmer o1 (by rw [BankT.up_len]; exact hk)), BankT.fell_ok o1 (by rw [BankT.up_len]; exact hk), rfl, rfl, rfl, rfl⟩
    · exact ⟨c1, o1, rfl, rfl, rfl, rfl⟩
  · exact ⟨BankT.Calmer.refl T, h, rfl, rfl, rfl, rfl⟩
theorem BankT.tickTo_calmer {T : BankT} (h : T.Ok) : ∀ {j : Nat}, j ≤ T.l.length → T.Calmer (T.tickTo j) ∧ (T.tickTo j).Ok ∧ (T.tickTo j).writes = T.writes + 1 ∧ (T.tickTo j).armed = T.armed ∧ (T.tickTo j).mask = T.mask ∧ (T.tickTo j).down = T.down
  | 0, _ => ⟨⟨rfl, fun _ => rfl, fun _ => .inl rfl, rfl⟩, h, rfl, rfl, rfl, rfl⟩
  | j + 1, hj => by
    obtain ⟨c, o, w, a, m, d⟩ := BankT.tickTo_calmer h (j := j) (by omega)
    obtain ⟨c', o', w', a', m', d'⟩ := BankT.tick1_calmer o (k := j) (by rw [c.len]; omega)
    exact ⟨c.trans c', o', w'.trans w, a'.trans a, m'.trans m, d'.trans d⟩
theorem BankT.settleL_calmer (mask : Int) : ∀ (L : List (Nat × Nat)) (i : Nat) {T : BankT}, T.Ok → (∀ p ∈ L, T.Has p) → T.Calmer (BankT.settleL mask L i T) ∧ (BankT.settleL mask L i T).writes = T.writes ∧ (BankT.settleL mask L i T).armed = T.armed ∧ (BankT.settleL mask L i T).mask = T.mask ∧ (BankT.settleL mask L i T).down = T.down
  | [], _, T, _, _ => ⟨BankT.Calmer.refl T, rfl, rfl, rfl, rfl⟩
  | (k, a) :: L, i, T, h, hp => by
    have hh := hp (k, a) (by simp)
    obtain ⟨c, w, ar, m, d⟩ := BankT.settleL_calmer mask L (i + 1) (h.settle1 hh (bitOf mask i)) (fun p hq => (BankT.has_settle1 hh (bitOf mask i) p).2 (hp p (by simp [hq])))
    refine ⟨BankT.Calmer.trans (BankT.Calmer.up hh.1 (by rw [Med.settle_sin, List.length_set]) fun b => ?_) c, w, ar, m, d⟩
    rw [(Med.settle_at (h.d hh.1) hh.2 (bitOf mask i) b).2.2]
    split
    · exact .inr rfl
    · exact .inl rfl
theorem BankT.Inv.crash {T : BankT} (h : T.Inv) (mask : Int) : (T.crash mask).Inv := by
  unfold BankT.crash
  split
  · exact h
  · have hp : ∀ p ∈ T.order, T.Has p := fun p hp => ((T.mem_order p).1 hp).1
    obtain ⟨c, w, ar, m, d⟩ := BankT.settleL_calmer mask T.order 0 h.ok hp
    refine BankT.Calmer.inv (T' := { BankT.settleL mask T.order 0 T with down := true, armed := 0 }) ⟨c.len, c.lens, c.sin, c.clk⟩ h (BankT.Ok.settleL mask h.ok hp) ?_ ⟨Int.le_refl _, by show (0 : Int) < 9223372036854775808; decide⟩ ?_
    · show 0 ≤ (BankT.settleL mask T.order 0 T).writes
      rw [w]; exact h.wr
    · show 0 ≤ (BankT.settleL mask T.order 0 T).mask ∧ _
      rw [m]; exact h.msk
theorem BankT.crash_len (T : BankT) (mask : Int) : (T.crash mask).l.length = T.l.length := by
  unfold BankT.crash
  split
  · rfl
  · exact BankT.settleL_len mask T.order 0 T
theorem BankT.Inv.flush {T : BankT} (h : T.Inv) {k : Nat} (hk : k < T.l.length) : (T.flush k).Inv := (BankT.flush_calmer h.ok hk).inv h (BankT.flush_ok h.ok hk) h.wr h.ar h.msk
theorem BankT.Inv.fell {T : BankT} (h : T.Inv) {k : Nat} (hk : k < T.l.length) : (T.fell k).Inv := (BankT.fell_calmer h.ok hk).inv h (BankT.fell_ok h.ok hk) h.wr h.ar h.msk
theorem BankT.Inv.tick {T : BankT} (h : T.Inv) : T.tick.1.Inv := by
  obtain ⟨c, o, w, a, m, d⟩ := BankT.tickTo_calmer h.ok (Nat.le_refl _)
  have hi : (T.tickTo T.l.length).Inv := c.inv h o (by rw [w]; have := h.wr; omega) (by rw [a]; exact h.ar) (by rw [m]; exact h.msk)
  unfold BankT.tick
  split
  · exact h
  · split
    · rename_i h0
      have h1 : (T.tickTo T.l.length).arm1.Inv := ⟨hi.ok, hi.clk, hi.wr, by have := hi.ar; simp only [BankT.arm1]; omega, hi.msk, hi.top, hi.uniq⟩
      split
      · exact h1.crash _
      · exact h1
    · exact hi
theorem BankT.tick_len {T : BankT} (h : T.Ok) : T.tick.1.l.length = T.l.length := by
  obtain ⟨c, _⟩ := BankT.tickTo_calmer h (Nat.le_refl _)
  unfold BankT.tick
  split
  · rfl
  · split
    · split
      · rw [BankT.crash_len]; exact c.len
      · exact c.len
    · exact c.len
theorem BankT.d_clock (T : BankT) (c : Int) (k : Nat) : ({ T with clock := c } : BankT).d k = T.d k := rfl
/-- the number that a sector that is written has -/
def BankT.stamp (T : BankT) (k a : Nat) : Int := if (T.d k).sin.getD a 0 = 0 then T.clock + 1 else (T.d k).sin.getD a 0
theorem BankT.put_d {T : BankT} {k : Nat} (hk : k < T.l.length) (a : Nat) (s : List Int) (c : Nat) : (T.put k a s).d c = if c = k then (T.d k).put a s (T.stamp k a) else T.d c := by
  unfold BankT.put BankT.stamp
  split
  · rw [BankT.d_clock, BankT.d_up _ hk]
  · rw [BankT.d_up _ hk]
theorem BankT.put_rest (T : BankT) (k a : Nat) (s : List Int) : (T.put k a s).l.length = T.l.length ∧ (T.put k a s).down = T.down ∧ (T.put k a s).writes = T.writes ∧ (T.put k a s).armed = T.armed ∧ (T.put k a s).mask = T.mask := by
  unfold BankT.put
  split <;> exact ⟨BankT.up_len _ _ _, rfl, rfl, rfl, rfl⟩
theorem BankT.put_clock (T : BankT) (k a : Nat) (s : List Int) : (T.put k a s).clock = if (T.d k).sin.getD a 0 = 0 then T.clock + 1 else T.clock := by
  unfold BankT.put
  split <;> rfl
theorem Med.put_at {m : Med} (h : m.Ok) {a : Nat} (ha : a < m.sin.length) (s : List Int) (x : Int) (b : Nat) :
    (m.put a s x).flu.getD b [] = m.flu.getD b [] ∧ (m.put a s x).new.getD b [] = (if b = a then s else m.new.getD b []) ∧ (m.put a s x).sin.getD b 0 = (if b = a then x else m.sin.getD b 0) := by
  have h2 : a < m.new.length := by rw [h.new.1]; exact ha
  unfold Med.put
  by_cases e : b = a
  · subst e
    simp [List.getD_eq_getElem?_getD, List.getElem?_set, ha, h2]
  · simp [List.getD_eq_getElem?_getD, List.getElem?_set, e, Ne.symm e]
theorem Med.Ok.put {m : Med} (h : m.Ok) {a : Nat} (ha : a < m.sin.length) {s : List Int} (hs : s.length = 64 ∧ ∀ x ∈ s, IsByte x) {x : Int} (hx : 0 ≤ x) : (m.put a s x).Ok := by
  refine ⟨by simpa [Med.put] using h.flu, by simpa [Med.put] using h.new.set a hs, by simpa [Med.put] using h.len, fun y hy => ?_, h.fail⟩
  rcases List.mem_or_eq_of_mem_set hy with h' | h'
  · exact h.sin _ h'
  · rw [h']; exact hx
theorem getD_nonneg {l : List Int} (h : ∀ x ∈ l, 0 ≤ x) (a : Nat) : 0 ≤ l.getD a 0 := by
  rw [List.getD_eq_getElem?_getD]
  by_cases ha : a < l.length
  · rw [List.getElem?_eq_getElem ha]; exact h _ (List.getElem_mem ha)
  · rw [List.getElem?_eq_none (by omega)]; exact Int.le_refl _
theorem BankT.Inv.put {T : BankT} (h : T.Inv) {k a : Nat} (hk : k < T.l.length) (ha : a < (T.d k).sin.length) {s : List Int} (hs : s.length = 64 ∧ ∀ x ∈ s, IsByte x) : (T.put k a s).Inv := by
  have h0 : ∀ p : Nat × Nat, 0 ≤ T.since p := fun p => by
    unfold BankT.since
    by_cases e : p.1 < T.l.length
    · exact getD_nonneg (h.ok.d e).sin _
    · have : T.d p.1 = Med.zero := by unfold BankT.d; rw [List.getD_eq_getElem?_getD, List.getElem?_eq_none (by omega)]; rfl
      rw [this]; exact getD_nonneg (by simp [Med.zero]) _
  have hst : 0 ≤ T.stamp k a := by
    unfold BankT.stamp
    split
    · have := h.clk; omega
    · exact h0 (k, a)
  obtain ⟨r1, r2, r3, r4, r5⟩ := T.put_rest k a s
  have hsi : ∀ p, (T.put k a s).since p = if p = (k, a) then T.stamp k a else T.since p := fun p => by
    unfold BankT.since
    rw [BankT.put_d hk]
    by_cases e : p.1 = k
    · rw [if_pos e, (Med.put_at (h.ok.d hk) ha s _ p.2).2.2]
      by_cases e2 : p.2 = a
      · rw [if_pos e2, if_pos (Prod.ext e e2)]
      · rw [if_neg e2, if_neg (fun e3 => e2 (by rw [e3])), e]
    · rw [if_neg e, if_neg (fun e3 => e (by rw [e3]))]
  have okl : (T.put k a s).Ok := by
    unfold BankT.put
    split
    · exact h.ok.up k ((h.ok.d hk).put ha hs (by have := h.clk; omega))
    · exact h.ok.up k ((h.ok.d hk).put ha hs (h0 (k, a)))
  refine ⟨okl, ?_, by rw [r3]; exact h.wr, by rw [r4]; exact h.ar, by rw [r5]; exact h.msk, fun p => ?_, fun p q hp hq => ?_⟩
  · rw [BankT.put_clock]; have := h.clk; split <;> omega
  · rw [BankT.put_clock, hsi]
    have h1 := h.top p
    have h2 := h.top (k, a)
    unfold BankT.stamp
    show _ ≤ _
    change T.since (k, a) ≤ _ at h2
    by_cases e : (T.d k).sin.getD a 0 = 0
    · rw [if_pos e, if_pos e]; split <;> omega
    · rw [if_neg e, if_neg e]
      split
      · exact h2
      · exact h1
  · rw [hsi] at hp hq
    rw [hsi] at hq
    have t1 := h.top p
    have t2 := h.top q
    by_cases e : (T.d k).sin.getD a 0 = 0
    · have es : T.stamp k a = T.clock + 1 := by unfold BankT.stamp; rw [if_pos e]
      rw [es] at hp hq
      split at hq
      · rename_i e1
        split at hq
        · rename_i e2; rw [e1, e2]
        · omega
      · rename_i e1
        rw [if_neg e1] at hp
        split at hq
        · omega
        · exact h.uniq p q hp hq
    · have es : T.stamp k a = T.since (k, a) := by unfold BankT.stamp; rw [if_neg e]; rfl
      rw [es] at hp hq
      have u : ∀ r, (if r = (k, a) then T.since (k, a) else T.since r) = T.since r := fun r => by
        split
        · rename_i e; rw [e]
        · rfl
      rw [u] at hp hq
      rw [u] at hq
      exact h.uniq p q hp hq
end Go.Proofs.Ytglplhmclfekfaa
