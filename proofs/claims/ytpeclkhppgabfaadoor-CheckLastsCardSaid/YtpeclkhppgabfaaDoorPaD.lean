/- PaD: several texts in one: Dkd Dke Dkf Dkg Dkh Dki. -/
import Derived.Test.YtpeclkhppgabfaaDoorPaC
/- A disk.Bank in plain Lean: what its calls make of it. -/
namespace Go.Proofs.YtpeclkhppgabfaaDoor
open Go.RowKit
set_option linter.unusedVariables false
set_option linter.unusedSimpArgs false

def insBy (key : Nat × Nat → Int) (x : Nat × Nat) : List (Nat × Nat) → List (Nat × Nat)
  | [] => [x]
  | y :: l => if key x ≤ key y then x :: y :: l else y :: insBy key x l
def sortBy (key : Nat × Nat → Int) : List (Nat × Nat) → List (Nat × Nat)
  | [] => []
  | x :: l => insBy key x (sortBy key l)
theorem insBy_perm (key : Nat × Nat → Int) (x : Nat × Nat) : ∀ l, (insBy key x l).Perm (x :: l)
  | [] => List.Perm.refl _
  | y :: l => by
    unfold insBy
    split
    · exact List.Perm.refl _
    · exact ((insBy_perm key x l).cons y).trans (List.Perm.swap x y l)
theorem sortBy_perm (key : Nat × Nat → Int) : ∀ l, (sortBy key l).Perm l
  | [] => List.Perm.refl _
  | x :: l => (insBy_perm key x _).trans ((sortBy_perm key l).cons x)
theorem insBy_sorted (key : Nat × Nat → Int) (x : Nat × Nat) : ∀ l, l.Pairwise (fun a b => key a ≤ key b) → (insBy key x l).Pairwise (fun a b => key a ≤ key b)
  | [], _ => by simp [insBy]
  | y :: l, h => by
    have h' := List.pairwise_cons.1 h
    unfold insBy
    split
    · rename_i hxy
      refine List.pairwise_cons.2 ⟨fun a ha => ?_, h⟩
      rcases List.mem_cons.1 ha with e | e
      · rw [e]; exact hxy
      · exact Int.le_trans hxy (h'.1 a e)
    · rename_i hxy
      refine List.pairwise_cons.2 ⟨fun a ha => ?_, insBy_sorted key x l h'.2⟩
      rcases List.mem_cons.1 ((insBy_perm key x l).mem_iff.1 ha) with e | e
      · rw [e]; omega
      · exact h'.1 a e
theorem sortBy_sorted (key : Nat × Nat → Int) : ∀ l, (sortBy key l).Pairwise (fun a b => key a ≤ key b)
  | [] => List.Pairwise.nil
  | x :: l => insBy_sorted key x _ (sortBy_sorted key l)
theorem sorted_unique (key : Nat × Nat → Int) : ∀ (l l' : List (Nat × Nat)), l.Perm l' → l.Pairwise (fun a b => key a ≤ key b) → l'.Pairwise (fun a b => key a ≤ key b) → (∀ x ∈ l, ∀ y ∈ l, key x = key y → x = y) → l = l'
  | [], l', h, _, _, _ => (List.nil_perm.1 h).symm
  | x :: l, [], h, _, _, _ => absurd h.length_eq (by simp)
  | x :: l, y :: l', h, h1, h2, hk => by
    have h1' := List.pairwise_cons.1 h1
    have h2' := List.pairwise_cons.1 h2
    have hy : y ∈ x :: l := h.mem_iff.2 (by simp)
    have hx : x ∈ y :: l' := h.mem_iff.1 (by simp)
    have hxy : key x ≤ key y := by
      rcases List.mem_cons.1 hy with e | e
      · rw [e]; exact Int.le_refl _
      · exact h1'.1 y e
    have hyx : key y ≤ key x := by
      rcases List.mem_cons.1 hx with e | e
      · rw [e]; exact Int.le_refl _
      · exact h2'.1 x e
    have e : x = y := hk x (by simp) y hy (by omega)
    subst e
    rw [sorted_unique key l l' (List.Perm.cons_inv h) h1'.2 h2'.2 (fun a ha b hb => hk a (by simp [ha]) b (by simp [hb]))]

def BankT.since (T : BankT) (p : Nat × Nat) : Int := (T.d p.1).sin.getD p.2 0
def BankT.order (T : BankT) : List (Nat × Nat) := sortBy T.since (T.looseTo T.l.length)
def BankT.crash (T : BankT) (mask : Int) : BankT := if T.down then T else { BankT.settleL mask T.order 0 T with down := true, armed := 0 }
def BankT.flush (T : BankT) (k : Nat) : BankT := T.up k ((T.d k).settleTo true (T.d k).sin.length)
def Med.kill (m : Med) : Med := { m with dead := true }
def BankT.fell (T : BankT) (k : Nat) : BankT := T.up k ((T.d k).kill.settleTo false (T.d k).sin.length)
def Med.less (m : Med) : Med := { m with fail := m.fail - 1 }
/-- a write is counted for disk k -/
def BankT.tick1 (T : BankT) (k : Nat) : BankT :=
  if 0 < (T.d k).fail then (if (T.d k).fail = 1 then (T.up k (T.d k).less).fell k else T.up k (T.d k).less) else T
def BankT.tickTo (T : BankT) : Nat → BankT
  | 0 => { T with writes := T.writes + 1 }
  | j + 1 => (T.tickTo j).tick1 j
def BankT.arm1 (T : BankT) : BankT := { T with armed := T.armed - 1 }
/-- a write is counted; false: the bank crashes at it -/
def BankT.tick (T : BankT) : BankT × Bool :=
  if T.down then (T, true)
  else if 0 < (T.tickTo T.l.length).armed then (if (T.tickTo T.l.length).armed = 1 then ((T.tickTo T.l.length).arm1.crash (T.tickTo T.l.length).mask, false) else ((T.tickTo T.l.length).arm1, true))
  else (T.tickTo T.l.length, true)
def BankT.readyE (T : BankT) (disk : Int) : Int :=
  if disk < 0 ∨ (T.l.length : Int) ≤ disk then 8 else if (T.d disk.toNat).dead then 7 else if T.down then 6 else 0
def BankT.inE (T : BankT) (disk at_ : Int) : Int :=
  if T.readyE disk ≠ 0 then T.readyE disk else if at_ < 0 ∨ ((T.d disk.toNat).sin.length : Int) ≤ at_ then 3 else 0
def Med.put (m : Med) (a : Nat) (s : List Int) (x : Int) : Med := { m with new := m.new.set a s, sin := m.sin.set a x }
def BankT.put (T : BankT) (k a : Nat) (s : List Int) : BankT :=
  if (T.d k).sin.getD a 0 = 0 then { T.up k ((T.d k).put a s (T.clock + 1)) with clock := T.clock + 1 } else T.up k ((T.d k).put a s ((T.d k).sin.getD a 0))
def BankT.write (T : BankT) (disk at_ : Int) (s : List Int) : BankT × Int :=
  if T.tick.2 = false then (T.tick.1, 6) else if T.tick.1.inE disk at_ = 0 then (T.tick.1.put disk.toNat at_.toNat s, 0) else (T.tick.1, T.tick.1.inE disk at_)
def BankT.read (T : BankT) (disk at_ : Int) : List Int × Int :=
  if T.inE disk at_ = 0 then ((T.d disk.toNat).new.getD at_.toNat [], 0) else (zeroB, T.inE disk at_)
def BankT.flushC (T : BankT) (disk : Int) : BankT × Int := if T.readyE disk = 0 then (T.flush disk.toNat, 0) else (T, T.readyE disk)
def BankT.failC (T : BankT) (disk : Int) : BankT × Int := if disk < 0 ∨ (T.l.length : Int) ≤ disk then (T, 8) else (T.fell disk.toNat, 0)
def BankT.failAt (T : BankT) (disk n : Int) : BankT := if disk < 0 ∨ (T.l.length : Int) ≤ disk then T else T.up disk.toNat { T.d disk.toNat with fail := max n 0 }
def BankT.arm (T : BankT) (n mask : Int) : BankT := { T with armed := max n 0, mask := mask }
def BankT.start (T : BankT) : BankT := { T with down := false }
def BankT.looseN (T : BankT) : Nat := (T.looseTo T.l.length).length
def BankT.add (T : BankT) (n : Nat) : BankT := { T with l := T.l ++ [Med.fresh n] }

/-- what always holds -/
structure BankT.Inv (T : BankT) : Prop where
  ok : T.Ok
  clk : 0 ≤ T.clock
  wr : 0 ≤ T.writes
  ar : 0 ≤ T.armed ∧ T.armed < 9223372036854775808
  msk : 0 ≤ T.mask ∧ T.mask < 18446744073709551616
  top : ∀ p, T.since p ≤ T.clock
  uniq : ∀ p q, 0 < T.since p → T.since p = T.since q → p = q
theorem BankT.mem_order (T : BankT) (p : Nat × Nat) : p ∈ T.order ↔ T.Has p ∧ 0 < T.since p := by
  unfold BankT.order
  rw [(sortBy_perm _ _).mem_iff, BankT.mem_looseTo]
  exact ⟨fun ⟨h1, h2, h3⟩ => ⟨⟨h1, h2⟩, h3⟩, fun ⟨⟨h1, h2⟩, h3⟩ => ⟨h1, h2, h3⟩⟩
theorem BankT.nodup_order (T : BankT) : T.order.Nodup := (sortBy_perm _ _).nodup_iff.2 (T.nodup_looseTo _)
theorem BankT.order_eq {T : BankT} (h : T.Inv) {l : List (Nat × Nat)} (hp : l.Perm (T.looseTo T.l.length)) (hs : l.Pairwise (fun a b => T.since a ≤ T.since b)) : l = T.order :=
  sorted_unique T.since l T.order (hp.trans (sortBy_perm _ _).symm) hs (sortBy_sorted _ _) fun x hx y hy e => h.uniq x y (((T.mem_looseTo _ x).1 (hp.mem_iff.1 hx)).2.2) e
/-- the numbers of loose places only become nought -/
structure BankT.Calmer (T T' : BankT) : Prop where
  len : T'.l.length = T.l.length
  lens : ∀ k, (T'.d k).sin.length = (T.d k).sin.length
  sin : ∀ p, T'.since p = T.since p ∨ T'.since p = 0
  clk : T'.clock = T.clock
theorem BankT.Calmer.refl (T : BankT) : T.Calmer T := ⟨rfl, fun _ => rfl, fun _ => .inl rfl, rfl⟩
theorem BankT.Calmer.trans {T T' T'' : BankT} (h : T.Calmer T') (k : T'.Calmer T'') : T.Calmer T'' :=
  ⟨k.len.trans h.len, fun i => (k.lens i).trans (h.lens i), fun p => by rcases k.sin p with e | e; · rw [e]; exact h.sin p
                                                                        · exact .inr e, k.clk.trans h.clk⟩
theorem BankT.Calmer.inv {T T' : BankT} (h : T.Calmer T') (i : T.Inv) (ok : T'.Ok) (wr : 0 ≤ T'.writes) (ar : 0 ≤ T'.armed ∧ T'.armed < 9223372036854775808) (mk : 0 ≤ T'.mask ∧ T'.mask < 18446744073709551616) : T'.Inv := by
  refine ⟨ok, by rw [h.clk]; exact i.clk, wr, ar, mk, fun p => ?_, fun p q hp hq => ?_⟩
  · rw [h.clk]
    rcases h.sin p with e | e
    · rw [e]; exact i.top p
    · rw [e]; exact i.clk
  · rcases h.sin p with e | e <;> rcases h.sin q with e' | e'
    · rw [e] at hp hq; rw [e'] at hq; exact i.uniq p q hp hq
    · rw [hq, e'] at hp; omega
    · omega
    · omega
theorem BankT.Calmer.up {T : BankT} {k : Nat} (hk : k < T.l.length) {m : Med} (hl : m.sin.length = (T.d k).sin.length) (hs : ∀ a, m.sin.getD a 0 = (T.d k).sin.getD a 0 ∨ m.sin.getD a 0 = 0) : T.Calmer (T.up k m) := by
  refine ⟨T.up_len k m, fun j => ?_, fun p => ?_, rfl⟩
  · rw [BankT.d_up m hk]; split
    · rename_i e; rw [e, hl]
    · rfl
  · unfold BankT.since
    rw [BankT.d_up m hk]; split
    · rename_i e; rw [e]; exact hs p.2
    · exact .inl rfl
theorem Med.settleTo_sin {m : Med} (h : m.Ok) (keep : Bool) {j : Nat} (hj : j ≤ m.sin.length) (a : Nat) : (m.settleTo keep j).sin.getD a 0 = m.sin.getD a 0 ∨ (m.settleTo keep j).sin.getD a 0 = 0 := by
  rw [(Med.settleTo_at h keep a hj).2.2]
  split
  · exact .inr rfl
  · exact .inl rfl
theorem Med.Ok.kill {m : Med} (h : m.Ok) : m.kill.Ok := ⟨h.flu, h.new, h.len, h.sin, h.fail⟩
theorem Med.Ok.less {m : Med} (h : m.Ok) (h0 : 0 < m.fail) : m.less.Ok := ⟨h.flu, h.new, h.len, h.sin, by have := h.fail; simp only [Med.less]; omega⟩
theorem BankT.flush_calmer {T : BankT} (h : T.Ok) {k : Nat} (hk : k < T.l.length) : T.Calmer (T.flush k) :=
  BankT.Calmer.up hk (by rw [Med.settleTo_len]) (Med.settleTo_sin (h.d hk) true (Nat.le_refl _))
theorem BankT.flush_ok {T : BankT} (h : T.Ok) {k : Nat} (hk : k < T.l.length) : (T.flush k).Ok := h.up k ((h.d hk).settleTo true (Nat.le_refl _))
theorem BankT.fell_calmer {T : BankT} (h : T.Ok) {k : Nat} (hk : k < T.l.length) : T.Calmer (T.fell k) :=
  BankT.Calmer.up hk (by rw [Med.settleTo_len]; rfl) (Med.settleTo_sin (h.d hk).kill false (Nat.le_refl _))
theorem BankT.fell_ok {T : BankT} (h : T.Ok) {k : Nat} (hk : k < T.l.length) : (T.fell k).Ok := h.up k ((h.d hk).kill.settleTo false (Nat.le_refl _))
theorem BankT.tick1_calmer {T : BankT} (h : T.Ok) {k : Nat} (hk : k < T.l.length) : T.Calmer (T.tick1 k) ∧ (T.tick1 k).Ok ∧ (T.tick1 k).writes = T.writes ∧ (T.tick1 k).armed = T.armed ∧ (T.tick1 k).mask = T.mask ∧ (T.tick1 k).down = T.down := by
  unfold BankT.tick1
  split
  · rename_i h0
    have c1 : T.Calmer (T.up k (T.d k).less) := BankT.Calmer.up hk rfl (fun _ => .inl rfl)
    have o1 : (T.up k (T.d k).less).Ok := h.up k ((h.d hk).less h0)
    split
    · exact ⟨c1.trans (BankT.fell_calmer o1 (by rw [BankT.up_len]; exact hk)), BankT.fell_ok o1 (by rw [BankT.up_len]; exact hk), rfl, rfl, rfl, rfl⟩
    · exact ⟨c1, o1, rfl, rfl, rfl, rfl⟩
  · exact ⟨BankT.Calmer.refl T, h, rfl, rfl, rfl, rfl⟩
theorem BankT.tickTo_calmer {T : BankT} (h : T.Ok) : ∀ {j : Nat}, j ≤ T.l.length → T.Calmer (T.tickTo j) ∧ (T.tickTo j).Ok ∧ (T.tickTo j).writes = T.writes + 1 ∧ (T.tickTo j).armed = T.armed ∧ (T.tickTo j).mask = T.mask ∧ (T.tickTo j).down = T.down
  | 0, _ => ⟨⟨rfl, fun _ => rfl, fun _ => .inl rfl, rfl⟩, h, rfl, rfl, rfl, rfl⟩
  | j + 1, hj => by
    obtain ⟨c, o, w, a, m, d⟩ := BankT.tickTo_calmer h (j := j) (by omega)
    obtain ⟨c', o', w', a', m', d'⟩ := BankT.tick1_calmer o (k := j) (by rw [c.len]; omega)
    exact ⟨c.trans c', o', w'.trans w, a'.trans a, m'.trans m, d'.trans d⟩
theorem BankT.settleL_calmer (mask : Int) : ∀ (L : List (Nat × Nat)) (i : Nat) {T : BankT}, T.Ok → (∀ p ∈ L, T.Has p) → T.Calmer (BankT.settleL mask L i T) ∧ (BankT.settleL mask L i T).writes = T.writes ∧ (BankT.settleL mask L i T).armed = T.armed ∧ (BankT.settleL mask L i T).mask = T.mask ∧ (BankT.settleL mask L i T).down = T.down
  | [], _, T, _, _ => ⟨BankT.Calmer.refl T, rfl, rfl, rfl, rfl⟩
  | (k, a) :: L, i, T, h, hp => by
    have hh := hp (k, a) (by simp)
    obtain ⟨c, w, ar, m, d⟩ := BankT.settleL_calmer mask L (i + 1) (h.settle1 hh (bitOf mask i)) (fun p hq => (BankT.has_settle1 hh (bitOf mask i) p).2 (hp p (by simp [hq])))
    refine ⟨BankT.Calmer.trans (BankT.Calmer.up hh.1 (by rw [Med.settle_sin, List.length_set]) fun b => ?_) c, w, ar, m, d⟩
    rw [(Med.settle_at (h.d hh.1) hh.2 (bitOf mask i) b).2.2]
    split
    · exact .inr rfl
    · exact .inl rfl
theorem BankT.Inv.crash {T : BankT} (h : T.Inv) (mask : Int) : (T.crash mask).Inv := by
  unfold BankT.crash
  split
  · exact h
  · have hp : ∀ p ∈ T.order, T.Has p := fun p hp => ((T.mem_order p).1 hp).1
    obtain ⟨c, w, ar, m, d⟩ := BankT.settleL_calmer mask T.order 0 h.ok hp
    refine BankT.Calmer.inv (T' := { BankT.settleL mask T.order 0 T with down := true, armed := 0 }) ⟨c.len, c.lens, c.sin, c.clk⟩ h (BankT.Ok.settleL mask h.ok hp) ?_ ⟨Int.le_refl _, by show (0 : Int) < 9223372036854775808; decide⟩ ?_
    · show 0 ≤ (BankT.settleL mask T.order 0 T).writes
      rw [w]; exact h.wr
    · show 0 ≤ (BankT.settleL mask T.order 0 T).mask ∧ _
      rw [m]; exact h.msk
theorem BankT.crash_len (T : BankT) (mask : Int) : (T.crash mask).l.length = T.l.length := by
  unfold BankT.crash
  split
  · rfl
  · exact BankT.settleL_len mask T.order 0 T
theorem BankT.Inv.flush {T : BankT} (h : T.Inv) {k : Nat} (hk : k < T.l.length) : (T.flush k).Inv := (BankT.flush_calmer h.ok hk).inv h (BankT.flush_ok h.ok hk) h.wr h.ar h.msk
theorem BankT.Inv.fell {T : BankT} (h : T.Inv) {k : Nat} (hk : k < T.l.length) : (T.fell k).Inv := (BankT.fell_calmer h.ok hk).inv h (BankT.fell_ok h.ok hk) h.wr h.ar h.msk
theorem BankT.Inv.tick {T : BankT} (h : T.Inv) : T.tick.1.Inv := by
  obtain ⟨c, o, w, a, m, d⟩ := BankT.tickTo_calmer h.ok (Nat.le_refl _)
  have hi : (T.tickTo T.l.length).Inv := c.inv h o (by rw [w]; have := h.wr; omega) (by rw [a]; exact h.ar) (by rw [m]; exact h.msk)
  unfold BankT.tick
  split
  · exact h
  · split
    · rename_i h0
      have h1 : (T.tickTo T.l.length).arm1.Inv := ⟨hi.ok, hi.clk, hi.wr, by have := hi.ar; simp only [BankT.arm1]; omega, hi.msk, hi.top, hi.uniq⟩
      split
      · exact h1.crash _
      · exact h1
    · exact hi
theorem BankT.tick_len {T : BankT} (h : T.Ok) : T.tick.1.l.length = T.l.length := by
  obtain ⟨c, _⟩ := BankT.tickTo_calmer h (Nat.le_refl _)
  unfold BankT.tick
  split
  · rfl
  · split
    · split
      · rw [BankT.crash_len]; exact c.len
      · exact c.len
    · exact c.len
theorem BankT.d_clock (T : BankT) (c : Int) (k : Nat) : ({ T with clock := c } : BankT).d k = T.d k := rfl
/-- the number that a sector that is written has -/
def BankT.stamp (T : BankT) (k a : Nat) : Int := if (T.d k).sin.getD a 0 = 0 then T.clock + 1 else (T.d k).sin.getD a 0
theorem BankT.put_d {T : BankT} {k : Nat} (hk : k < T.l.length) (a : Nat) (s : List Int) (c : Nat) : (T.put k a s).d c = if c = k then (T.d k).put a s (T.stamp k a) else T.d c := by
  unfold BankT.put BankT.stamp
  split
  · rw [BankT.d_clock, BankT.d_up _ hk]
  · rw [BankT.d_up _ hk]
theorem BankT.put_rest (T : BankT) (k a : Nat) (s : List Int) : (T.put k a s).l.length = T.l.length ∧ (T.put k a s).down = T.down ∧ (T.put k a s).writes = T.writes ∧ (T.put k a s).armed = T.armed ∧ (T.put k a s).mask = T.mask := by
  unfold BankT.put
  split <;> exact ⟨BankT.up_len _ _ _, rfl, rfl, rfl, rfl⟩
theorem BankT.put_clock (T : BankT) (k a : Nat) (s : List Int) : (T.put k a s).clock = if (T.d k).sin.getD a 0 = 0 then T.clock + 1 else T.clock := by
  unfold BankT.put
  split <;> rfl
theorem Med.put_at {m : Med} (h : m.Ok) {a : Nat} (ha : a < m.sin.length) (s : List Int) (x : Int) (b : Nat) :
    (m.put a s x).flu.getD b [] = m.flu.getD b [] ∧ (m.put a s x).new.getD b [] = (if b = a then s else m.new.getD b []) ∧ (m.put a s x).sin.getD b 0 = (if b = a then x else m.sin.getD b 0) := by
  have h2 : a < m.new.length := by rw [h.new.1]; exact ha
  unfold Med.put
  by_cases e : b = a
  · subst e
    simp [List.getD_eq_getElem?_getD, List.getElem?_set, ha, h2]
  · simp [List.getD_eq_getElem?_getD, List.getElem?_set, e, Ne.symm e]
theorem Med.Ok.put {m : Med} (h : m.Ok) {a : Nat} (ha : a < m.sin.length) {s : List Int} (hs : s.length = 64 ∧ ∀ x ∈ s, IsByte x) {x : Int} (hx : 0 ≤ x) : (m.put a s x).Ok := by
  refine ⟨by simpa [Med.put] using h.flu, by simpa [Med.put] using h.new.set a hs, by simpa [Med.put] using h.len, fun y hy => ?_, h.fail⟩
  rcases List.mem_or_eq_of_mem_set hy with h' | h'
  · exact h.sin _ h'
  · rw [h']; exact hx
theorem getD_nonneg {l : List Int} (h : ∀ x ∈ l, 0 ≤ x) (a : Nat) : 0 ≤ l.getD a 0 := by
  rw [List.getD_eq_getElem?_getD]
  by_cases ha : a < l.length
  · rw [List.getElem?_eq_getElem ha]; exact h _ (List.getElem_mem ha)
  · rw [List.getElem?_eq_none (by omega)]; exact Int.le_refl _
theorem BankT.Inv.put {T : BankT} (h : T.Inv) {k a : Nat} (hk : k < T.l.length) (ha : a < (T.d k).sin.length) {s : List Int} (hs : s.length = 64 ∧ ∀ x ∈ s, IsByte x) : (T.put k a s).Inv := by
  have h0 : ∀ p : Nat × Nat, 0 ≤ T.since p := fun p => by
    unfold BankT.since
    by_cases e : p.1 < T.l.length
    · exact getD_nonneg (h.ok.d e).sin _
    · have : T.d p.1 = Med.zero := by unfold BankT.d; rw [List.getD_eq_getElem?_getD, List.getElem?_eq_none (by omega)]; rfl
      rw [this]; exact getD_nonneg (by simp [Med.zero]) _
  have hst : 0 ≤ T.stamp k a := by
    unfold BankT.stamp
    split
    · have := h.clk; omega
    · exact h0 (k, a)
  obtain ⟨r1, r2, r3, r4, r5⟩ := T.put_rest k a s
  have hsi : ∀ p, (T.put k a s).since p = if p = (k, a) then T.stamp k a else T.since p := fun p => by
    unfold BankT.since
    rw [BankT.put_d hk]
    by_cases e : p.1 = k
    · rw [if_pos e, (Med.put_at (h.ok.d hk) ha s _ p.2).2.2]
      by_cases e2 : p.2 = a
      · rw [if_pos e2, if_pos (Prod.ext e e2)]
      · rw [if_neg e2, if_neg (fun e3 => e2 (by rw [e3])), e]
    · rw [if_neg e, if_neg (fun e3 => e (by rw [e3]))]
  have okl : (T.put k a s).Ok := by
    unfold BankT.put
    split
    · exact h.ok.up k ((h.ok.d hk).put ha hs (by have := h.clk; omega))
    · exact h.ok.up k ((h.ok.d hk).put ha hs (h0 (k, a)))
  refine ⟨okl, ?_, by rw [r3]; exact h.wr, by rw [r4]; exact h.ar, by rw [r5]; exact h.msk, fun p => ?_, fun p q hp hq => ?_⟩
  · rw [BankT.put_clock]; have := h.clk; split <;> omega
  · rw [BankT.put_clock, hsi]
    have h1 := h.top p
    have h2 := h.top (k, a)
    unfold BankT.stamp
    show _ ≤ _
    change T.since (k, a) ≤ _ at h2
    by_cases e : (T.d k).sin.getD a 0 = 0
    · rw [if_pos e, if_pos e]; split <;> omega
    · rw [if_neg e, if_neg e]
      split
      · exact h2
      · exact h1
  · rw [hsi] at hp hq
    rw [hsi] at hq
    have t1 := h.top p
    have t2 := h.top q
    by_cases e : (T.d k).sin.getD a 0 = 0
    · have es : T.stamp k a = T.clock + 1 := by unfold BankT.stamp; rw [if_pos e]
      rw [es] at hp hq
      split at hq
      · rename_i e1
        split at hq
        · rename_i e2; rw [e1, e2]
        · omega
      · rename_i e1
        rw [if_neg e1] at hp
        split at hq
        · omega
        · exact h.uniq p q hp hq
    · have es : T.stamp k a = T.since (k, a) := by unfold BankT.stamp; rw [if_neg e]; rfl
      rw [es] at hp hq
      have u : ∀ r, (if r = (k, a) then T.since (k, a) else T.since r) = T.since r := fun r => by
        split
        · rename_i e; rw [e]
        · rfl
      rw [u] at hp hq
      rw [u] at hq
      exact h.uniq p q hp hq
end Go.Proofs.YtpeclkhppgabfaaDoor
/- A disk.Bank: who is there, who may be used; the places that are loose are gone through: for each function that is called (gen_loose.py). -/
namespace Go.Proofs.YtpeclkhppgabfaaDoor
open Go.RowKit
set_option linter.unusedVariables false
set_option linter.unusedSimpArgs false

section
variable {w : World} {Y : Lay} {T : BankT}
set_option maxHeartbeats 1000000 in
set_option maxRecDepth 100000 in
theorem loose_Flush {w : World} {B D : Nat} {c : Nat} {sin : List Int} (cs : w.cell? ⟨B, 2, none⟩ = some (.slice (some ⟨D, 0, none⟩) sin.length sin.length)) (hn : sin.length ≤ 4096) (Inv : Nat → World → Prop) (h0 : Inv 0 w)
    (hr : ∀ j w1, j < sin.length → Inv j w1 → w1.cell? ⟨D, j, none⟩ = some (.int .i64 (sin.getD j 0)))
    (hc : ∀ j w1, j < sin.length → 0 < sin.getD j 0 → Inv j w1 → Calls Tryd.prog 69 #[.int .i64 (j : Int), .pointer (some ⟨c, 0, none⟩)] w1 fun e w2 => e = .returned (.tuple #[]) ∧ Inv (j + 1) w2)
    (hs : ∀ j w1, j < sin.length → ¬ 0 < sin.getD j 0 → Inv j w1 → Inv (j + 1) w1) :
    Calls Tryd.prog 42 #[.pointer (some ⟨B, 0, none⟩), .func (.func 69) #[] #[.pointer (some ⟨c, 0, none⟩)]] w fun e w' => e = .returned (.tuple #[]) ∧ Inv sin.length w' := by
  have HR := Lib.hid hr; clear hr
  have HC := Lib.hid hc; clear hc
  have HS := Lib.hid hs; clear hs
  have H0 := Lib.hid h0; clear h0
  go_enter Tryd.func42, Tryd.ntmps42
  go_wp2
  go_loopw [11] (fun i wr => ∃ k : Nat, k ≤ sin.length ∧ i = .int .i64 k ∧ Inv k wr) (fun i _ => sin.length - (intOf i).toNat)
  case atStart => exact ⟨0, Nat.zero_le _, rfl, H0.out⟩
  case round =>
    obtain ⟨k, hk, rfl, I⟩ := hrel
    by_cases hlt : k < sin.length
    · have c0 := HR.out k _ hlt I
      have hS := HS.out k wr hlt
      have hC := HC.out k wr hlt
      generalize sin.getD k 0 = x at *
      have HSx := Lib.hid hS; clear hS
      have HCx := Lib.hid hC; clear hC
      have HI := Lib.hid I; clear I
      by_cases hx : 0 < x
      · go_wp2_with fail
        refine Calls.mono (HCx.out hx HI.out) ?_
        rintro e w2 ⟨rfl, I2⟩
        have HI2 := Lib.hid I2; clear I2
        go_wp2
        go_roundw
        case rel => exact ⟨k + 1, hlt, by go_num, HI2.out⟩
        case measure => simp [intOf]; omega
      · have I2 := Lib.hid (HSx.out (by omega) HI.out)
        go_wp2
        go_roundw
        case rel => exact ⟨k + 1, hlt, by go_num, I2.out⟩
        case measure => simp [intOf]; omega
    · have : k = sin.length := by omega
      subst this
      have HI := Lib.hid I; clear I
      go_wp2
      go_end0
      exact ⟨rfl, HI.out⟩
set_option maxHeartbeats 1000000 in
set_option maxRecDepth 100000 in
theorem loose_Fail {w : World} {B D : Nat} {c : Nat} {sin : List Int} (cs : w.cell? ⟨B, 2, none⟩ = some (.slice (some ⟨D, 0, none⟩) sin.length sin.length)) (hn : sin.length ≤ 4096) (Inv : Nat → World → Prop) (h0 : Inv 0 w)
    (hr : ∀ j w1, j < sin.length → Inv j w1 → w1.cell? ⟨D, j, none⟩ = some (.int .i64 (sin.getD j 0)))
    (hc : ∀ j w1, j < sin.length → 0 < sin.getD j 0 → Inv j w1 → Calls Tryd.prog 49 #[.int .i64 (j : Int), .pointer (some ⟨c, 0, none⟩)] w1 fun e w2 => e = .returned (.tuple #[]) ∧ Inv (j + 1) w2)
    (hs : ∀ j w1, j < sin.length → ¬ 0 < sin.getD j 0 → Inv j w1 → Inv (j + 1) w1) :
    Calls Tryd.prog 42 #[.pointer (some ⟨B, 0, none⟩), .func (.func 49) #[] #[.pointer (some ⟨c, 0, none⟩)]] w fun e w' => e = .returned (.tuple #[]) ∧ Inv sin.length w' := by
  have HR := Lib.hid hr; clear hr
  have HC := Lib.hid hc; clear hc
  have HS := Lib.hid hs; clear hs
  have H0 := Lib.hid h0; clear h0
  go_enter Tryd.func42, Tryd.ntmps42
  go_wp2
  go_loopw [11] (fun i wr => ∃ k : Nat, k ≤ sin.length ∧ i = .int .i64 k ∧ Inv k wr) (fun i _ => sin.length - (intOf i).toNat)
  case atStart => exact ⟨0, Nat.zero_le _, rfl, H0.out⟩
  case round =>
    obtain ⟨k, hk, rfl, I⟩ := hrel
    by_cases hlt : k < sin.length
    · have c0 := HR.out k _ hlt I
      have hS := HS.out k wr hlt
      have hC := HC.out k wr hlt
      generalize sin.getD k 0 = x at *
      have HSx := Lib.hid hS; clear hS
      have HCx := Lib.hid hC; clear hC
      have HI := Lib.hid I; clear I
      by_cases hx : 0 < x
      · go_wp2_with fail
        refine Calls.mono (HCx.out hx HI.out) ?_
        rintro e w2 ⟨rfl, I2⟩
        have HI2 := Lib.hid I2; clear I2
        go_wp2
        go_roundw
        case rel => exact ⟨k + 1, hlt, by go_num, HI2.out⟩
        case measure => simp [intOf]; omega
      · have I2 := Lib.hid (HSx.out (by omega) HI.out)
        go_wp2
        go_roundw
        case rel => exact ⟨k + 1, hlt, by go_num, I2.out⟩
        case measure => simp [intOf]; omega
    · have : k = sin.length := by omega
      subst this
      have HI := Lib.hid I; clear I
      go_wp2
      go_end0
      exact ⟨rfl, HI.out⟩
--
--
--
--
--
--
--
--
--
--
--
--
--
--
--
--
--
--
--
--
--
--
--
--
--
--
--
--
--
--
--
--
--
--
--
--
--
--
--
--
--
--
--
--
--
set_option maxHeartbeats 1000000 in
set_option maxRecDepth 100000 in
theorem loose_Crash {w : World} {B D : Nat} {c d : Nat} {sin : List Int} (cs : w.cell? ⟨B, 2, none⟩ = some (.slice (some ⟨D, 0, none⟩) sin.length sin.length)) (hn : sin.length ≤ 4096) (Inv : Nat → World → Prop) (h0 : Inv 0 w)
    (hr : ∀ j w1, j < sin.length → Inv j w1 → w1.cell? ⟨D, j, none⟩ = some (.int .i64 (sin.getD j 0)))
    (hc : ∀ j w1, j < sin.length → 0 < sin.getD j 0 → Inv j w1 → Calls Tryd.prog 43 #[.int .i64 (j : Int), .pointer (some ⟨c, 0, none⟩), .pointer (some ⟨d, 0, none⟩)] w1 fun e w2 => e = .returned (.tuple #[]) ∧ Inv (j + 1) w2)
    (hs : ∀ j w1, j < sin.length → ¬ 0 < sin.getD j 0 → Inv j w1 → Inv (j + 1) w1) :
    Calls Tryd.prog 42 #[.pointer (some ⟨B, 0, none⟩), .func (.func 43) #[] #[.pointer (some ⟨c, 0, none⟩), .pointer (some ⟨d, 0, none⟩)]] w fun e w' => e = .returned (.tuple #[]) ∧ Inv sin.length w' := by
  have HR := Lib.hid hr; clear hr
  have HC := Lib.hid hc; clear hc
  have HS := Lib.hid hs; clear hs
  have H0 := Lib.hid h0; clear h0
  go_enter Tryd.func42, Tryd.ntmps42
  go_wp2
  go_loopw [11] (fun i wr => ∃ k : Nat, k ≤ sin.length ∧ i = .int .i64 k ∧ Inv k wr) (fun i _ => sin.length - (intOf i).toNat)
  case atStart => exact ⟨0, Nat.zero_le _, rfl, H0.out⟩
  case round =>
    obtain ⟨k, hk, rfl, I⟩ := hrel
    by_cases hlt : k < sin.length
    · have c0 := HR.out k _ hlt I
      have hS := HS.out k wr hlt
      have hC := HC.out k wr hlt
      generalize sin.getD k 0 = x at *
      have HSx := Lib.hid hS; clear hS
      have HCx := Lib.hid hC; clear hC
      have HI := Lib.hid I; clear I
      by_cases hx : 0 < x
      · go_wp2_with fail
        refine Calls.mono (HCx.out hx HI.out) ?_
        rintro e w2 ⟨rfl, I2⟩
        have HI2 := Lib.hid I2; clear I2
        go_wp2
        go_roundw
        case rel => exact ⟨k + 1, hlt, by go_num, HI2.out⟩
        case measure => simp [intOf]; omega
      · have I2 := Lib.hid (HSx.out (by omega) HI.out)
        go_wp2
        go_roundw
        case rel => exact ⟨k + 1, hlt, by go_num, I2.out⟩
        case measure => simp [intOf]; omega
    · have : k = sin.length := by omega
      subst this
      have HI := Lib.hid I; clear I
      go_wp2
      go_end0
      exact ⟨rfl, HI.out⟩
end
end Go.Proofs.YtpeclkhppgabfaaDoor
/- A disk.Bank: all that is loose on a disk is settled (gen_settle.py). -/
namespace Go.Proofs.YtpeclkhppgabfaaDoor
open Go.RowKit
set_option linter.unusedVariables false
set_option linter.unusedSimpArgs false

theorem Med.settleTo_succ {m : Med} (keep : Bool) (j : Nat) : m.settleTo keep (j + 1) = if 0 < m.sin.getD j 0 then (m.settleTo keep j).settle j keep else m.settleTo keep j := rfl
theorem BankD.cell_sin {w : World} {Y : Lay} {T : BankT} (h : BankD w Y T) {k : Nat} (hk : k < T.l.length) {j : Nat} (hj : j < (T.d k).sin.length) : w.cell? ⟨Y.A (5 + 4 * k), j, none⟩ = some (.int .i64 ((T.d k).sin.getD j 0)) := by
  rw [cell_of_row _ _ _ _ _ _ (h.sin k hk)]
  simp [ints, List.getD_eq_getElem?_getD, hj]
section
variable {w : World} {Y : Lay} {T : BankT} {k c : Nat}
set_option maxHeartbeats 1000000 in
set_option maxRecDepth 100000 in
theorem closure_Flush (h : BankD w Y T) (ok : T.Ok) (hk : k < T.l.length) (hc : w.cell? ⟨c, 0, none⟩ = some (.pointer (some ⟨Y.A (2 + 4 * k), 0, none⟩))) {j : Nat} (hj : j < (T.d k).sin.length) :
    Calls Tryd.prog 69 #[.int .i64 (j : Int), .pointer (some ⟨c, 0, none⟩)] w fun e w2 => e = .returned (.tuple #[]) ∧ BankD w2 Y (T.up k ((T.d k).settle j true)) ∧ But (Y.In T.l.length) w w2 := by
  have HC := Lib.hid (med_settle h ok hk hj true)
  clear h ok
  go_enter Tryd.func69, Tryd.ntmps69
  go_wp2_with fail
  refine Calls.mono HC.out ?_
  rintro e w2 ⟨rfl, h1, h2⟩
  have H1 := Lib.hid h1; have H2 := Lib.hid h2; clear h1 h2
  go_wp2
  go_end0
  exact ⟨rfl, H1.out, H2.out⟩
theorem settles_Flush (h : BankD w Y T) (ok : T.Ok) (hk : k < T.l.length) (hc : w.cell? ⟨c, 0, none⟩ = some (.pointer (some ⟨Y.A (2 + 4 * k), 0, none⟩))) (hn : ¬ Y.In T.l.length c) :
    Calls Tryd.prog 42 #[.pointer (some ⟨Y.A (2 + 4 * k), 0, none⟩), .func (.func 69) #[] #[.pointer (some ⟨c, 0, none⟩)]] w fun e w' =>
      e = .returned (.tuple #[]) ∧ BankD w' Y (T.up k ((T.d k).settleTo true (T.d k).sin.length)) ∧ But (Y.In T.l.length) w w' := by
  have okd := ok.d hk
  have hl : ∀ j, ((T.d k).settleTo true j).sin.length = (T.d k).sin.length := fun j => Med.settleTo_len _ _ _
  refine loose_Flush (sin := (T.d k).sin) (D := Y.A (5 + 4 * k)) (h.cells hk 2 (by simp [medVals])) okd.len (fun j w1 => BankD w1 Y (T.up k ((T.d k).settleTo true j)) ∧ But (Y.In T.l.length) w w1) ?_ ?_ ?_ ?_
  · exact ⟨by rw [Med.settleTo, BankT.up_d _ _ hk]; exact h, But.refl _ _⟩
  · rintro j w1 hj ⟨h1, _⟩
    have := h1.cell_sin (k := k) (by rw [BankT.up_len]; exact hk) (j := j) (by rw [BankT.up_self _ hk, hl]; exact hj)
    rw [BankT.up_self _ hk, (Med.settleTo_at okd true j (Nat.le_of_lt hj)).2.2, if_neg (by omega)] at this
    exact this
  · rintro j w1 hj hp ⟨h1, h2⟩
    have hk' : k < (T.up k ((T.d k).settleTo true j)).l.length := by rw [BankT.up_len]; exact hk
    refine (closure_Flush h1 (ok.up k (okd.settleTo true (Nat.le_of_lt hj))) hk' (h2.cell hn hc) (by rw [BankT.up_self _ hk, hl]; exact hj)).mono ?_
    rintro e w2 ⟨rfl, h3, h4⟩
    rw [BankT.up_self _ hk, BankT.up_up] at h3
    rw [BankT.up_len] at h4
    exact ⟨rfl, by rw [Med.settleTo_succ, if_pos hp]; exact h3, h2.trans h4⟩
  · rintro j w1 hj hp ⟨h1, h2⟩
    exact ⟨by rw [Med.settleTo_succ, if_neg hp]; exact h1, h2⟩
set_option maxHeartbeats 1000000 in
set_option maxRecDepth 100000 in
theorem closure_Fail (h : BankD w Y T) (ok : T.Ok) (hk : k < T.l.length) (hc : w.cell? ⟨c, 0, none⟩ = some (.pointer (some ⟨Y.A (2 + 4 * k), 0, none⟩))) {j : Nat} (hj : j < (T.d k).sin.length) :
    Calls Tryd.prog 49 #[.int .i64 (j : Int), .pointer (some ⟨c, 0, none⟩)] w fun e w2 => e = .returned (.tuple #[]) ∧ BankD w2 Y (T.up k ((T.d k).settle j false)) ∧ But (Y.In T.l.length) w w2 := by
  have HC := Lib.hid (med_settle h ok hk hj false)
  clear h ok
  go_enter Tryd.func49, Tryd.ntmps49
  go_wp2_with fail
  refine Calls.mono HC.out ?_
  rintro e w2 ⟨rfl, h1, h2⟩
  have H1 := Lib.hid h1; have H2 := Lib.hid h2; clear h1 h2
  go_wp2
  go_end0
  exact ⟨rfl, H1.out, H2.out⟩
theorem settles_Fail (h : BankD w Y T) (ok : T.Ok) (hk : k < T.l.length) (hc : w.cell? ⟨c, 0, none⟩ = some (.pointer (some ⟨Y.A (2 + 4 * k), 0, none⟩))) (hn : ¬ Y.In T.l.length c) :
    Calls Tryd.prog 42 #[.pointer (some ⟨Y.A (2 + 4 * k), 0, none⟩), .func (.func 49) #[] #[.pointer (some ⟨c, 0, none⟩)]] w fun e w' =>
      e = .returned (.tuple #[]) ∧ BankD w' Y (T.up k ((T.d k).settleTo false (T.d k).sin.length)) ∧ But (Y.In T.l.length) w w' := by
  have okd := ok.d hk
  have hl : ∀ j, ((T.d k).settleTo false j).sin.length = (T.d k).sin.length := fun j => Med.settleTo_len _ _ _
  refine loose_Fail (sin := (T.d k).sin) (D := Y.A (5 + 4 * k)) (h.cells hk 2 (by simp [medVals])) okd.len (fun j w1 => BankD w1 Y (T.up k ((T.d k).settleTo false j)) ∧ But (Y.In T.l.length) w w1) ?_ ?_ ?_ ?_
  · exact ⟨by rw [Med.settleTo, BankT.up_d _ _ hk]; exact h, But.refl _ _⟩
  · rintro j w1 hj ⟨h1, _⟩
    have := h1.cell_sin (k := k) (by rw [BankT.up_len]; exact hk) (j := j) (by rw [BankT.up_self _ hk, hl]; exact hj)
    rw [BankT.up_self _ hk, (Med.settleTo_at okd false j (Nat.le_of_lt hj)).2.2, if_neg (by omega)] at this
    exact this
  · rintro j w1 hj hp ⟨h1, h2⟩
    have hk' : k < (T.up k ((T.d k).settleTo false j)).l.length := by rw [BankT.up_len]; exact hk
    refine (closure_Fail h1 (ok.up k (okd.settleTo false (Nat.le_of_lt hj))) hk' (h2.cell hn hc) (by rw [BankT.up_self _ hk, hl]; exact hj)).mono ?_
    rintro e w2 ⟨rfl, h3, h4⟩
    rw [BankT.up_self _ hk, BankT.up_up] at h3
    rw [BankT.up_len] at h4
    exact ⟨rfl, by rw [Med.settleTo_succ, if_pos hp]; exact h3, h2.trans h4⟩
  · rintro j w1 hj hp ⟨h1, h2⟩
    exact ⟨by rw [Med.settleTo_succ, if_neg hp]; exact h1, h2⟩
end
end Go.Proofs.YtpeclkhppgabfaaDoor
/- A disk.Bank: what is read of it; who may be used. -/
namespace Go.Proofs.YtpeclkhppgabfaaDoor
open Go.RowKit
set_option linter.unusedVariables false
set_option linter.unusedSimpArgs false

section
variable {w : World} {Y : Lay} {T : BankT}
theorem BankD.b0 (h : BankD w Y T) (hN : T.l.length ≠ 0) : w.cell? ⟨Y.A 0, 0, none⟩ = some (.slice (some ⟨Y.A 1, 0, none⟩) T.l.length Y.c) := by
  rw [cell_of_row _ _ _ _ _ _ h.bank]; simp [bankVals, Lay.list, hN]
theorem BankD.b1 (h : BankD w Y T) : w.cell? ⟨Y.A 0, 1, none⟩ = some (.bool T.down) := by
  rw [cell_of_row _ _ _ _ _ _ h.bank]; simp [bankVals]
theorem BankD.b2 (h : BankD w Y T) : w.cell? ⟨Y.A 0, 2, none⟩ = some (.int .i64 T.clock) := by
  rw [cell_of_row _ _ _ _ _ _ h.bank]; simp [bankVals]
theorem BankD.b3 (h : BankD w Y T) : w.cell? ⟨Y.A 0, 3, none⟩ = some (.int .i64 T.writes) := by
  rw [cell_of_row _ _ _ _ _ _ h.bank]; simp [bankVals]
theorem BankD.b4 (h : BankD w Y T) : w.cell? ⟨Y.A 0, 4, none⟩ = some (.int .i64 T.armed) := by
  rw [cell_of_row _ _ _ _ _ _ h.bank]; simp [bankVals]
theorem BankD.b5 (h : BankD w Y T) : w.cell? ⟨Y.A 0, 5, none⟩ = some (.int .u64 T.mask) := by
  rw [cell_of_row _ _ _ _ _ _ h.bank]; simp [bankVals]
theorem BankD.r (h : BankD w Y T) {k : Nat} (hk : k < T.l.length) : w.cell? ⟨Y.A 1, k, none⟩ = some (.pointer (some ⟨Y.A (2 + 4 * k), 0, none⟩)) := by
  obtain ⟨h1, h2, h3, _, h4⟩ := h.row (by omega)
  rw [cell_of_row _ _ _ _ _ _ h1]
  have := h4 k hk
  simpa [Lay.ptr] using this
theorem BankD.m0 (h : BankD w Y T) {k : Nat} (hk : k < T.l.length) : w.cell? ⟨Y.A (2 + 4 * k), 0, none⟩ = some (.slice (some ⟨Y.A (3 + 4 * k), 0, none⟩) (T.d k).sin.length (T.d k).sin.length) := (h.cells hk) 0 (by simp [medVals])
theorem BankD.m1 (h : BankD w Y T) {k : Nat} (hk : k < T.l.length) : w.cell? ⟨Y.A (2 + 4 * k), 1, none⟩ = some (.slice (some ⟨Y.A (4 + 4 * k), 0, none⟩) (T.d k).sin.length (T.d k).sin.length) := (h.cells hk) 1 (by simp [medVals])
theorem BankD.m2 (h : BankD w Y T) {k : Nat} (hk : k < T.l.length) : w.cell? ⟨Y.A (2 + 4 * k), 2, none⟩ = some (.slice (some ⟨Y.A (5 + 4 * k), 0, none⟩) (T.d k).sin.length (T.d k).sin.length) := (h.cells hk) 2 (by simp [medVals])
theorem BankD.m3 (h : BankD w Y T) {k : Nat} (hk : k < T.l.length) : w.cell? ⟨Y.A (2 + 4 * k), 3, none⟩ = some (.bool (T.d k).dead) := (h.cells hk) 3 (by simp [medVals])
theorem BankD.m4 (h : BankD w Y T) {k : Nat} (hk : k < T.l.length) : w.cell? ⟨Y.A (2 + 4 * k), 4, none⟩ = some (.int .i64 (T.d k).fail) := (h.cells hk) 4 (by simp [medVals])
theorem tup_eq {a b c d : Value} (h1 : a = c) (h2 : b = d) : Ending.returned (.tuple #[a, b]) = .returned (.tuple #[c, d]) := by rw [h1, h2]

set_option maxHeartbeats 1000000
set_option maxRecDepth 100000
theorem bank_is (h : BankD w Y T) (hN : T.l.length ≠ 0) (d : Int) : Calls Tryd.prog 48 #[.pointer (some ⟨Y.A 0, 0, none⟩), .int .i64 d] w fun e w' => e = .returned (.bool (decide (0 ≤ d) && decide (d < T.l.length))) ∧ w = w' := by
  have c0 := h.b0 hN
  clear h
  by_cases h0 : 0 ≤ d
  · go_enter Tryd.func48, Tryd.ntmps48
    go_wp2
    go_ret
    refine ⟨ret_bool ?_, rfl⟩
    simp [h0]
  · go_enter Tryd.func48, Tryd.ntmps48
    go_wp2
    go_ret
    refine ⟨ret_bool ?_, rfl⟩
    simp [h0]; omega
theorem bank_is_t (h : BankD w Y T) {k : Nat} (hk : k < T.l.length) : Calls Tryd.prog 48 #[.pointer (some ⟨Y.A 0, 0, none⟩), .int .i64 (k : Int)] w fun e w' => e = .returned (.bool true) ∧ w = w' :=
  (bank_is h (by omega) (k : Int)).mono fun e w' ⟨he, hw⟩ => ⟨by rw [he]; simp; omega, hw⟩
theorem bank_is_f (h : BankD w Y T) (hN : T.l.length ≠ 0) {d : Int} (hd : d < 0 ∨ (T.l.length : Int) ≤ d) : Calls Tryd.prog 48 #[.pointer (some ⟨Y.A 0, 0, none⟩), .int .i64 d] w fun e w' => e = .returned (.bool false) ∧ w = w' :=
  (bank_is h hN d).mono fun e w' ⟨he, hw⟩ => ⟨by rw [he]; simp; omega, hw⟩
theorem med_in (h : BankD w Y T) {k : Nat} (hk : k < T.l.length) (a : Int) : Calls Tryd.prog 41 #[.pointer (some ⟨Y.A (2 + 4 * k), 0, none⟩), .int .i64 a] w fun e w' => e = .returned (.bool (decide (0 ≤ a) && decide (a < (T.d k).sin.length))) ∧ w = w' := by
  have c1 := h.m1 hk
  clear h
  by_cases h0 : 0 ≤ a
  · go_enter Tryd.func41, Tryd.ntmps41
    go_wp2
    go_ret
    refine ⟨ret_bool ?_, rfl⟩
    simp [h0]
  · go_enter Tryd.func41, Tryd.ntmps41
    go_wp2
    go_ret
    refine ⟨ret_bool ?_, rfl⟩
    simp [h0]; omega
theorem bank_ready (h : BankD w Y T) (hN : T.l.length ≠ 0) (d : Int) : Calls Tryd.prog 40 #[.pointer (some ⟨Y.A 0, 0, none⟩), .int .i64 d] w fun e w' =>
    e = .returned (.tuple #[if T.readyE d = 0 then .pointer (some ⟨Y.A (2 + 4 * d.toNat), 0, none⟩) else .pointer none, .int .i64 (T.readyE d)]) ∧ w = w' := by
  by_cases h0 : d < 0 ∨ (T.l.length : Int) ≤ d
  · have hi := Lib.hid (bank_is_f h hN h0)
    have he : T.readyE d = 8 := by unfold BankT.readyE; rw [if_pos h0]
    rw [he]
    clear h he
    go_enter Tryd.func40, Tryd.ntmps40
    go_wp2_with fail
    refine Calls.mono hi.out ?_
    rintro e w' ⟨rfl, rfl⟩
    go_wp2
    go_ret2
    exact ⟨rfl, rfl⟩
  · obtain ⟨k, rfl, hk⟩ : ∃ k : Nat, d = (k : Int) ∧ k < T.l.length := ⟨d.toNat, by omega, by omega⟩
    have hi := Lib.hid (bank_is_t h hk)
    have c0 := h.b0 hN
    have cr := h.r hk
    have cd := h.m3 hk
    have cu := h.b1
    have he : T.readyE (k : Int) = if (T.d k).dead then 7 else if T.down then 6 else 0 := by unfold BankT.readyE; rw [if_neg h0, Int.toNat_natCast]
    rw [he, Int.toNat_natCast]
    clear h he h0
    have r1 : ∀ z : Value, (if ((7 : Int) = 0) then z else .pointer none) = .pointer none := fun _ => rfl
    have r2 : ∀ z : Value, (if ((6 : Int) = 0) then z else .pointer none) = .pointer none := fun _ => rfl
    have r3 : ∀ z : Value, (if ((0 : Int) = 0) then z else .pointer none) = z := fun _ => rfl
    cases hd : (T.d k).dead with
    | true =>
      rw [hd] at cd
      rw [if_pos rfl, r1]
      clear hd cu r1 r2 r3
      go_enter Tryd.func40, Tryd.ntmps40
      go_wp2_with fail
      refine Calls.mono hi.out ?_
      rintro e w' ⟨rfl, rfl⟩
      go_wp2
      go_ret2
      exact ⟨rfl, rfl⟩
    | false =>
      rw [hd] at cd
      rw [if_neg Bool.false_ne_true]
      clear hd
      cases hu : T.down with
      | true =>
        rw [hu] at cu
        rw [if_pos rfl, r2]
        clear hu r1 r2 r3
        go_enter Tryd.func40, Tryd.ntmps40
        go_wp2_with fail
        refine Calls.mono hi.out ?_
        rintro e w' ⟨rfl, rfl⟩
        go_wp2
        go_ret2
        exact ⟨rfl, rfl⟩
      | false =>
        rw [hu] at cu
        rw [if_neg Bool.false_ne_true, r3]
        clear hu r1 r2 r3
        go_enter Tryd.func40, Tryd.ntmps40
        go_wp2_with fail
        refine Calls.mono hi.out ?_
        rintro e w' ⟨rfl, rfl⟩
        go_wp2
        go_ret2
        exact ⟨rfl, rfl⟩
end
end Go.Proofs.YtpeclkhppgabfaaDoor
/- A disk.Bank: Flush, Fail, Start, Up, Writes, Dead, Arm, FailAt. -/
namespace Go.Proofs.YtpeclkhppgabfaaDoor
open Go.RowKit
set_option linter.unusedVariables false
set_option linter.unusedSimpArgs false

section
variable {P : Program} {ops : Array Oper} {rest : List Oper} {o1 o2 : Oper} {a : Act} {w : World} {Q : Exit → Act → World → Prop}
/-- A new variable of one cell, and what it is given; the world a letter. -/
theorem wpList_new_one (hg1 : o1.guard = none) (hg2 : Region.wanted o2 (yielded ops (a.put o1.dst (.pointer (some ⟨w.heap.size, 0, none⟩))).tmps) = true) {T : Nat} (x y : Operand) (ho1 : o1.op = .alloc T) (ho2 : o2.op = .store T x y) (hT : (P.info? T).map (·.size) = some 1)
    (z : Value) (hz : ∀ w, (zeroValue T).run P w = .ok z w) (hzc : z.cells = #[z])
    (v : Value) (hy : (a.put o1.dst (.pointer (some ⟨w.heap.size, 0, none⟩))).eval y = v) (hv : v.cells = #[v]) (h1 : v.oneCell' = true)
    (hx : (a.put o1.dst (.pointer (some ⟨w.heap.size, 0, none⟩))).eval x = .pointer (some ⟨w.heap.size, 0, none⟩))
    (h : ∀ w1, Hid (w1.heap[w.heap.size]? = some (.cells #[v] T (0, 0))) → w.heap.size < w1.heap.size → Kept w w1 → wpList P ops Q rest ((a.put o1.dst (.pointer (some ⟨w.heap.size, 0, none⟩))).put o2.dst undef) w1) : wpList P ops Q (o1 :: o2 :: rest) a w := by
  refine wpList_plain hg1 fun K hK => ?_
  unfold Oper.wp execOp
  simp only [ho1, Instr.alloc, newVar, newRow, Sem.run_bind, hz, Result.andThen_ok, Sem.run_pure, run_newObj_alloc, hzc]
  refine hK _ _ ?_
  refine wpList_set_cell hg2 x y ho2 hT w.heap.size 0 hx v hy hv h1 [z] T (heap_alloc_new w _) (by simp) ?_
  intro w1 hw1
  refine h w1 (Lib.hid (by simpa using hw1.blk)) (by rw [hw1.size]; simp) (hw1.kept ((Kept.refl _).alloc _) (Nat.le_refl _))
end
theorem one_cell {w : World} {b : Nat} {v : Value} {t : TypeId} (h : w.heap[b]? = some (.cells #[v] t (0, 0))) : w.cell? ⟨b, 0, none⟩ = some v := by
  have := cell_of_row w b 0 #[v] t (0, 0) h
  simpa using this
theorem size_ptr : (Tryd.prog.info? 79).map (·.size) = some 1 := by kernel_rfl
theorem size_bool : (Tryd.prog.info? 4).map (·.size) = some 1 := by kernel_rfl
theorem size_u64 : (Tryd.prog.info? 45).map (·.size) = some 1 := by kernel_rfl
theorem zero_ptr (w : World) : (zeroValue 79).run Tryd.prog w = .ok (.pointer none) w := by kernel_rfl
section
variable {w : World} {Y : Lay} {T : BankT}
theorem BankD.not_in (h : BankD w Y T) : ¬ Y.In T.l.length w.heap.size := fun hi => by have := h.lt hi; omega
set_option maxHeartbeats 1000000
set_option maxRecDepth 100000
theorem bank_Flush (h : BankD w Y T) (ok : T.Ok) (hN : T.l.length ≠ 0) (d : Int) : Calls Tryd.prog 57 #[.pointer (some ⟨Y.A 0, 0, none⟩), .int .i64 d] w fun e w' =>
    e = .returned (.int .i64 (T.flushC d).2) ∧ BankD w' Y (T.flushC d).1 ∧ But (Y.In T.l.length) w w' := by
  have hR := Lib.hid (bank_ready h hN d)
  unfold BankT.flushC
  by_cases hr : T.readyE d = 0
  · rw [if_pos hr]
    obtain ⟨k, rfl, hk⟩ : ∃ k : Nat, d = (k : Int) ∧ k < T.l.length := by
      unfold BankT.readyE at hr
      split at hr
      · omega
      · exact ⟨d.toNat, by omega, by omega⟩
    have hR' := hR.out
    rw [hr, if_pos rfl, Int.toNat_natCast] at hR'
    clear hR
    have HR := Lib.hid hR'; clear hR'
    rw [Int.toNat_natCast]
    have H := Lib.hid h; clear h
    clear hr
    go_enter Tryd.func57, Tryd.ntmps57
    go_wp2_with fail
    refine Calls.mono HR.out ?_
    rintro e w1 ⟨rfl, rfl⟩
    go_wp2_with (refine stop_at (o := ⟨some 5, _, _, _, _, _⟩) ?_)
    refine Stop.mk ?_
    refine wpList_new_one rfl rfl _ _ rfl rfl size_ptr _ zero_ptr rfl (.pointer (some ⟨Y.A (2 + 4 * k), 0, none⟩)) rfl rfl rfl rfl ?_
    intro w1 hz hs hk1
    have cm := one_cell hz.out
    have HS := Lib.hid (settles_Flush (H.out.kept hk1) ok hk cm H.out.not_in)
    go_wp2_with fail
    refine Calls.mono HS.out ?_
    rintro e w2 ⟨rfl, hb, hu⟩
    have HB := Lib.hid hb; have HU := Lib.hid ((But.kept hk1).trans hu); clear hb hu
    go_wp2
    go_ret
    exact ⟨rfl, HB.out, HU.out⟩
  · rw [if_neg hr]
    have hR' := hR.out
    rw [if_neg hr] at hR'
    clear hR
    have HR := Lib.hid hR'; clear hR'
    have H := Lib.hid h; clear h
    generalize T.readyE d = r at *
    go_enter Tryd.func57, Tryd.ntmps57
    go_wp2_with fail
    refine Calls.mono HR.out ?_
    rintro e w1 ⟨rfl, rfl⟩
    go_wp2_with (refine stop_at (o := ⟨some 5, _, _, _, _, _⟩) ?_)
    refine Stop.mk ?_
    refine wpList_new_one rfl rfl _ _ rfl rfl size_ptr _ zero_ptr rfl (.pointer none) rfl rfl rfl rfl ?_
    intro w1 hz hs hk1
    go_wp2
    go_ret
    exact ⟨rfl, H.out.kept hk1, But.kept hk1⟩
theorem bank_Fail (h : BankD w Y T) (ok : T.Ok) (hN : T.l.length ≠ 0) (d : Int) : Calls Tryd.prog 22 #[.pointer (some ⟨Y.A 0, 0, none⟩), .int .i64 d] w fun e w' =>
    e = .returned (.int .i64 (T.failC d).2) ∧ BankD w' Y (T.failC d).1 ∧ But (Y.In T.l.length) w w' := by
  unfold BankT.failC
  by_cases h0 : d < 0 ∨ (T.l.length : Int) ≤ d
  · rw [if_pos h0]
    have hi := Lib.hid (bank_is_f h hN h0)
    have H := Lib.hid h; clear h h0
    go_enter Tryd.func22, Tryd.ntmps22
    go_wp2_with fail
    refine Calls.mono hi.out ?_
    rintro e w' ⟨rfl, rfl⟩
    go_wp2
    go_ret
    exact ⟨rfl, H.out, But.refl _ _⟩
  · rw [if_neg h0]
    obtain ⟨k, rfl, hk⟩ : ∃ k : Nat, d = (k : Int) ∧ k < T.l.length := ⟨d.toNat, by omega, by omega⟩
    rw [Int.toNat_natCast]
    have hi := Lib.hid (bank_is_t h hk)
    have c0 := h.b0 hN
    have cr := h.r hk
    have okd := ok.d hk
    have H := Lib.hid h; clear h h0
    go_enter Tryd.func22, Tryd.ntmps22
    go_wp2_with fail
    refine Calls.mono hi.out ?_
    rintro e w' ⟨rfl, rfl⟩
    go_wp2_with (refine stop_at (o := ⟨some 5, _, _, _, _, _⟩) ?_)
    refine Stop.mk ?_
    refine wpList_new_one rfl rfl _ _ rfl rfl size_ptr _ zero_ptr rfl (.pointer (some ⟨Y.A (2 + 4 * k), 0, none⟩)) rfl rfl rfl rfl ?_
    intro w1 hz hs hk1
    have cm := one_cell hz.out
    go_wp2_with (refine stop_at (o := ⟨none, .store 4 _ _, _, _, _, _⟩) ?_)
    refine Stop.mk ?_
    refine wpList_set_cell rfl _ _ rfl size_bool (Y.A (2 + 4 * k)) 3 rfl (.bool true) rfl rfl rfl _ _ ((H.out.kept hk1).med k hk) (by simp [medVals]) ?_
    intro w2 hw2
    obtain ⟨B2, U2⟩ := (H.out.kept hk1).wrote_med hk (d := true) (f := (T.d k).fail) hw2
    have hne : w.heap.size ≠ Y.A (2 + 4 * k) := fun e => by have := H.out.lt (Y.in_ hk 2 (by decide) (by decide)); omega
    have cm2 : w2.cell? ⟨w.heap.size, 0, none⟩ = some (.pointer (some ⟨Y.A (2 + 4 * k), 0, none⟩)) := (World.cell?_of_block (hw2.oth _ hne)).trans cm
    have HS := Lib.hid (settles_Fail (k := k) B2 (ok.up k okd.kill) (by rw [BankT.up_len]; exact hk) cm2 (by rw [BankT.up_len]; exact H.out.not_in))
    have HU2 := Lib.hid ((But.kept hk1).trans U2)
    clear B2 U2 hw2 cm
    go_wp2_with fail
    refine Calls.mono HS.out ?_
    rintro e w3 ⟨rfl, hb, hu⟩
    rw [BankT.up_self _ hk, BankT.up_up] at hb
    rw [BankT.up_len] at hu
    have HB := Lib.hid hb; have HU := Lib.hid (HU2.out.trans hu); clear hb hu
    go_wp2
    go_ret
    exact ⟨rfl, HB.out, HU.out⟩
theorem bank_Start (h : BankD w Y T) : Calls Tryd.prog 21 #[.pointer (some ⟨Y.A 0, 0, none⟩)] w fun e w' => e = .returned (.tuple #[]) ∧ BankD w' Y T.start ∧ But (Y.In T.l.length) w w' := by
  have H := Lib.hid h; clear h
  go_enter Tryd.func21, Tryd.ntmps21
  go_wp2_with (refine stop_at (o := ⟨none, .store _ _ _, _, _, _, _⟩) ?_)
  refine Stop.mk ?_
  refine wpList_set_cell rfl _ _ rfl size_bool (Y.A 0) 1 rfl (.bool false) rfl rfl rfl _ _ H.out.bank (by simp [bankVals]) ?_
  intro w2 hw2
  obtain ⟨B2, U2⟩ := H.out.wrote_bank (T' := T.start) rfl hw2
  have HB := Lib.hid B2; have HU := Lib.hid U2; clear B2 U2 hw2
  go_wp2
  go_end0
  exact ⟨rfl, HB.out, HU.out⟩
theorem bank_Up (h : BankD w Y T) : Calls Tryd.prog 19 #[.pointer (some ⟨Y.A 0, 0, none⟩)] w fun e w' => e = .returned (.bool (!T.down)) ∧ w = w' := by
  have c1 := h.b1
  clear h
  go_enter Tryd.func19, Tryd.ntmps19
  go_wp2
  go_ret
  exact ⟨rfl, rfl⟩
--
--
--
--
--
--
--
theorem bank_Arm (h : BankD w Y T) (n m : Int) : Calls Tryd.prog 18 #[.pointer (some ⟨Y.A 0, 0, none⟩), .int .i64 n, .int .u64 m] w fun e w' => e = .returned (.tuple #[]) ∧ BankD w' Y (T.arm n m) ∧ But (Y.In T.l.length) w w' := by
  have H := Lib.hid h; clear h
  by_cases hn : 0 ≤ n
  · have em : T.arm n m = { T with armed := n, mask := m } := by unfold BankT.arm; rw [show max n 0 = n by omega]
    rw [em]; clear em
    go_enter Tryd.func18, Tryd.ntmps18
    go_wp2_with (refine stop_at (o := ⟨none, .store 3 _ _, _, _, _, _⟩) ?_)
    refine Stop.mk ?_
    refine wpList_set_cell rfl _ _ rfl size_int (Y.A 0) 4 rfl (.int .i64 (n)) rfl rfl rfl _ _ H.out.bank (by simp [bankVals]) ?_
    intro w2 hw2
    obtain ⟨B2, U2⟩ := H.out.wrote_bank (T' := { T with armed := n }) rfl hw2
    have HB2 := Lib.hid B2; have HU2 := Lib.hid U2; clear B2 U2 hw2
    go_wp2_with (refine stop_at (o := ⟨none, .store 45 _ _, _, _, _, _⟩) ?_)
    refine Stop.mk ?_
    refine wpList_set_cell rfl _ _ rfl size_u64 (Y.A 0) 5 rfl (.int .u64 m) rfl rfl rfl _ _ HB2.out.bank (by simp [bankVals]) ?_
    intro w3 hw3
    obtain ⟨B3, U3⟩ := HB2.out.wrote_bank (T' := { T with armed := n, mask := m }) rfl hw3
    have HB3 := Lib.hid B3; have HU3 := Lib.hid (HU2.out.trans U3); clear B3 U3 hw3
    go_wp2
    go_end0
    exact ⟨rfl, HB3.out, HU3.out⟩
  · have em : T.arm n m = { T with armed := 0, mask := m } := by unfold BankT.arm; rw [show max n 0 = 0 by omega]
    rw [em]; clear em
    go_enter Tryd.func18, Tryd.ntmps18
    go_wp2_with (refine stop_at (o := ⟨none, .store 3 _ _, _, _, _, _⟩) ?_)
    refine Stop.mk ?_
    refine wpList_set_cell rfl _ _ rfl size_int (Y.A 0) 4 rfl (.int .i64 (0)) rfl rfl rfl _ _ H.out.bank (by simp [bankVals]) ?_
    intro w2 hw2
    obtain ⟨B2, U2⟩ := H.out.wrote_bank (T' := { T with armed := 0 }) rfl hw2
    have HB2 := Lib.hid B2; have HU2 := Lib.hid U2; clear B2 U2 hw2
    go_wp2_with (refine stop_at (o := ⟨none, .store 45 _ _, _, _, _, _⟩) ?_)
    refine Stop.mk ?_
    refine wpList_set_cell rfl _ _ rfl size_u64 (Y.A 0) 5 rfl (.int .u64 m) rfl rfl rfl _ _ HB2.out.bank (by simp [bankVals]) ?_
    intro w3 hw3
    obtain ⟨B3, U3⟩ := HB2.out.wrote_bank (T' := { T with armed := 0, mask := m }) rfl hw3
    have HB3 := Lib.hid B3; have HU3 := Lib.hid (HU2.out.trans U3); clear B3 U3 hw3
    go_wp2
    go_end0
    exact ⟨rfl, HB3.out, HU3.out⟩
--
--
--
--
--
--
--
--
--
--
--
--
--
--
--
--
--
--
--
--
--
--
--
--
--
--
--
--
--
--
--
--
--
--
--
--
--
--
--
--
--
--
--
--
--
--
--
--
--
end
end Go.Proofs.YtpeclkhppgabfaaDoor
/- A disk.Bank: Loose. -/
namespace Go.Proofs.YtpeclkhppgabfaaDoor
open Go.RowKit
set_option linter.unusedVariables false
set_option linter.unusedSimpArgs false

theorem Med.looseTo_le (k : Nat) (m : Med) : ∀ j, (m.looseTo k j).length ≤ j
  | 0 => Nat.le_refl _
  | j + 1 => by
    have := Med.looseTo_le k m j
    unfold Med.looseTo
    split
    · simp; omega
    · omega
theorem BankT.looseTo_le {T : BankT} (ok : T.Ok) : ∀ {k}, k ≤ T.l.length → (T.looseTo k).length ≤ 4096 * k
  | 0, _ => Nat.le_refl _
  | k + 1, hk => by
    have h1 := BankT.looseTo_le ok (k := k) (by omega)
    have h2 := Med.looseTo_le k (T.d k) (T.d k).sin.length
    have h3 := (ok.d (k := k) (by omega)).len
    unfold BankT.looseTo
    rw [List.length_append]; omega
theorem Med.looseTo_succ (k : Nat) (m : Med) (j : Nat) : (m.looseTo k (j + 1)).length = if 0 < m.sin.getD j 0 then (m.looseTo k j).length + 1 else (m.looseTo k j).length := by
  rw [Med.looseTo]; split <;> simp
theorem zero_int (w : World) : (zeroValue 3).run Tryd.prog w = .ok (.int .i64 0) w := by kernel_rfl
section
variable {w : World} {Y : Lay} {T : BankT} {k c : Nat}
set_option maxHeartbeats 1000000
set_option maxRecDepth 100000
--
--
--
--
--
--
--
--
--
--
--
--
--
--
--
--
--
--
--
--
--
--
--
--
--
--
--
--
--
--
--
--
--
--
--
--
--
--
--
--
--
--
--
--
--
--
--
--
--
--
--
--
--
--
--
--
--
--
--
--
--
--
--
--
--
--
--
--
--
--
--
--
end
end Go.Proofs.YtpeclkhppgabfaaDoor
