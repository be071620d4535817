/- PaI: several texts in one: Dlh Mja Rdl Chk Lay Sav. -/
import Derived.Test.YtpeclkhppgabfaaDoorPaH
import Derived.Test.YtpeclkhppgabfaaDoorPaA
import Derived.Test.YtpeclkhppgabfaaDoorPaG
/- Two banks of a law. -/
namespace Go.Proofs.YtpeclkhppgabfaaDoor
open Go.RowKit
set_option linter.unusedVariables false
set_option linter.unusedSimpArgs false

/-- Two banks, apart, and apart from the blocks that R names: qa reads as Ta, qb as Tb. -/
def BK2 (w0 : World) (R : Nat → Prop) (W : World) (qa : Nat) (Ta : BankT) (qb : Nat) (Tb : BankT) : Prop :=
  ∃ Yb : Lay, Yb.A 0 = qb ∧ BankD W Yb Tb ∧ (∀ b, Yb.In Tb.l.length b → w0.heap.size ≤ b) ∧ (∀ k, R k → ¬ Yb.In Tb.l.length k) ∧ BK w0 (fun k => Yb.In Tb.l.length k ∨ R k) W qa Ta
section
variable {w0 W W' : World} {R : Nat → Prop} {qa qb : Nat} {Ta Tb Ta' Tb' : BankT}
theorem BK2.keeps (h : BK2 w0 R W qa Ta qb Tb) : Kept w0 W := by obtain ⟨_, _, _, _, _, h⟩ := h; exact h.keeps
theorem BK2.symm (h : BK2 w0 R W qa Ta qb Tb) : BK2 w0 R W qb Tb qa Ta := by
  obtain ⟨Yb, h0, hd, ho, hr, Ya, ha, h⟩ := h
  exact ⟨Ya, ha, h.d, h.own, fun k hk => (h.off k (.inr hk)).2, Yb, h0, ⟨hd, h.keeps, ho, fun k hk => by
    rcases hk with hk | hk
    · exact ⟨h.d.lt hk, fun hb => (h.off k (.inl hb)).2 hk⟩
    · exact ⟨(h.off k (.inr hk)).1, hr k hk⟩⟩⟩
theorem BK2.kept (h : BK2 w0 R W qa Ta qb Tb) (hk : Kept W W') : BK2 w0 R W' qa Ta qb Tb := by
  obtain ⟨Yb, h0, hd, ho, hr, h⟩ := h
  exact ⟨Yb, h0, hd.kept hk, ho, hr, (h.kept hk).1⟩
theorem BK2.less {R' : Nat → Prop} (h : BK2 w0 R W qa Ta qb Tb) (hr : ∀ k, R' k → R k) : BK2 w0 R' W qa Ta qb Tb := by
  obtain ⟨Yb, h0, hd, ho, hr0, h⟩ := h
  exact ⟨Yb, h0, hd, ho, fun k hk => hr0 k (hr k hk), h.less fun k hk => by
    rcases hk with hk | hk
    · exact .inl hk
    · exact .inr (hr k hk)⟩
theorem BK2.more (h : BK2 w0 R W qa Ta qb Tb) (hk : Kept W W') (B : Nat) (h1 : W.heap.size ≤ B) (h2 : B < W'.heap.size) : BK2 w0 (fun k => R k ∨ k = B) W' qa Ta qb Tb := by
  obtain ⟨Yb, h0, hd, ho, hr, h⟩ := h
  refine ⟨Yb, h0, hd.kept hk, ho, fun k hk' => ?_, (h.more hk B h1 h2).less fun k hk' => ?_⟩
  · rcases hk' with hk' | rfl
    · exact hr k hk'
    · intro hi; have := hd.lt hi; omega
  · rcases hk' with hk' | hk' | hk'
    · exact .inl (.inl hk')
    · exact .inl (.inr hk')
    · exact .inr hk'
/-- a call on the first one -/
theorem BK2.op {f : Nat} {args : Array Value} {P : Ending → Prop} (h : BK2 w0 R W qa Ta qb Tb)
    (C : ∀ R, BK w0 R W qa Ta → Calls Tryd.prog f args W fun e w' => P e ∧ BK w0 R w' qa Ta' ∧ SameR R W w') : Calls Tryd.prog f args W fun e w' => P e ∧ BK2 w0 R w' qa Ta' qb Tb ∧ SameR R W w' := by
  obtain ⟨Yb, h0, hd, ho, hr, h⟩ := h
  exact (C _ h).mono fun e w' ⟨he, hb, hs⟩ => ⟨he, ⟨Yb, h0, hd.same fun b hb' => hs b (.inl hb'), ho, hr, hb⟩, fun k hk => hs k (.inr hk)⟩
/-- a call on the second one -/
theorem BK2.op2 {f : Nat} {args : Array Value} {P : Ending → Prop} (h : BK2 w0 R W qa Ta qb Tb)
    (C : ∀ R, BK w0 R W qb Tb → Calls Tryd.prog f args W fun e w' => P e ∧ BK w0 R w' qb Tb' ∧ SameR R W w') : Calls Tryd.prog f args W fun e w' => P e ∧ BK2 w0 R w' qa Ta qb Tb' ∧ SameR R W w' :=
  (h.symm.op C).mono fun e w' ⟨he, hb, hs⟩ => ⟨he, hb.symm, hs⟩
--
--
--
--
--
--
--
--
theorem BK2.fst (h : BK2 w0 R W qa Ta qb Tb) : BK w0 R W qa Ta := by
  obtain ⟨Yb, h0, hd, ho, hr, h⟩ := h
  exact h.less fun _ h => .inr h
end
section
variable {P : Program} {o : Oper} {a : Act} {w : World} {K : Act → World → Prop} {Q : Exit → Act → World → Prop}
/-- A new variable of an aggregate type, in a drawn region. -/
theorem wp_alloc_abs (T : TypeId) (ho : o.op = .alloc T) (zs : List Value) (hz : ∀ w, (zeroValue T).run P w = .ok (.agg zs.toArray) w)
    (h : ∀ w1, Hid (w1.heap[w.heap.size]? = some (.cells zs.toArray T (0, 0))) → w.heap.size < w1.heap.size → Kept w w1 → K (a.put o.dst (.pointer (some ⟨w.heap.size, 0, none⟩))) w1) : o.wp P a w K Q := by
  unfold Oper.wp execOp
  simp only [ho, Instr.alloc, newVar, newRow, Sem.run_bind, hz, Result.andThen_ok, Sem.run_pure, run_newObj_alloc, Value.cells]
  exact h _ (Lib.hid (heap_alloc_new w _)) (by simp) ((Kept.refl _).alloc _)
theorem wp_store_agg {T n : Nat} (x y : Operand) (ho : o.op = .store T x y) (hT : AggT P T n)
    (b off : Nat) (hx : a.eval x = .pointer (some ⟨b, off, none⟩)) (xs : List Value) (hy : a.eval y = .agg xs.toArray) (hl : xs.length = n) (h1 : ∀ v ∈ xs, v.oneCell' = true)
    (cur : List Value) (t : TypeId) (hb : w.heap[b]? = some (.cells cur.toArray t (0, 0))) (hfit : off + n ≤ cur.length)
    (h : ∀ w1, Wrote w w1 b (splice cur off xs) t → K (a.put o.dst undef) w1) : o.wp P a w K Q := by
  have hst := run_storeCells_at P b off t xs 0 cur.toArray w hb (by simpa [hl] using hfit) h1
  obtain ⟨_, hs⟩ := hT
  cases hq : P.info? T with
  | none => simp [hq] at hs
  | some i =>
    have hi : i.size = n := by simpa [hq] using hs
    unfold Oper.wp execOp
    simp only [ho, hx, hy, Instr.storeAt, Instr.sureAddr, Sem.run_bind, Sem.run_pure, Result.andThen_ok, storeVar, sizeOf, typeInfo, run_program, hq, Value.cells, List.size_toArray, hi, hl, ne_eq, not_true_eq_false, if_false, hst]
    refine h _ ⟨?_, ?_, ?_, rfl, rfl, rfl⟩
    · rw [setRow_heap w b _ _ t _ hb]
      subst hl; simp [splice]
    · intro k hk; exact setRow_other w b k _ hk
    · simp
end
theorem ty_plc : AggT Tryd.prog 36 2 := ⟨⟨_, Tryd.underlying36, rfl⟩, by kernel_rfl⟩
theorem zero_plc (w : World) : (zeroValue 36).run Tryd.prog w = .ok (.agg [.int .i64 0, .int .i64 0].toArray) w := by kernel_rfl
/-- the same bank but for what only a count or an armed write would show -/
def BankT.re (T : BankT) (x a m : Int) : BankT := { T with writes := x, armed := a, mask := m }
theorem re_looseN (T : BankT) (x a m : Int) : (T.re x a m).looseN = T.looseN := by
  have : ∀ k, (T.re x a m).looseTo k = T.looseTo k := fun k => by
    induction k with
    | zero => rfl
    | succ k ih => unfold BankT.looseTo; rw [ih]; rfl
  unfold BankT.looseN; rw [this]; rfl
theorem re_order (T : BankT) (x a m : Int) : (T.re x a m).order = T.order := by
  have : ∀ k, (T.re x a m).looseTo k = T.looseTo k := fun k => by
    induction k with
    | zero => rfl
    | succ k ih => unfold BankT.looseTo; rw [ih]; rfl
  unfold BankT.order; rw [this]; rfl
theorem re_settleL (mask : Int) (x a m : Int) : ∀ (L : List (Nat × Nat)) (i : Nat) (T : BankT), BankT.settleL mask L i (T.re x a m) = (BankT.settleL mask L i T).re x a m
  | [], _, _ => rfl
  | (k, b) :: L, i, T => by
    rw [BankT.settleL, BankT.settleL, ← re_settleL mask x a m L (i + 1)]; rfl
theorem re_readyE (T : BankT) (x a m : Int) (d : Int) : (T.re x a m).readyE d = T.readyE d := rfl
theorem re_inE (T : BankT) (x a m : Int) (d b : Int) : (T.re x a m).inE d b = T.inE d b := rfl
theorem re_put (T : BankT) (x a m : Int) (d b : Nat) (s : List Int) : (T.re x a m).put d b s = (T.put d b s).re x a m := by
  unfold BankT.put
  split
  · rename_i h
    have h' : (T.d d).sin.getD b 0 = 0 := h
    rw [if_pos h']; rfl
  · rename_i h
    have h' : ¬ (T.d d).sin.getD b 0 = 0 := h
    rw [if_neg h']; rfl
theorem re_flushC (T : BankT) (x a m : Int) (d : Int) : (T.re x a m).flushC d = ((T.flushC d).1.re x a m, (T.flushC d).2) := by
  unfold BankT.flushC
  rw [re_readyE]
  split <;> rfl
theorem re_read (T : BankT) (x a m : Int) (d b : Int) : (T.re x a m).read d b = T.read d b := rfl
theorem re_start (T : BankT) (x a m : Int) : (T.re x a m).start = T.start.re x a m := rfl
theorem re_crash {T : BankT} (x a m : Int) (hu : T.down = false) (mask : Int) : (T.re x a m).crash mask = (T.crash mask).re x 0 m := by
  unfold BankT.crash
  rw [if_neg (show ¬ (T.re x a m).down = true by show ¬ T.down = true; rw [hu]; decide), if_neg (by rw [hu]; decide), re_order, re_settleL]
  rfl
theorem re_self (T : BankT) : T.re T.writes T.armed T.mask = T := rfl
theorem re_inv {T : BankT} (h : T.Inv) {x a m : Int} (hx : 0 ≤ x) (ha : 0 ≤ a ∧ a < 9223372036854775808) (hm : 0 ≤ m ∧ m < 18446744073709551616) : (T.re x a m).Inv := ⟨h.ok, h.clk, hx, ha, hm, h.top, h.uniq⟩
end Go.Proofs.YtpeclkhppgabfaaDoor
/- A place in memory: rules. -/
namespace Go.Proofs.YtpeclkhppgabfaaDoor
open Go.RowKit
set_option linter.unusedVariables false
set_option linter.unusedSimpArgs false

theorem one_plc (x y : Int) : ∀ u ∈ [Value.int .i64 x, .int .i64 y], u.oneCell' = true := by intro u hu; simp at hu; rcases hu with rfl | rfl <;> rfl
/-- a place lies in block b -/
def Pl (W : World) (b : Nat) (x y : Int) : Prop := W.cell? ⟨b, 0, none⟩ = some (.int .i64 x) ∧ W.cell? ⟨b, 1, none⟩ = some (.int .i64 y)
theorem Pl.kept {W W' : World} {b : Nat} {x y : Int} (h : Pl W b x y) (hk : Kept W W') : Pl W' b x y := ⟨hk.cell' h.1, hk.cell' h.2⟩
theorem Pl.same {W W' : World} {b : Nat} {x y : Int} (h : Pl W b x y) (hs : W'.heap[b]? = W.heap[b]?) : Pl W' b x y :=
  ⟨(World.cell?_of_block (a := ⟨b, 0, none⟩) hs).trans h.1, (World.cell?_of_block (a := ⟨b, 1, none⟩) hs).trans h.2⟩
theorem Pl.of {W : World} {b : Nat} {x y : Int} (h : W.heap[b]? = some (.cells [Value.int .i64 x, .int .i64 y].toArray 36 (0, 0))) : Pl W b x y := ⟨cell_of_row _ _ 0 _ _ _ h, cell_of_row _ _ 1 _ _ _ h⟩
theorem exec_load_plc {W : World} {a : Act} {o : Oper} (x : Operand) (ho : o.op = .load 36 x) (b : Nat) (hx : a.eval x = .pointer (some ⟨b, 0, none⟩)) (xs : List Value) (hl : xs.length = 2) (hc : Cells W b 0 xs) :
    (execOp a.eval o).run Tryd.prog W = .ok (.value (.agg xs.toArray)) W := by
  obtain ⟨⟨d, hd1, hd2⟩, hs⟩ := ty_plc
  unfold execOp
  simp only [ho, hx, Instr.loadAt, Instr.sureAddr, Sem.run_bind, Sem.run_pure, Result.andThen_ok, run_loadVar_mid W b 0 36 xs d (rangeAt_of_cells hc) hd1 hd2 (by rw [hs, hl])]
theorem exec_eq_plc {W : World} {a : Act} {o : Oper} (x y : Operand) {t' : TypeId} (ho : o.op = .binOp .eql 36 x y t') (p q r s : Int) (hx : a.eval x = .agg #[.int .i64 p, .int .i64 q]) (hy : a.eval y = .agg #[.int .i64 r, .int .i64 s]) :
    (execOp a.eval o).run Tryd.prog W = .ok (.value (.bool (p == r && q == s))) W := by
  have heq := run_equal_plc W p q r s
  unfold execOp
  simp only [ho, hx, hy, Sem.run_bind]
  rw [run_eqGuard_agg _ _ _ _ _ _ _ eqg_plc]
  simp only [Result.andThen_ok]
  rw [run_eql_struct]
  simp only [Op.equal, Op.maxDepth, heq, Result.andThen_ok, Sem.run_pure, Sem.run_bind]
section
variable {P : Program} {ops : Array Oper} {rest : List Oper} {o : Oper} {a : Act} {w : World} {Q : Exit → Act → World → Prop}
/-- a parameter of many cells that lies in a block of its own; the world a letter -/
theorem wpList_box_row (hgd : Region.wanted o (yielded ops a.tmps) = true) (T : TypeId) (x : Operand) (ho : o.op = .box T x) (zs : List Value) (hx : a.eval x = .agg zs.toArray)
    (h : ∀ w1, Hid (w1.heap[w.heap.size]? = some (.cells zs.toArray T (0, 0))) → w.heap.size < w1.heap.size → Kept w w1 → wpList P ops Q rest (a.put o.dst (.pointer (some ⟨w.heap.size, 0, none⟩))) w1) : wpList P ops Q (o :: rest) a w := by
  refine BigFrame.wpList_want hgd fun K hK => ?_
  unfold Oper.wp execOp
  simp only [ho, hx, Instr.box, newVar, newRow, Sem.run_bind, Result.andThen_ok, Sem.run_pure, run_newObj_alloc, Value.cells]
  exact hK _ _ (h _ (Lib.hid (heap_alloc_new w _)) (by simp) ((Kept.refl _).alloc _))
end
theorem BankT.inE_zero {T : BankT} {d a : Int} (h : T.inE d a = 0) : ∃ k b : Nat, d = (k : Int) ∧ a = (b : Int) ∧ k < T.l.length ∧ b < (T.d k).sin.length := by
  unfold BankT.inE at h
  by_cases hr : T.readyE d ≠ 0
  · rw [if_pos hr] at h; exact absurd h hr
  · rw [if_neg hr] at h
    obtain ⟨k, rfl, hk⟩ := BankT.readyE_in (by simpa using hr)
    rw [Int.toNat_natCast] at h
    by_cases hb : a < 0 ∨ ((T.d k).sin.length : Int) ≤ a
    · rw [if_pos hb] at h; cases h
    · exact ⟨k, a.toNat, rfl, by omega, hk, by omega⟩
theorem zeroB_byte : zeroB.length = 64 ∧ ∀ x ∈ zeroB, IsByte x := by
  refine ⟨zeroB_length, fun x hx => ?_⟩
  have : x = 0 := List.eq_of_mem_replicate (n := 64) (by rw [show List.replicate 64 (0 : Int) = zeroB by decide]; exact hx)
  rw [this]; unfold IsByte; decide
theorem BankT.read_sec {T : BankT} (h : T.Inv) (d a : Int) : (T.read d a).1.length = 64 ∧ ∀ x ∈ (T.read d a).1, IsByte x := by
  unfold BankT.read
  by_cases hi : T.inE d a = 0
  · obtain ⟨k, b, rfl, rfl, hk, hb⟩ := BankT.inE_zero hi
    rw [if_pos hi, Int.toNat_natCast, Int.toNat_natCast]
    exact (h.ok.d hk).new.at hb
  · rw [if_neg hi]; exact zeroB_byte
section
variable {w0 W : World} {R : Nat → Prop} {q : Nat} {T : BankT}
theorem BK.box {w1 : World} (h : BK w0 R W q T) (hk : Kept W w1) (hs : W.heap.size < w1.heap.size) : BK w0 (fun k => R k ∨ k = W.heap.size) w1 q T := h.more hk _ (Nat.le_refl _) hs
end
end Go.Proofs.YtpeclkhppgabfaaDoor
/- What check and metalog read, in plain Lean: over whatever is read at a place. -/
namespace Go.Proofs.YtpeclkhppgabfaaDoor
set_option linter.unusedVariables false
set_option linter.unusedSimpArgs false

/-- what is read: of a disk, at a place -/
abbrev Rd := Int → Int → List Int × Int
/-- an error for which a member is passed over -/
def passE (e : Int) : Bool := e == 7 || e == 8
/-- a sector that is a part -/
def isTag (s : List Int) : Bool := !tagBad s (tagRaw s)
theorem tagOf_is {s : List Int} (h : isTag s = true) : tagOf s = some (tagRaw s) := by
  unfold tagOf
  rw [if_neg (by unfold isTag at h; simpa using h)]
theorem tagOf_no {s : List Int} (h : isTag s = false) : tagOf s = none := by
  unfold tagOf
  rw [if_pos (by unfold isTag at h; simpa using h)]
/-- a part of a checkpoint -/
def cpPart (s : List Int) : Bool := isTag s && (tagRaw s).num == 0
/-- the checkpoints' parts that live members have at a place; how many members there are -/
def partsL (rd : Rd) (p : Int) : List Int → List (List Int) → Nat → List (List Int) × Nat × Int
  | [], l, n => (l, n, 0)
  | d :: L, l, n => if passE (rd d p).2 = true then partsL rd p L l n
    else if (rd d p).2 ≠ 0 then ([], 0, (rd d p).2)
    else partsL rd p L (if cpPart (rd d p).1 = true then l ++ [(rd d p).1] else l) (n + 1)
/-- the first k places of an area -/
def areaTo (rd : Rd) (live : List Int) (p : Int) : Nat → List (List (List Int)) × Int
  | 0 => ([], 0)
  | k + 1 => if (areaTo rd live p k).2 ≠ 0 then areaTo rd live p k
    else if (partsL rd (p + k) live [] 0).2.2 ≠ 0 then ([], (partsL rd (p + k) live [] 0).2.2)
    else if (partsL rd (p + k) live [] 0).2.1 = 0 then ([], 5)
    else ((areaTo rd live p k).1 ++ [(partsL rd (p + k) live [] 0).1], 0)
def mayPick (t : Tag) (i : Nat) (s : List Int) : Bool := (tagRaw s).gen == t.gen && (tagRaw s).part == (i : Int) && (tagRaw s).parts == t.parts
/-- the first k parts of the checkpoint that begins with t -/
def wholeTo (all : List (List (List Int))) (t : Tag) : Nat → Option (List (List Int))
  | 0 => some []
  | k + 1 => match wholeTo all t k with
    | none => none
    | some l => match (all.getD k []).find? (mayPick t k) with
      | none => none
      | some s => some (l ++ [s])
def wholeB (all : List (List (List Int))) (t : Tag) : Option (List Int) := match wholeTo all t t.parts.toNat with
  | none => none
  | some l => joinB t.gen 0 l
structure Best where
  area : Int
  gen : Int
  bytes : List Int
  seen : Int
  found : Bool
def Best.zero : Best := ⟨0, 0, [], 0, false⟩
def seenL (l : List (List Int)) (x : Int) : Int := l.foldl (fun x s => max x (tagRaw s).gen) x
def Best.look (area : Int) (all : List (List (List Int))) (b : Best) (s : List Int) : Best :=
  if (tagRaw s).part ≠ 0 ∨ 32 < (tagRaw s).parts ∨ (b.found = true ∧ (tagRaw s).gen ≤ b.gen) then b
  else match wholeB all (tagRaw s) with
    | none => b
    | some x => { b with area := area, gen := (tagRaw s).gen, bytes := x, found := true }
def Best.inArea (area : Int) (all : List (List (List Int))) (b : Best) : Best := (all.getD 0 []).foldl (Best.look area all) { b with seen := all.foldl (fun x l => seenL l x) b.seen }
/-- check.Load -/
def loadC (rd : Rd) (live : List Int) : Best × Int :=
  if (areaTo rd live 50 32).2 ≠ 0 then (Best.zero, (areaTo rd live 50 32).2)
  else if (areaTo rd live 82 32).2 ≠ 0 then (Best.zero, (areaTo rd live 82 32).2)
  else (((Best.zero.inArea 0 (areaTo rd live 50 32).1).inArea 1 (areaTo rd live 82 32).1), if ((Best.zero.inArea 0 (areaTo rd live 50 32).1).inArea 1 (areaTo rd live 82 32).1).found = true then 0 else 8)
/-- metalog's find -/
structure Hit where
  s : List Int
  n : Nat
  ok : Bool
  e : Int
def findL (rd : Rd) (p gen : Int) (so : Tag → Bool) : List Int → Nat → Hit
  | [], n => ⟨zeroB, n, false, 0⟩
  | d :: L, n => if passE (rd d (2 + p)).2 = true then findL rd p gen so L n
    else if (rd d (2 + p)).2 ≠ 0 then ⟨(rd d (2 + p)).1, n, false, (rd d (2 + p)).2⟩
    else if isTag (rd d (2 + p)).1 = true ∧ (tagRaw (rd d (2 + p)).1).gen = gen ∧ so (tagRaw (rd d (2 + p)).1) = true then ⟨(rd d (2 + p)).1, n + 1, true, 0⟩
    else findL rd p gen so L (n + 1)
def soFirst (num : Int) (t : Tag) : Bool := t.num == num && t.part == 0
def soNext (gen num part parts : Int) (t : Tag) : Bool := decide (t = ⟨gen, num, part, parts, t.len⟩)
def moreL (rd : Rd) (live : List Int) (gen p num parts : Int) : Nat → List (List Int) → List (List Int) × Int
  | 0, l => (l, 0)
  | k + 1, l => if (findL rd (p + l.length) gen (soNext gen num l.length parts) live 0).e ≠ 0 ∨ (findL rd (p + l.length) gen (soNext gen num l.length parts) live 0).ok = false then ([], (findL rd (p + l.length) gen (soNext gen num l.length parts) live 0).e)
    else moreL rd live gen p num parts k (l ++ [(findL rd (p + l.length) gen (soNext gen num l.length parts) live 0).s])
def recL (rd : Rd) (live : List Int) (gen p num : Int) : List (List Int) × Int :=
  if (findL rd p gen (soFirst num) live 0).e ≠ 0 then ([], (findL rd p gen (soFirst num) live 0).e)
  else if (findL rd p gen (soFirst num) live 0).n = 0 then ([], 5)
  else if (findL rd p gen (soFirst num) live 0).ok = false then ([], 0)
  else if 48 < p + (tagRaw (findL rd p gen (soFirst num) live 0).s).parts then ([], 0)
  else moreL rd live gen p num (tagRaw (findL rd p gen (soFirst num) live 0).s).parts ((tagRaw (findL rd p gen (soFirst num) live 0).s).parts - 1).toNat [(findL rd p gen (soFirst num) live 0).s]
def scanL (rd : Rd) (live : List Int) (gen : Int) : Nat → Nat → List (List Int) → List (List Int) × Nat × Int
  | 0, p, out => (out, p, 0)
  | f + 1, p, out => if 48 ≤ p then (out, p, 0)
    else if (recL rd live gen p out.length).2 ≠ 0 then ([], 0, (recL rd live gen p out.length).2)
    else if (recL rd live gen p out.length).1 = [] then (out, p, 0)
    else scanL rd live gen f (p + (recL rd live gen p out.length).1.length) (out ++ [(joinB gen out.length (recL rd live gen p out.length).1).getD []])
end Go.Proofs.YtpeclkhppgabfaaDoor
/- What check and metalog do with a bank, in plain Lean. -/
namespace Go.Proofs.YtpeclkhppgabfaaDoor
open Go.RowKit
set_option linter.unusedVariables false
set_option linter.unusedSimpArgs false

/-- a sector's bytes -/
def SecB (s : List Int) : Prop := s.length = 64 ∧ ∀ x ∈ s, IsByte x
/-- a bank that takes so many more writes -/
structure BankT.UseN (T : BankT) (k : Nat) : Prop where
  inv : T.Inv
  len : T.l.length ≠ 0
  clk : T.clock + k < 1000000000
  wri : T.writes + k < 1000000000
section
variable {T : BankT} {k j : Nat}
theorem BankT.UseN.use (h : T.UseN k) : T.Use := ⟨h.inv, h.len, by have := h.clk; omega, by have := h.wri; omega⟩
theorem BankT.UseN.less (h : T.UseN k) (hj : j ≤ k) : T.UseN j := ⟨h.inv, h.len, by have := h.clk; omega, by have := h.wri; omega⟩
theorem BankT.UseN.write (h : T.UseN (k + 1)) (d a : Int) {s : List Int} (hs : SecB s) : (T.write d a s).1.UseN k := by
  obtain ⟨h1, h2, h3⟩ := BankT.write_rest h.inv.ok d a s
  have hc := h.clk
  have hw := h.wri
  exact ⟨h.inv.write d a hs, by rw [h1]; exact h.len, by omega, by omega⟩
theorem flushC_keeps (T : BankT) (d : Int) : (T.flushC d).1.clock = T.clock ∧ (T.flushC d).1.writes = T.writes ∧ (T.flushC d).1.l.length = T.l.length := by
  unfold BankT.flushC
  split
  · exact ⟨rfl, rfl, BankT.up_len _ _ _⟩
  · exact ⟨rfl, rfl, rfl⟩
theorem BankT.UseN.flushC (h : T.UseN k) (d : Int) : (T.flushC d).1.UseN k := by
  obtain ⟨h1, h2, h3⟩ := flushC_keeps T d
  exact ⟨h.inv.flushC d, by rw [h3]; exact h.len, by rw [h1]; exact h.clk, by rw [h2]; exact h.wri⟩
end
/-- sectors written from p on, one behind the other, and then a flush -/
def BankT.layL (d : Int) : Int → List (List Int) → BankT → BankT × Int
  | _, [], T => T.flushC d
  | p, s :: l, T => if (T.write d p s).2 = 0 then BankT.layL d (p + 1) l (T.write d p s).1 else T.write d p s
/-- .. on all members; n have taken them so far -/
def BankT.layM (p : Int) (P : List (List Int)) : List Int → Nat → BankT → BankT × Int
  | [], n, T => (T, if n = 0 then 5 else 0)
  | d :: L, n, T => if (BankT.layL d p P T).2 = 0 then BankT.layM p P L (n + 1) (BankT.layL d p P T).1
    else if passE (BankT.layL d p P T).2 = true then BankT.layM p P L n (BankT.layL d p P T).1 else ((BankT.layL d p P T).1, 6)
theorem BankT.UseN.layL {k : Nat} (d : Int) : ∀ (P : List (List Int)) {T : BankT} (p : Int), T.UseN (k + P.length) → (∀ s ∈ P, SecB s) → (BankT.layL d p P T).1.UseN k
  | [], T, p, h, _ => h.flushC d
  | s :: l, T, p, h, hs => by
    have h' : T.UseN (k + l.length + 1) := by have := h; rw [List.length_cons] at this; exact this
    have hw := h'.write d p (hs s (by simp))
    unfold BankT.layL
    split
    · exact hw.layL d l (p + 1) (fun x hx => hs x (by simp [hx]))
    · exact hw.less (by omega)
theorem BankT.UseN.layM {k : Nat} (p : Int) (P : List (List Int)) (hP : ∀ s ∈ P, SecB s) : ∀ (L : List Int) (n : Nat) {T : BankT}, T.UseN (k + L.length * P.length) → (BankT.layM p P L n T).1.UseN k
  | [], n, T, h => h.less (by omega)
  | d :: L, n, T, h => by
    have h' : T.UseN (k + L.length * P.length + P.length) := by
      have := h; rw [List.length_cons, Nat.succ_mul, ← Nat.add_assoc] at this; exact this
    have hl := h'.layL d P p hP
    unfold BankT.layM
    split
    · exact hl.layM p P hP L (n + 1)
    · split
      · exact hl.layM p P hP L n
      · exact hl.less (by omega)
end Go.Proofs.YtpeclkhppgabfaaDoor
/- check.lay walked: sectors written one behind the other, and a flush. -/
namespace Go.Proofs.YtpeclkhppgabfaaDoor
open Go.RowKit
set_option linter.unusedVariables false
set_option linter.unusedSimpArgs false

theorem drop_at {P : List (List Int)} {k : Nat} (hk : k < P.length) : P.drop k = P.getD k [] :: P.drop (k + 1) := by
  rw [List.drop_eq_getElem_cons hk, List.getD_eq_getElem?_getD, List.getElem?_eq_getElem hk]; rfl
theorem getD_sec {P : List (List Int)} (h : ∀ s ∈ P, SecB s) {k : Nat} (hk : k < P.length) : SecB (P.getD k []) := by
  rw [List.getD_eq_getElem?_getD, List.getElem?_eq_getElem hk]; exact h _ (List.getElem_mem hk)
theorem SecsIn.cells {W : World} {X : Nat} {P : List (List Int)} (h : W.heap[X]? = some (.cells (secs P).toArray 39 (0, 0))) (hs : ∀ s ∈ P, SecB s) {k : Nat} (hk : k < P.length) : Cells W X (k * 64) (u8s (P.getD k [])) :=
  cells_sec (Cells.of_block h) (fun s hs' => (hs s hs').1) hk
section
variable {w0 W : World} {R : Nat → Prop} {q : Nat} {T : BankT}
set_option maxHeartbeats 2000000
set_option maxRecDepth 100000
theorem check_lay (h : BK w0 R W q T) (P : List (List Int)) (hP : ∀ s ∈ P, SecB s) (hl : P.length ≤ 4000) (u : T.UseN P.length) (d p : Int) (hp : 0 ≤ p ∧ p ≤ 4000) (X : Nat) (hR : R X) (hX : W.heap[X]? = some (.cells (secs P).toArray 39 (0, 0))) :
    Calls Tryd.prog 34 #[.pointer (some ⟨q, 0, none⟩), .int .i64 d, .int .i64 p, .slice (some ⟨X, 0, none⟩) P.length P.length] W fun e w' => e = .returned (.int .i64 (BankT.layL d p P T).2) ∧ BK w0 R w' q (BankT.layL d p P T).1 ∧ SameR R W w' := by
  obtain ⟨Tr, cr, hres⟩ : ∃ Tr cr, BankT.layL d p P T = (Tr, cr) := ⟨_, _, rfl⟩
  rw [hres]
  have HRES := Lib.hid (show BankT.layL d (p + ((0 : Nat) : Int)) (P.drop 0) T = (Tr, cr) by rw [show p + ((0 : Nat) : Int) = p by omega]; exact hres)
  have HB0 := Lib.hid h
  have HU0 := Lib.hid (show T.UseN (P.length - 0) from u)
  have HX0 := Lib.hid hX
  have HP := Lib.hid hP
  have HR := Lib.hid hR
  obtain ⟨hp0, hp1⟩ := hp
  clear h hP u hR hX hres
  go_enter Tryd.func34, Tryd.ntmps34
  go_wp2
  go_loopw [14] (fun i wr => ∃ (k : Nat) (T : BankT), k ≤ P.length ∧ i = .int .i64 k ∧ Hid (BankT.layL d (p + (k : Int)) (P.drop k) T = (Tr, cr)) ∧ Hid (T.UseN (P.length - k)) ∧ Hid (BK w0 R wr q T) ∧ Hid (SameR R W wr)) (fun i _ => P.length - (intOf i).toNat)
  case atStart => exact ⟨0, T, Nat.zero_le _, rfl, HRES, HU0, HB0, Lib.hid (SameR.refl _ _)⟩
  case round =>
    clear HRES HU0 HB0
    obtain ⟨k, T, hk, rfl, HRES, HU, HB, HS⟩ := hrel
    by_cases hlt : k < P.length
    · have HX := Lib.hid (SecsIn.cells ((HS.out X HR.out).trans HX0.out) HP.out hlt)
      have HSB := Lib.hid (getD_sec HP.out hlt)
      replace HRES : Hid (BankT.layL d (p + (k : Int)) (P.getD k [] :: P.drop (k + 1)) T = (Tr, cr)) := Lib.hid (by rw [← drop_at hlt]; exact HRES.out)
      obtain ⟨s, hse⟩ : ∃ s, P.getD k [] = s := ⟨_, rfl⟩
      rw [hse] at HX HSB HRES
      clear hse
      obtain ⟨T1, c1, hw⟩ : ∃ T1 c1, T.write d (p + (k : Int)) s = (T1, c1) := ⟨_, _, rfl⟩
      have hu : T.UseN (P.length - (k + 1) + 1) := by rw [show P.length - (k + 1) + 1 = P.length - k by omega]; exact HU.out
      have hu1 := hu.write d (p + (k : Int)) HSB.out
      rw [hw] at hu1
      have HU1 := Lib.hid hu1
      have HUS := Lib.hid HU.out.use
      have HW := Lib.hid hw
      unfold BankT.layL at HRES
      rw [hw] at HRES
      simp only [] at HRES hu1 HU1
      clear hu hu1 hw HU
      go_wp2_with (refine stop_at (o := ⟨some 18, _, _, _, _, _⟩) ?_)
      refine Stop.mk ?_
      refine wpList_load_agg rfl _ rfl ty_sec X (k * 64) rfl (u8s s) HX.out (by rw [u8s_length, HSB.out.1]) ?_
      go_wp2_with (refine stop_at (o := ⟨some 10, _, _, _, _, _⟩) ?_)
      refine Stop.mk ?_
      refine wpList_alloc_abs rfl 39 rfl (u8s zeroB) zero_sec ?_
      intro w1 hz1 hs1 hn1 hk1
      generalize hY : wr.heap.size = Y at hz1 ⊢
      clear hs1 hn1
      go_wp2_with (refine stop_at (o := ⟨none, .store _ _ _, _, _, _, _⟩) ?_)
      refine Stop.mk ?_
      refine wpList_store_agg rfl _ _ rfl ty_sec Y 0 rfl (u8s s) rfl (by rw [u8s_length, HSB.out.1]) (u8s_one _) (u8s zeroB) _ hz1.out (by simp [u8s_length, zeroB_length]) ?_
      intro w2 hw2
      replace hw2 := hw2.all (by rw [u8s_length, u8s_length, zeroB_length, HSB.out.1])
      have HY2 := Lib.hid hw2.cells
      have hk2 := hw2.kept hk1 (Nat.le_of_eq hY)
      have HB2 := Lib.hid (HB.out.kept hk2).1
      have HS2 := Lib.hid (HS.out.trans (HB.out.kept hk2).2)
      clear hw2 hk2 hk1 hz1 hY HB HS HX
      go_wp2_with (refine stop_at (o := ⟨some 25, _, _, _, _, _⟩) ?_)
      refine Stop.mk ?_
      refine wpList_load_agg rfl _ rfl ty_sec Y 0 rfl (u8s s) HY2.out (by rw [u8s_length, HSB.out.1]) ?_
      go_wp2_with fail
      refine Calls.mono (st_writeE HB2.out HUS.out d (p + (k : Int)) HSB.out.1 HW.out) ?_
      rintro e w3 ⟨rfl, hb3, hs3⟩
      have HB3 := Lib.hid hb3
      have HS3 := Lib.hid (HS2.out.trans hs3)
      clear hb3 hs3 HB2 HS2 HW
      by_cases hc : c1 = 0
      · subst hc
        replace HRES : Hid (BankT.layL d (p + ((k + 1 : Nat) : Int)) (P.drop (k + 1)) T1 = (Tr, cr)) := Lib.hid (by have := HRES.out; rw [if_pos rfl] at this; rw [show p + ((k + 1 : Nat) : Int) = p + (k : Int) + 1 by omega]; exact this)
        go_wp2
        go_roundw
        case rel => exact ⟨k + 1, T1, hlt, by go_num, HRES, HU1, HB3, HS3⟩
        case measure => simp [intOf]; omega
      · have hcb : (c1 == 0) = false := by simpa using hc
        have hr := HRES.out
        rw [if_neg hc] at hr
        obtain ⟨rfl, rfl⟩ : T1 = Tr ∧ c1 = cr := by cases hr; exact ⟨rfl, rfl⟩
        clear hr HRES
        go_wp2
        go_ret
        exact ⟨rfl, HB3.out, HS3.out⟩
    · have hkn : k = P.length := by omega
      have hr := HRES.out
      rw [hkn, List.drop_length] at hr
      unfold BankT.layL at hr
      have HF := Lib.hid hr
      have hge : P.length ≤ k := by omega
      clear hr hkn HRES
      go_wp2_with fail
      refine Calls.mono (st_flush HB.out HU.out.use d (c := cr) (T' := Tr) (by rw [HF.out]) (by rw [HF.out])) ?_
      rintro e w6 ⟨rfl, hb6, hs6⟩
      go_wp2
      go_ret
      exact ⟨rfl, hb6, HS.out.trans hs6⟩
end
end Go.Proofs.YtpeclkhppgabfaaDoor
/- check.Save walked. -/
namespace Go.Proofs.YtpeclkhppgabfaaDoor
open Go.RowKit
set_option linter.unusedVariables false
set_option linter.unusedSimpArgs false

theorem check_passed (c : Int) (w : World) : Calls Tryd.prog 36 #[.int .i64 c] w fun e w' => e = .returned (.bool (passE c)) ∧ w = w' := by
  by_cases h7 : c = 7
  · subst h7
    go_enter Tryd.func36, Tryd.ntmps36
    go_wp2
    go_ret
    exact ⟨rfl, rfl⟩
  · by_cases h8 : c = 8
    · subst h8
      go_enter Tryd.func36, Tryd.ntmps36
      go_wp2
      go_ret
      exact ⟨rfl, rfl⟩
    · have b7 : (c == 7) = false := by simpa using h7
      have b8 : (c == 8) = false := by simpa using h8
      have HP := Lib.hid (show passE c = false by simp [passE, b7, b8])
      clear h7 h8
      go_enter Tryd.func36, Tryd.ntmps36
      go_wp2
      go_ret
      exact ⟨by rw [HP.out]; rfl, rfl⟩
theorem check_first (a : Nat) (ha : a < 2) (w : World) : Calls Tryd.prog 35 #[.int .i64 (a : Int)] w fun e w' => e = .returned (.int .i64 (50 + 32 * (a : Int))) ∧ w = w' := by
  go_enter Tryd.func35, Tryd.ntmps35
  go_wp2
  go_ret
  exact ⟨ret_int (by omega), rfl⟩
theorem cell_ints {W : World} {B : Nat} {L : List Int} (h : Cells W B 0 (ints L)) {t : Nat} (ht : t < L.length) : W.cell? ⟨B, t, none⟩ = some (.int .i64 (L.getD t 0)) := by
  have := h t (by rw [ints_length]; exact ht)
  rw [Nat.zero_add] at this
  rw [this, List.getD_eq_getElem?_getD, List.getElem?_eq_getElem ht]
  simp [ints]
theorem drop_int {L : List Int} {k : Nat} (hk : k < L.length) : L.drop k = L.getD k 0 :: L.drop (k + 1) := by
  rw [List.drop_eq_getElem_cons hk, List.getD_eq_getElem?_getD, List.getElem?_eq_getElem hk]; rfl
theorem splitB_sec {gen num : Int} {b : List Int} (h : ∀ x ∈ b, IsByte x) : ∀ s ∈ splitB gen num b, SecB s := by
  intro s hs
  simp only [splitB, List.mem_map, List.mem_range] at hs
  obtain ⟨i, _, rfl⟩ := hs
  exact ⟨partB_len _ _ _ _ (by rw [pieceB_len]; omega), partB_byte fun x hx => h x (List.mem_of_mem_drop (List.mem_of_mem_take hx))⟩
def BankT.saveC (T : BankT) (L : List Int) (area : Nat) (gen : Int) (x : List Int) : BankT × Int := if 32 < partsN x.length then (T, 1) else BankT.layM (50 + 32 * (area : Int)) (splitB gen 0 x) L 0 T
section
variable {w0 W : World} {R : Nat → Prop} {q : Nat} {T : BankT}
set_option maxHeartbeats 2000000
set_option maxRecDepth 100000
theorem check_Save (h : BK w0 R W q T) (B c : Nat) (L : List Int) (hB : R B) (hlv : Cells W B 0 (ints L)) (hL : L.length ≤ 100) (area : Nat) (ha : area < 2) (gen : Int) (hg : 0 ≤ gen ∧ gen < 4294967296) (sv : Value) (x : List Int) (hs : Src W 1 sv x.length (u8s x)) (hx : x.length ≤ 2120) (hxb : ∀ y ∈ x, IsByte y) (u : T.UseN (L.length * partsN x.length)) :
    Calls Tryd.prog 15 #[.pointer (some ⟨q, 0, none⟩), .slice (some ⟨B, 0, none⟩) L.length c, .int .i64 (area : Int), .int .i64 gen, sv] W fun e w' => e = .returned (.int .i64 (T.saveC L area gen x).2) ∧ BK w0 R w' q (T.saveC L area gen x).1 ∧ SameR R W w' := by
  obtain ⟨p1, p2, _, _, _⟩ := partsN_pos hx
  have HB0 := Lib.hid h
  have HC := Lib.hid (record_Split gen 0 sv x W hs hx hg (by decide))
  have HR := Lib.hid hB
  have HLV0 := Lib.hid hlv
  have HPS := Lib.hid (splitB_sec (gen := gen) (num := 0) hxb)
  have HPL := Lib.hid (splitB_len gen 0 x)
  have HU0 := Lib.hid u
  clear h hs hB hlv u hxb
  obtain ⟨Tr, cr, hres⟩ : ∃ Tr cr, T.saveC L area gen x = (Tr, cr) := ⟨_, _, rfl⟩
  rw [hres]
  unfold BankT.saveC at hres
  generalize splitB gen 0 x = P at *
  obtain ⟨n, hn⟩ : ∃ n, partsN x.length = n := ⟨_, rfl⟩
  rw [hn] at hres HC HPL HU0 p1 p2
  clear hn hx hg
  have ha1 : ¬ ((area : Int) < 0) := by omega
  have ha2 : ¬ ((2 : Int) ≤ (area : Int)) := by omega
  have hn0 : ((n : Int) == 0) = false := by simp; omega
  by_cases h32 : 32 < n
  · rw [if_pos h32] at hres
    obtain ⟨rfl, rfl⟩ : T = Tr ∧ 1 = cr := by cases hres; exact ⟨rfl, rfl⟩
    have h32' : (32 : Int) < (n : Int) := by omega
    clear hres h32
    go_enter Tryd.func15, Tryd.ntmps15
    go_wp2_with fail
    refine Calls.mono HC.out ?_
    rintro e w1 ⟨rfl, hz1, hk1⟩
    have HB1 := Lib.hid (HB0.out.kept hk1)
    clear HC hz1 hk1
    go_wp2
    go_ret
    exact ⟨rfl, HB1.out.1, HB1.out.2⟩
  · rw [if_neg h32] at hres
    have h32' : ¬ ((32 : Int) < (n : Int)) := by omega
    have HRES := Lib.hid (show BankT.layM (50 + 32 * (area : Int)) P (L.drop 0) 0 T = (Tr, cr) from hres)
    clear hres h32
    go_enter Tryd.func15, Tryd.ntmps15
    go_wp2_with fail
    refine Calls.mono HC.out ?_
    rintro e w1 ⟨rfl, hz1, hk1⟩
    have HX1 := Lib.hid hz1
    have HS1 := Lib.hid (HB0.out.kept hk1).2
    have HB1 := Lib.hid (HB0.out.more hk1 W.heap.size (Nat.le_refl _) (Array.getElem?_eq_some_iff.1 hz1).1)
    have HLV1 := Lib.hid (HLV0.out.kept hk1)
    generalize W.heap.size = X at *
    clear HC hz1 hk1 HLV0 HB0
    have HUZ := Lib.hid (show T.UseN ((L.length - 0) * n) from HU0.out)
    clear HU0
    go_wp2
    go_loopw [12, 37] (fun m i wr => ∃ (t k : Nat) (T : BankT), t ≤ L.length ∧ k ≤ t ∧ i = .int .i64 t ∧ m = .int .i64 k ∧ Hid (BankT.layM (50 + 32 * (area : Int)) P (L.drop t) k T = (Tr, cr)) ∧ Hid (T.UseN ((L.length - t) * n)) ∧ Hid (BK w0 (fun k => R k ∨ k = X) wr q T) ∧ Hid (SameR (fun k => R k ∨ k = X) w1 wr)) (fun _ i _ => L.length - (intOf i).toNat)
    case atStart => exact ⟨0, 0, T, Nat.zero_le _, Nat.le_refl _, rfl, rfl, HRES, HUZ, HB1, Lib.hid (SameR.refl _ _)⟩
    case round =>
      clear HRES HUZ HB1
      obtain ⟨t, k, T, ht, hkt, rfl, rfl, HRES, HU, HB, HS⟩ := hrel
      by_cases hlt : t < L.length
      · have hcell := cell_ints (HS.out.cells (B := B) (.inl HR.out) HLV1.out) hlt
        have HX := Lib.hid ((HS.out X (.inr rfl)).trans HX1.out)
        replace HRES : Hid (BankT.layM (50 + 32 * (area : Int)) P (L.getD t 0 :: L.drop (t + 1)) k T = (Tr, cr)) := Lib.hid (by rw [← drop_int hlt]; exact HRES.out)
        generalize L.getD t 0 = d at *
        obtain ⟨T1, c1, hw⟩ : ∃ T1 c1, BankT.layL d (50 + 32 * (area : Int)) P T = (T1, c1) := ⟨_, _, rfl⟩
        have hu : T.UseN ((L.length - (t + 1)) * n + n) := by
          have := HU.out
          rw [show L.length - t = L.length - (t + 1) + 1 by omega, Nat.succ_mul] at this
          exact this
        have hu1 := BankT.UseN.layL (k := (L.length - (t + 1)) * n) d P (T := T) (50 + 32 * (area : Int)) (by rw [HPL.out]; exact hu) HPS.out
        rw [hw] at hu1
        have HU1 := Lib.hid hu1
        have HLAY := Lib.hid (check_lay HB.out P HPS.out (by rw [HPL.out]; omega) (by rw [HPL.out]; exact hu.less (by omega)) d (50 + 32 * (area : Int)) (by omega) X (.inr rfl) HX.out)
        rw [hw, HPL.out] at HLAY
        unfold BankT.layM at HRES
        rw [hw] at HRES
        simp only [] at HRES HU1 HLAY
        clear hu hu1 hw HU HX
        go_wp2_with fail
        refine Calls.mono (check_first area ha _) ?_
        rintro e w' ⟨rfl, rfl⟩
        go_wp2_with fail
        refine Calls.mono HLAY.out ?_
        rintro e w3 ⟨rfl, hb3, hs3⟩
        have HB3 := Lib.hid hb3
        have HS3 := Lib.hid (HS.out.trans hs3)
        clear hb3 hs3 HB HS HLAY hcell
        by_cases hc : c1 = 0
        · subst hc
          replace HRES : Hid (BankT.layM (50 + 32 * (area : Int)) P (L.drop (t + 1)) (k + 1) T1 = (Tr, cr)) := Lib.hid (by have := HRES.out; rw [if_pos rfl] at this; exact this)
          go_wp2
          go_roundw
          case rel => exact ⟨t + 1, k + 1, T1, hlt, by omega, by go_num, by go_num, HRES, HU1, HB3, HS3⟩
          case measure => simp [intOf]; omega
        · have hcb : (c1 == 0) = false := by simpa using hc
          have hr := HRES.out
          rw [if_neg hc] at hr
          clear HRES hc
          rcases hpass : passE c1 with _ | _
          · rw [if_neg (by rw [hpass]; decide)] at hr
            obtain ⟨rfl, rfl⟩ : T1 = Tr ∧ 6 = cr := by cases hr; exact ⟨rfl, rfl⟩
            have HP := Lib.hid hpass
            clear hr hpass
            go_wp2_with fail
            refine Calls.mono (check_passed c1 _) ?_
            rintro e w' ⟨rfl, rfl⟩
            rw [HP.out]
            go_wp2
            go_ret
            exact ⟨rfl, HB3.out.less fun k hk => .inl hk, HS1.out.trans fun k hk => HS3.out k (.inl hk)⟩
          · rw [if_pos hpass] at hr
            have HRES := Lib.hid hr
            have HP := Lib.hid hpass
            clear hr hpass
            go_wp2_with fail
            refine Calls.mono (check_passed c1 _) ?_
            rintro e w' ⟨rfl, rfl⟩
            rw [HP.out]
            go_wp2
            go_roundw
            case rel => exact ⟨t + 1, k, T1, hlt, by omega, by go_num, rfl, HRES, HU1, HB3, HS3⟩
            case measure => simp [intOf]; omega
      · have htn : t = L.length := by omega
        have hr := HRES.out
        rw [htn, List.drop_length] at hr
        unfold BankT.layM at hr
        have hge : L.length ≤ t := by omega
        by_cases hk0 : k = 0
        · rw [if_pos hk0] at hr
          obtain ⟨rfl, rfl⟩ : T = Tr ∧ 5 = cr := by cases hr; exact ⟨rfl, rfl⟩
          have hkb : ((k : Int) == 0) = true := by simp [hk0]
          clear hr HRES htn hk0
          go_wp2
          go_ret
          exact ⟨rfl, HB.out.less fun k hk => .inl hk, HS1.out.trans fun k hk => HS.out k (.inl hk)⟩
        · rw [if_neg hk0] at hr
          obtain ⟨rfl, rfl⟩ : T = Tr ∧ 0 = cr := by cases hr; exact ⟨rfl, rfl⟩
          have hkb : ((k : Int) == 0) = false := by simp [hk0]
          clear hr HRES htn hk0
          go_wp2
          go_ret
          exact ⟨rfl, HB.out.less fun k hk => .inl hk, HS1.out.trans fun k hk => HS.out k (.inl hk)⟩
end
end Go.Proofs.YtpeclkhppgabfaaDoor
