/- PaF: several texts in one: Dkr Text Dko Dkq Dkt. -/
import Derived.Test.YtpeclkhppgabfaaDoorPaE
import Derived.Test.YtpeclkhppgabfaaDoorPaA
import Derived.OrdersHeld
import Derived.Laws.MakeOwn
import Derived.Laws.OwnMore
/- A disk.Bank: Crash sorts what it has collected; Crash, counts and Write whole. -/
namespace Go.Proofs.YtpeclkhppgabfaaDoor
open Go.RowKit Go.Shelf Go.Lib Go.Sort
set_option linter.unusedVariables false
set_option linter.unusedSimpArgs false

theorem sortW_block {α : Type} [Inhabited α] (enc : α → List Value) (k : Nat) (w : World) (blk off m : Nat) (d : Array α) (os : Array Obj) {b : Nat} (hb : b < w.heap.size) (hn : b ≠ blk) : (sortWorldK enc k w blk off m d os).heap[b]? = w.heap[b]? := by
  have h1 : b < (w.heap.modify blk (onCells (putCells id off (flatK enc k d)))).size := by simpa using hb
  show ((w.heap.modify blk (onCells (putCells id off (flatK enc k d)))) ++ os)[b]? = _
  rw [Array.getElem?_append_left h1, Array.getElem?_modify, if_neg (Ne.symm hn)]
theorem sortW_row {α : Type} [Inhabited α] (enc : α → List Value) (k : Nat) (w : World) (blk off m : Nat) (d : Array α) (os : Array Obj) {cur : Array Value} {t : TypeId} {fr : Nat × Nat} (hb : w.heap[blk]? = some (.cells cur t fr)) : (sortWorldK enc k w blk off m d os).heap[blk]? = some (.cells (putCells id off (flatK enc k d) cur) t fr) := by
  have hlt : blk < w.heap.size := (Array.getElem?_eq_some_iff.1 hb).1
  have h1 : blk < (w.heap.modify blk (onCells (putCells id off (flatK enc k d)))).size := by simpa using hlt
  show ((w.heap.modify blk (onCells (putCells id off (flatK enc k d)))) ++ os)[blk]? = _
  rw [Array.getElem?_append_left h1, Array.getElem?_modify, if_pos rfl, hb]
  rfl
theorem sortW_size {α : Type} [Inhabited α] (enc : α → List Value) (k : Nat) (w : World) (blk off m : Nat) (d : Array α) (os : Array Obj) : w.heap.size ≤ (sortWorldK enc k w blk off m d os).heap.size := by
  show _ ≤ ((w.heap.modify blk (onCells (putCells id off (flatK enc k d)))) ++ os).size
  rw [Array.size_append, Array.size_modify]; omega
theorem put_take (F cur : Array Value) (h : F.size ≤ cur.size) : (putCells id 0 F cur).size = cur.size ∧ (putCells id 0 F cur).toList.take F.size = F.toList := by
  refine ⟨by simp [putCells], ?_⟩
  apply List.ext_getElem?
  intro i
  rw [List.getElem?_take]
  by_cases hi : i < F.size
  · have hc : i < cur.size := by omega
    rw [if_pos hi, Array.getElem?_toList, Array.getElem?_toList]
    simp [putCells, hi, hc, getElem!_pos]
  · rw [if_neg hi, Array.getElem?_toList, Array.getElem?_eq_none (by omega)]
section
variable {w : World} {Y : Lay} {T : BankT}
/-- a place that is one -/
abbrev Plc (T : BankT) : Type := { p : Nat × Nat // T.Has p }
def encP (Y : Lay) (T : BankT) (x : Plc T) : List Value := [.pointer (some ⟨Y.A (2 + 4 * x.1.1), 0, none⟩), .int .i64 (x.1.2 : Int)]
theorem flat_at [Inhabited (Plc T)] (Y : Lay) (d : Array (Plc T)) (i c : Nat) (hi : i < d.size) (hc : c < 2) : (flatK (encP Y T) 2 d)[i * 2 + c]? = (encP Y T d[i])[c]? := by
  have ht : i * 2 + c < d.size * 2 := by omega
  have hs : i * 2 + c < (flatK (encP Y T) 2 d).size := by rw [size_flatK]; exact ht
  have h1 := get_flatK (encP Y T) 2 d (i * 2 + c) ht
  rw [show (i * 2 + c) / 2 = i by omega, show (i * 2 + c) % 2 = c by omega, getElem!_pos (flatK (encP Y T) 2 d) (i * 2 + c) hs, getElem!_pos d i hi] at h1
  rw [Array.getElem?_eq_getElem hs, h1]
  have hc2 : c < (encP Y T d[i]).length := hc
  rw [getElem!_pos (encP Y T d[i]) c hc2, List.getElem?_eq_getElem hc2]
theorem flat_places [Inhabited (Plc T)] (Y : Lay) (d : Array (Plc T)) : flatK (encP Y T) 2 d = (places Y (d.toList.map (·.1))).toArray := by
  apply Array.ext_getElem?
  intro t
  by_cases ht : t < d.size * 2
  · obtain ⟨i, hi⟩ : ∃ i, t = i * 2 ∨ t = i * 2 + 1 := ⟨t / 2, by omega⟩
    have hi0 : i < d.size := by omega
    have hi' : i < (d.toList.map (·.1)).length := by simpa using hi0
    obtain ⟨h1, h2⟩ := places_get Y (d.toList.map (·.1)) i hi'
    have e3 : (d.toList.map (·.1))[i] = d[i].1 := by simp
    rw [e3] at h1 h2
    have h4 : ∀ (M : List Value) (u : Nat), M.toArray[u]? = M[u]? := fun M u => by simp
    rcases hi with rfl | rfl
    · exact (flat_at Y d i 0 hi0 (by decide)).trans (h1.symm.trans (h4 _ _).symm)
    · exact (flat_at Y d i 1 hi0 (by decide)).trans (h2.symm.trans (h4 _ _).symm)
  · rw [Array.getElem?_eq_none (by rw [size_flatK]; omega), Array.getElem?_eq_none (by rw [List.size_toArray, places_length]; simp; omega)]
theorem cmp_lt (T : BankT) (x y : Plc T) : ltOf (fun x y : Plc T => Lib.compareInt (T.since x.1) (T.since y.1)) x y = decide (T.since x.1 < T.since y.1) := by
  unfold ltOf Lib.compareInt
  by_cases h1 : T.since x.1 < T.since y.1
  · simp [h1]
  · by_cases h2 : T.since y.1 < T.since x.1 <;> simp [h1, h2]
theorem cmp_swo (T : BankT) : SWO (ltOf fun x y : Plc T => Lib.compareInt (T.since x.1) (T.since y.1)) where
  irrefl x := by rw [cmp_lt]; simp
  trans x y z h1 h2 := by rw [cmp_lt] at *; simp at *; omega
  ntrans x y z h1 h2 := by rw [cmp_lt] at *; simp at *; omega
set_option maxHeartbeats 1000000
set_option maxRecDepth 100000
theorem sorts_all (inv : T.Inv) (base : Nat) : SortsAll Y T base := by
  intro wc v hB hin hown
  have hlen : (T.looseTo T.l.length).length = T.order.length := (sortBy_perm _ _).length_eq.symm
  have hord : T.order = sortBy T.since (T.looseTo T.l.length) := rfl
  have hmem : ∀ p ∈ T.looseTo T.l.length, T.Has p := fun p hp => ⟨((T.mem_looseTo _ p).1 hp).1, ((T.mem_looseTo _ p).1 hp).2.1⟩
  by_cases h0 : T.looseTo T.l.length = []
  · have ho : T.order = [] := by rw [hord, h0]; rfl
    obtain ⟨ao, cap, rfl, _⟩ := own_form hown
    rw [h0] at hown ⊢
    rw [ho]
    have hcon := AnyF.slices_SortFunc_none (P := Tryd.prog) (ρ := Tryd.sortL_ren) { Tryd.sortL with } ao cap (.func (.func 45) #[] #[]) wc
    refine Calls.mono hcon ?_
    rintro e w' ⟨rfl, rfl⟩
    exact ⟨rfl, hown, grownBy_refl _ _⟩
  · generalize hL : T.looseTo T.l.length = L at *
    have hl := hown.1
    rw [places_length] at hl
    rcases hown.2 with ⟨rfl, hn0⟩ | ⟨g, cap, cur, rfl, hb, hg, hn, hcm, hcs, htk⟩
    · exact absurd (List.eq_nil_of_length_eq_zero hn0) h0
    · obtain ⟨p0, hp0⟩ : ∃ p, p ∈ L := List.exists_mem_of_ne_nil L h0
      haveI : Inhabited (Plc T) := ⟨⟨p0, hmem p0 hp0⟩⟩
      let d : Array (Plc T) := (L.attach.map fun x => (⟨x.1, hmem x.1 x.2⟩ : Plc T)).toArray
      have hd1 : d.toList.map (·.1) = L := by
        show (L.attach.map fun x => (⟨x.1, hmem x.1 x.2⟩ : Plc T)).map (·.1) = L
        rw [List.map_map]
        exact List.attach_map_subtype_val L
      have hds : d.size = L.length := by rw [← hd1]; simp
      have hfl := flat_places Y d
      rw [hd1] at hfl
      have hglt : g < wc.heap.size := (Array.getElem?_eq_some_iff.1 hg).1
      have hH : HoldsK (encP Y T) 2 wc g 0 d := by
        intro j hj
        rw [hfl] at hj ⊢
        have hj' : j < (places Y L).length := by simpa using hj
        have hjc : j < cur.size := by rw [places_length] at hj'; rw [hcs]; have := Nat.mul_le_mul_right 2 hn; omega
        refine ⟨?_, by simp [World.frozen?, hg]⟩
        rw [Nat.zero_add, cell_of_row _ _ _ _ _ _ hg]
        have h1 : (places Y L)[j]? = cur[j]? := by
          rw [← Array.getElem?_toList (xs := cur), ← htk, List.getElem?_take, if_pos (by rw [places_length] at hj'; exact hj')]
        rw [← h1, List.getElem?_eq_getElem hj', getElem!_pos (places Y L).toArray j hj]
        simp
      have hcmp : CmpLays Tryd.prog 45 #[] (encP Y T) 2 (fun x y : Plc T => Lib.compareInt (T.since x.1) (T.since y.1)) g 0 d.size wc := by
        intro m os dk hs x y
        have hB' : BankD (sortWorldK (encP Y T) 2 wc g 0 m dk os) Y T := hB.same fun b hb' => sortW_block _ _ _ _ _ _ _ _ (hB.lt hb') (fun e => by have := hin b hb'; omega)
        exact closure_cmp hB' x.2 y.2 (inv.ok.d x.2.1).len (inv.ok.d y.2.1).len
      have eg : ∀ args w, (callFunc 45 args).run Tryd.prog w = .ok (.enter 45 args) w := enters_of Tryd.func45 (by kernel_rfl) rfl
      have hol : L.length ≤ 131072 := by
        have := BankT.looseTo_le inv.ok (Nat.le_refl _)
        have h2 := inv.ok.1
        rw [hL] at this; omega
      have hcon := AnyQ.slices_SortFunc Tryd.sortL 2 Tryd.isAgg93 Tryd.sizeOf93 (encP Y T) (fun _ => rfl) (fun x v hv => by simp [encP] at hv; rcases hv with rfl | rfl <;> rfl) (fun x y : Plc T => Lib.compareInt (T.since x.1) (T.since y.1)) (cmp_swo T) 45 #[] g 0 cap d wc eg hcmp hH hglt (by rw [hds]; omega)
      rw [hds] at hcon
      refine Calls.mono hcon ?_
      rintro e w' ⟨rfl, d', n, os, hp, hs, rfl⟩
      have hsz : d'.size = L.length := by rw [hp.1, hds]
      have hperm : (d'.toList.map (·.1)).Perm L := by
        have h3 := hp.2.2
        rw [← hsz, Array.extract_size, hsz, ← hds, Array.extract_size] at h3
        have := h3.map (·.1)
        rwa [hd1] at this
      have hsort : (d'.toList.map (·.1)).Pairwise (fun a b => T.since a ≤ T.since b) := by
        rw [List.pairwise_map, List.pairwise_iff_getElem]
        intro i j hi hj hij
        have hi' : i < d'.size := by simpa using hi
        have hj' : j < d'.size := by simpa using hj
        have := hs i j (Nat.zero_le _) hij (by omega)
        rw [cmp_lt] at this
        rw [getElem!_pos d' i hi', getElem!_pos d' j hj'] at this
        simpa using this
      have heq : d'.toList.map (·.1) = T.order := BankT.order_eq inv (by rw [hL]; exact hperm) hsort
      have hfl' := flat_places Y d'
      rw [heq] at hfl'
      have hfs : (flatK (encP Y T) 2 d').size = L.length * 2 := by rw [size_flatK, hsz]
      obtain ⟨q1, q2⟩ := put_take (flatK (encP Y T) 2 d') cur (by rw [hfs, hcs]; exact Nat.mul_le_mul_right 2 hn)
      refine ⟨rfl, ⟨by rw [places_length, hlen], .inr ⟨g, cap, putCells id 0 (flatK (encP Y T) 2 d') cur, rfl, hb, sortW_row _ _ _ _ _ _ _ _ hg, hn, hcm, by rw [q1, hcs], ?_⟩⟩, ⟨rfl, rfl, rfl, sortW_size _ _ _ _ _ _ _ _, fun k hk hne => sortW_block _ _ _ _ _ _ _ _ hk (fun e => hne (by rw [e]; rfl))⟩⟩
      rw [← hfs, q2, hfl']
theorem bank_Crash (h : BankD w Y T) (inv : T.Inv) (hN : T.l.length ≠ 0) (mask : Int) (hm0 : 0 ≤ mask) (hm1 : mask < 18446744073709551616) :
    Calls Tryd.prog 20 #[.pointer (some ⟨Y.A 0, 0, none⟩), .int .u64 mask] w fun e w' => e = .returned (.tuple #[]) ∧ BankD w' Y (T.crash mask) ∧ But (Y.In T.l.length) w w' :=
  crash_of h inv hN mask hm0 hm1 (sorts_all inv _)
theorem BankT.Inv.tickTo {T : BankT} (h : T.Inv) {j : Nat} (hj : j ≤ T.l.length) : (T.tickTo j).Inv := by
  obtain ⟨c, o, w, a, m, d⟩ := BankT.tickTo_calmer h.ok hj
  exact c.inv h o (by rw [w]; have := h.wr; omega) (by rw [a]; exact h.ar) (by rw [m]; exact h.msk)
theorem BankT.Inv.arm1 {T : BankT} (h : T.Inv) (h0 : 0 < T.armed) : T.arm1.Inv := ⟨h.ok, h.clk, h.wr, by have := h.ar; simp only [BankT.arm1]; omega, h.msk, h.top, h.uniq⟩
theorem bank_counts (h : BankD w Y T) (inv : T.Inv) (hN : T.l.length ≠ 0) (hw1 : T.writes < 1000000000) :
    Calls Tryd.prog 39 #[.pointer (some ⟨Y.A 0, 0, none⟩)] w fun e w' => e = .returned (.bool T.tick.2) ∧ BankD w' Y T.tick.1 ∧ But (Y.In T.l.length) w w' := by
  refine counts_of h inv hN hw1 fun hd h0 w1 h1 => ?_
  obtain ⟨c, o, w, a, m, d⟩ := BankT.tickTo_calmer inv.ok (Nat.le_refl T.l.length)
  have hi := (inv.tickTo (Nat.le_refl T.l.length)).arm1 (by rw [a]; exact h0)
  exact bank_Crash h1 hi (by show (T.tickTo T.l.length).l.length ≠ 0; rw [c.len]; exact hN) T.mask inv.msk.1 inv.msk.2
theorem BankT.crash_clock {T : BankT} (h : T.Ok) (mask : Int) : (T.crash mask).clock = T.clock ∧ (T.crash mask).writes = T.writes := by
  unfold BankT.crash
  split
  · exact ⟨rfl, rfl⟩
  · obtain ⟨c, w, _⟩ := BankT.settleL_calmer mask T.order 0 h (fun p hp => ((T.mem_order p).1 hp).1)
    exact ⟨c.clk, w⟩
theorem BankT.tick_clock {T : BankT} (h : T.Ok) : T.tick.1.clock = T.clock ∧ T.tick.1.writes ≤ T.writes + 1 := by
  obtain ⟨c, o, w, a, m, d⟩ := BankT.tickTo_calmer h (Nat.le_refl T.l.length)
  unfold BankT.tick
  split
  · exact ⟨rfl, by show T.writes ≤ _; omega⟩
  · split
    · split
      · obtain ⟨h1, h2⟩ := BankT.crash_clock (T := (T.tickTo T.l.length).arm1) o (T.tickTo T.l.length).mask
        exact ⟨h1.trans c.clk, by rw [h2]; show (T.tickTo T.l.length).writes ≤ _; omega⟩
      · exact ⟨c.clk, by show (T.tickTo T.l.length).writes ≤ _; omega⟩
    · exact ⟨c.clk, by show (T.tickTo T.l.length).writes ≤ _; omega⟩
theorem bank_Write (h : BankD w Y T) (inv : T.Inv) (hN : T.l.length ≠ 0) (hw1 : T.writes < 1000000000) (hc1 : T.clock < 1000000000) (d a : Int) {s : List Int} (hs : s.length = 64) :
    Calls Tryd.prog 17 #[.pointer (some ⟨Y.A 0, 0, none⟩), .agg #[.int .i64 d, .int .i64 a], .agg (u8s s).toArray] w fun e w' =>
      e = .returned (.int .i64 (T.write d a s).2) ∧ BankD w' Y (T.write d a s).1 ∧ But (Y.In T.l.length) w w' :=
  write_of T.tick h (BankT.tick_len inv.ok) inv.tick.ok hN inv.tick.clk (by rw [(BankT.tick_clock inv.ok).1]; exact hc1) d a hs fun w1 h1 => bank_counts h1 inv hN hw1
theorem BankT.inE_has {T : BankT} {d a : Int} (h : T.inE d a = 0) : ∃ k b : Nat, d = (k : Int) ∧ a = (b : Int) ∧ k < T.l.length ∧ b < (T.d k).sin.length ∧ T.readyE d = 0 := by
  unfold BankT.inE at h
  by_cases hr : T.readyE d = 0
  · rw [hr, if_neg (by decide)] at h
    obtain ⟨k, rfl, hk⟩ := BankT.readyE_in hr
    rw [Int.toNat_natCast] at h
    split at h
    · omega
    · exact ⟨k, a.toNat, rfl, by omega, hk, by omega, hr⟩
  · rw [if_pos hr] at h; exact absurd h hr
theorem BankT.Inv.write {T : BankT} (h : T.Inv) (d a : Int) {s : List Int} (hs : s.length = 64 ∧ ∀ x ∈ s, IsByte x) : (T.write d a s).1.Inv := by
  unfold BankT.write
  split
  · exact h.tick
  · split
    · rename_i hin
      obtain ⟨k, b, rfl, rfl, hk, hb, _⟩ := BankT.inE_has hin
      rw [Int.toNat_natCast, Int.toNat_natCast]
      exact h.tick.put hk hb hs
    · exact h.tick
theorem BankT.write_rest {T : BankT} (h : T.Ok) (d a : Int) (s : List Int) : (T.write d a s).1.l.length = T.l.length ∧ (T.write d a s).1.clock ≤ T.clock + 1 ∧ (T.write d a s).1.writes ≤ T.writes + 1 := by
  have h1 := BankT.tick_len h
  have h2 := BankT.tick_clock h
  unfold BankT.write
  split
  · exact ⟨h1, by rw [h2.1]; omega, h2.2⟩
  · split
    · obtain ⟨r1, r2, r3, r4, r5⟩ := T.tick.1.put_rest d.toNat a.toNat s
      refine ⟨r1.trans h1, ?_, by rw [r3]; exact h2.2⟩
      rw [BankT.put_clock]; split <;> omega
    · exact ⟨h1, by rw [h2.1]; omega, h2.2⟩
end
end Go.Proofs.YtpeclkhppgabfaaDoor
/- A region that draws its order, walked in the order of its text: loads and pure operations are taken at their turn under a condition S on the world, which every other operation but one last one (s, which waits for all others) keeps. After the kit's Derived.OrdersHeld. -/
namespace Go.Proofs.YtpeclkhppgabfaaDoor
open Go.RowKit
set_option linter.unusedVariables false
section
variable {P : Program} {ops : Array Oper} {Q : Exit → Act → World → Prop} {md : Region.Mode} {S : World → Prop} {s : Nat}

def wpAnyE (P : Program) (md : Region.Mode) (ops : Array Oper) (Q : Exit → Act → World → Prop) (S : World → Prop) (s : Nat) : Nat → Array Bool → Act → World → Prop
  | 0, listed, a, w => Region.ready md ops listed = [] ∧ Q .normal a w
  | fuel + 1, listed, a, w =>
    (Region.ready md ops listed = [] → Q .normal a w) ∧
    ∀ i ∈ Region.ready md ops listed, wpOp P ops Q i (fun a' w' => (i ≠ s → S w') ∧ wpAnyE P md ops Q S s fuel (listed.setIfInBounds i true) a' w') a w

theorem wpAny_of_E : ∀ (fuel : Nat) (listed : Array Bool) (a : Act) (w : World), wpAnyE P md ops Q S s fuel listed a w → wpAny P md ops Q fuel listed a w
  | 0, _, _, _, h => h
  | fuel + 1, _, _, _, h => ⟨h.1, fun i hi => wpOp_mono (fun a' w' h' => wpAny_of_E fuel _ a' w' h'.2) (h.2 i hi)⟩

/-- s is another one than i, and waits for it. -/
def waits (md : Region.Mode) (ops : Array Oper) (s i : Nat) : Bool :=
  s != i && (match ops[s]? with | some os => os.after.toList.any (fun e => Region.binds md e && e.on == i) | none => true)

theorem waits_not_ready {i : Nat} {listed : Array Bool} (h : waits md ops s i = true) (hi : i ∈ Region.ready md ops listed) : s ∉ Region.ready md ops listed := by
  intro hs
  obtain ⟨_, os, hos, hall⟩ := mem_ready.1 hs
  simp only [waits, hos, Bool.and_eq_true] at h
  obtain ⟨e, he, hb⟩ := List.any_eq_true.1 h.2
  simp only [Bool.and_eq_true, beq_iff_eq] at hb
  have h1 := hall e (by simpa using he) hb.1
  have h0 := (mem_ready.1 hi).1
  rw [hb.2] at h1
  rcases Nat.lt_or_ge i listed.size with h' | h'
  · simp [h'] at h0 h1; rw [h0] at h1; cases h1
  · simp [Array.getElem?_eq_none h'] at h1

theorem wpAnyE_first {i : Nat} {oi : Oper} {v : Value} (hi : ops[i]? = some oi) (hsel : ∀ (j : Nat) (o : Oper) cs b, ops[j]? = some o → o.op ≠ .select cs b)
    (hQ : ∀ c a w, Q (.panic c) (a.put oi.dst v) w → Q (.panic c) a w) (hsw : waits md ops s i = true) :
    ∀ (fuel : Nat) (listed : Array Bool) (a : Act) (w : World),
      (∀ j oj, ops[j]? = some oj → j ≠ i → listed.getD j true = false → (∀ e ∈ oj.after, Region.binds md e = true → e.on ≠ i) → oi.apart ops oj = true) →
      i ∈ Region.ready md ops listed → YieldsIf P ops S oi v a → S w →
      wpAnyE P md ops Q S s fuel (listed.setIfInBounds i true) (a.put oi.dst v) w → wpAnyE P md ops Q S s (fuel + 1) listed a w := by
  have hsi : i ≠ s := by
    intro h; subst h; simp [waits] at hsw
  intro fuel
  induction fuel with
  | zero =>
    intro listed a w _ hr hy hS H
    refine ⟨fun h => (by rw [h] at hr; cases hr), fun j hj => ?_⟩
    by_cases hji : j = i
    · subst hji; exact hy.wpOp hi hS ⟨fun _ => hS, H⟩
    · have := ready_mono hj hji
      rw [H.1] at this
      cases this
  | succ fuel ih =>
    intro listed a w hfree hr hy hS H
    refine ⟨fun h => (by rw [h] at hr; cases hr), fun j hj => ?_⟩
    by_cases hji : j = i
    · subst hji; exact hy.wpOp hi hS ⟨fun _ => hS, H⟩
    · have hjs : j ≠ s := fun e => waits_not_ready hsw hr (e ▸ hj)
      have h1 := H.2 j (ready_mono hj hji)
      obtain ⟨hjun, oj, hoj, hall⟩ := mem_ready.1 hj
      have hnot : ∀ e ∈ oj.after, Region.binds md e = true → e.on ≠ i := fun e he hb heq => by
        have h1 := hall e he hb
        have h0 := (mem_ready.1 hr).1
        rw [heq] at h1
        rcases Nat.lt_or_ge i listed.size with h' | h'
        · simp [h'] at h0 h1; rw [h0] at h1; cases h1
        · simp [Array.getElem?_eq_none h'] at h1
      have h2 := wpOp_putIf hoj (hfree j oj hoj hji hjun hnot) (fun cs b => hsel i oi cs b hi) (fun cs b => hsel j oj cs b hoj) hQ hy h1
      have hfree' : ∀ k ok, ops[k]? = some ok → k ≠ i → (listed.setIfInBounds j true).getD k true = false →
          (∀ e ∈ ok.after, Region.binds md e = true → e.on ≠ i) → oi.apart ops ok = true := fun k ok hk hki hun hno => by
        refine hfree k ok hk hki ?_ hno
        by_cases hjk : j = k
        · subst hjk; exact hjun
        · rw [getD_set_ne true hjk] at hun; exact hun
      refine wpOp_mono (fun a' w' h3 => ⟨h3.2.1, ih (listed.setIfInBounds j true) a' w' hfree' (ready_mono hr (Ne.symm hji)) h3.1 (h3.2.1 hjs) ?_⟩) h2
      rw [Array.setIfInBounds_comm _ _ hji]
      exact h3.2.2

/-- All that can be asked of the region's text when number i is taken: by the kernel. -/
def takes (md : Region.Mode) (ops : Array Oper) (listed : Array Bool) (s i : Nat) : Bool :=
  Region.noSelect ops && (Region.free md ops listed i && ((Region.ready md ops listed).contains i && waits md ops s i))

theorem wpAnyE_take {i : Nat} {oi : Oper} {v : Value} {fuel : Nat} {listed listed' : Array Bool} {a : Act} {w : World} (hi : ops[i]? = some oi)
    (hc : takes md ops listed s i = true) (hl : listed.setIfInBounds i true = listed')
    (hQ : ∀ c a w, Q (.panic c) (a.put oi.dst v) w → Q (.panic c) a w) (hS : S w) (hw : Region.wanted oi (yielded ops a.tmps) = true)
    (hy : ∀ w, S w → (execOp a.eval oi).run P w = .ok (.value v) w)
    (h : wpAnyE P md ops Q S s fuel listed' (a.put oi.dst v) w) : wpAnyE P md ops Q S s (fuel + 1) listed a w := by
  simp only [takes, Bool.and_eq_true] at hc
  subst hl
  exact wpAnyE_first hi (Region.noSelect_spec hc.1) hQ hc.2.2.2 fuel listed a w (Region.free_spec hi hc.2.1) (by simpa using hc.2.2.1) (.inl ⟨hw, hy⟩) hS h
/-- An operation whose guard says no. -/
theorem wpAnyE_skip {i : Nat} {oi : Oper} {fuel : Nat} {listed listed' : Array Bool} {a : Act} {w : World} (hi : ops[i]? = some oi)
    (hc : takes md ops listed s i = true) (hl : listed.setIfInBounds i true = listed')
    (hQ : ∀ c a w, Q (.panic c) (a.put oi.dst undef) w → Q (.panic c) a w) (hS : S w) (hw : Region.wanted oi (yielded ops a.tmps) = false)
    (h : wpAnyE P md ops Q S s fuel listed' (a.put oi.dst undef) w) : wpAnyE P md ops Q S s (fuel + 1) listed a w := by
  simp only [takes, Bool.and_eq_true] at hc
  subst hl
  exact wpAnyE_first hi (Region.noSelect_spec hc.1) hQ hc.2.2.2 fuel listed a w (Region.free_spec hi hc.2.1) (by simpa using hc.2.2.1) (.inr ⟨hw, rfl⟩) hS h

/-- Just one may come up: it is carried out. -/
theorem wpAnyE_one {i : Nat} {oi : Oper} {fuel : Nat} {listed listed' : Array Bool} {a : Act} {w : World} (hi : ops[i]? = some oi) (hr : Region.ready md ops listed = [i]) (hl : listed.setIfInBounds i true = listed')
    (hw : Region.wanted oi (yielded ops a.tmps) = true)
    (h : ∀ K : Act → World → Prop, (∀ a' w', (i ≠ s → S w') → wpAnyE P md ops Q S s fuel listed' a' w' → K a' w') → oi.wp P a w K Q) : wpAnyE P md ops Q S s (fuel + 1) listed a w := by
  subst hl
  refine ⟨fun h0 => (by rw [h0] at hr; cases hr), fun j hj => ?_⟩
  rw [hr] at hj
  obtain rfl : j = i := by simpa using hj
  unfold wpOp
  simp only [hi, hw, if_true]
  exact .inl (h _ fun a' w' h1 h2 => ⟨h1, h2⟩)

theorem wpAnyE_done {listed : Array Bool} {a : Act} {w : World} (hr : Region.ready md ops listed = []) (h : Q .normal a w) :
    ∀ fuel, wpAnyE P md ops Q S s fuel listed a w
  | 0 => ⟨hr, h⟩
  | _ + 1 => ⟨fun _ => h, by rw [hr]; simp⟩

theorem wp_region_E (S : World → Prop) (s : Nat) {id : Nat} {a : Act} {w : World} (hm : P.follows .mixedOrders = true)
    (h : wpAnyE P .any ops Q S s ops.size (Array.replicate ops.size false) a w.drew) : (Code.region id ops true).wp P Q a w :=
  wp_region_any hm (wpAny_of_E _ _ _ _ h)
/-- the post of a panic made False, where it hangs on the frame -/
def Calm (Q : Exit → Act → World → Prop) : Exit → Act → World → Prop
  | .panic _, _, _ => False
  | e, a, w => Q e a w
theorem wp_region_calm {id : Nat} {b : Bool} {a : Act} {w : World} (h : (Code.region id ops b).wp P (Calm Q) a w) : (Code.region id ops b).wp P Q a w :=
  wp_mono h fun e a w hq => by cases e <;> first | exact hq | exact hq.elim
theorem calm_put {o : Option Tmp} {v : Value} : ∀ c a w, Calm Q (.panic c) (a.put o v) w → Calm Q (.panic c) a w := fun _ _ _ h => h
theorem calm_normal {a : Act} {w : World} (h : Q .normal a w) : Calm Q .normal a w := h

end
end Go.Proofs.YtpeclkhppgabfaaDoor
/- Three new rows, made in whatever order. -/
namespace Go.Proofs.YtpeclkhppgabfaaDoor
open Go.RowKit
set_option linter.unusedVariables false
set_option linter.unusedSimpArgs false

theorem put_comm (A : Act) {d e : Nat} (h : d ≠ e) (v u : Value) : (A.put (some d) v).put (some e) u = (A.put (some e) u).put (some d) v := by
  simp only [Act.put]
  congr 1
  exact Array.setIfInBounds_comm _ _ h
theorem put_eval (A : Act) {d m : Nat} (h : d ≠ m) (v : Value) : (A.put (some d) v).eval (.tmp m) = A.eval (.tmp m) := by
  simp only [Act.put, Act.eval]
  simp [Array.getElem?_setIfInBounds, h]
/-- what a new row of n elements of type e does -/
structure Makes (P : Program) (o : Oper) (d m n : Nat) (e : TypeId) (C : List Value) : Prop where
  g : o.guard = none
  dst : o.dst = some d
  t : ∃ t i z, o.op = .makeSlice t (.tmp m) (.tmp m) ∧ P.underlying t = some (.slice e) ∧ P.info? e = some i ∧ i.zero = some z ∧ i.bytes * n ≤ 281474976710656 ∧ madeCells z.cells (n * i.size) = C.toArray
theorem Makes.wp {P : Program} {o : Oper} {d m n : Nat} {e : TypeId} {C : List Value} (h : Makes P o d m n e C) (hn : n ≤ 1000000) {A : Act} {w : World} {K : Act → World → Prop} {Q : Exit → Act → World → Prop} (hm : A.eval (.tmp m) = .int .i64 (n : Int))
    (hK : ∀ w', w'.heap[w.heap.size]? = some (.cells C.toArray e (0, 0)) → Kept w w' → w'.heap.size = w.heap.size + 1 → K (A.put (some d) (.slice (some ⟨w.heap.size, 0, none⟩) n n)) w') : o.wp P A w K Q := by
  obtain ⟨t, i, z, ho, h1, h2, h3, h4, h5⟩ := h.t
  have hb' : (i.bytes : Int) * (n : Int) ≤ 281474976710656 := by
    have : ((i.bytes * n : Nat) : Int) ≤ 281474976710656 := by omega
    rwa [Int.natCast_mul] at this
  have hr := run_make (P := P) w t e i z h1 h2 h3 .i64 .i64 n n (by omega) (Int.le_refl _) hb' (by omega)
  simp only [Int.toNat_natCast, h5] at hr
  unfold Oper.wp execOp
  simp only [ho, hm, Sem.run_bind, hr, Result.andThen_ok, Sem.run_pure]
  show K (A.put o.dst _) _
  rw [h.dst]
  exact hK _ (heap_alloc_new w _) ((Kept.refl _).alloc _) (World.size_alloc _ _)
section
variable {P : Program} {ops : Array Oper} {Q : Exit → Act → World → Prop} {md : Region.Mode} {S : World → Prop} {s : Nat}
theorem wpAnyE_step {fuel : Nat} {listed : Array Bool} {a : Act} {w : World} {r : List Nat} (hr : Region.ready md ops listed = r) (hne : r ≠ [])
    (h : ∀ i ∈ r, ∃ oi, ops[i]? = some oi ∧ oi.guard = none ∧ ∀ K : Act → World → Prop, (∀ a' w', (i ≠ s → S w') → wpAnyE P md ops Q S s fuel (listed.setIfInBounds i true) a' w' → K a' w') → oi.wp P a w K Q) : wpAnyE P md ops Q S s (fuel + 1) listed a w := by
  refine ⟨fun h0 => absurd (hr ▸ h0) hne, fun i hi => ?_⟩
  rw [hr] at hi
  obtain ⟨oi, h1, h2, h3⟩ := h i hi
  have hw : Region.wanted oi (yielded ops a.tmps) = true := by simp [Region.wanted, h2]
  unfold wpOp
  simp only [h1, hw, if_true]
  exact .inl (h3 _ fun a' w' h1 h2 => ⟨h1, h2⟩)
/-- three rows made in whatever order -/
theorem wpAnyE_makes {i j k : Nat} {oi oj ok : Oper} {di dj dk mi mj mk n : Nat} {ei ej ek : TypeId} {Ci Cj Ck : List Value} {fuel : Nat} {L0 Li Lj Lk Lij Lik Ljk L3 : Array Bool} {A : Act} {w : World}
    (hoi : ops[i]? = some oi) (hoj : ops[j]? = some oj) (hok : ops[k]? = some ok)
    (r0 : Region.ready md ops L0 = [i, j, k])
    (ei1 : L0.setIfInBounds i true = Li) (ej1 : L0.setIfInBounds j true = Lj) (ek1 : L0.setIfInBounds k true = Lk)
    (ri : Region.ready md ops Li = [j, k]) (rj : Region.ready md ops Lj = [i, k]) (rk : Region.ready md ops Lk = [i, j])
    (eij : Li.setIfInBounds j true = Lij) (eji : Lj.setIfInBounds i true = Lij) (eik : Li.setIfInBounds k true = Lik) (eki : Lk.setIfInBounds i true = Lik) (ejk : Lj.setIfInBounds k true = Ljk) (ekj : Lk.setIfInBounds j true = Ljk)
    (rij : Region.ready md ops Lij = [k]) (rik : Region.ready md ops Lik = [j]) (rjk : Region.ready md ops Ljk = [i])
    (e1 : Lij.setIfInBounds k true = L3) (e2 : Lik.setIfInBounds j true = L3) (e3 : Ljk.setIfInBounds i true = L3)
    (Mi : Makes P oi di mi n ei Ci) (Mj : Makes P oj dj mj n ej Cj) (Mk : Makes P ok dk mk n ek Ck) (hn : n ≤ 1000000)
    (vi : A.eval (.tmp mi) = .int .i64 (n : Int)) (vj : A.eval (.tmp mj) = .int .i64 (n : Int)) (vk : A.eval (.tmp mk) = .int .i64 (n : Int))
    (nd : di ≠ dj ∧ di ≠ dk ∧ dj ≠ dk ∧ di ≠ mj ∧ di ≠ mk ∧ dj ≠ mi ∧ dj ≠ mk ∧ dk ≠ mi ∧ dk ≠ mj) (hS : ∀ w', Kept w w' → S w')
    (H : ∀ (p q r : Nat) (w3 : World), w.heap.size ≤ p → w.heap.size ≤ q → w.heap.size ≤ r → p ≠ q → p ≠ r → q ≠ r → w3.heap[p]? = some (.cells Ci.toArray ei (0, 0)) → w3.heap[q]? = some (.cells Cj.toArray ej (0, 0)) → w3.heap[r]? = some (.cells Ck.toArray ek (0, 0)) → Kept w w3 →
      wpAnyE P md ops Q S s fuel L3 (((A.put (some di) (.slice (some ⟨p, 0, none⟩) n n)).put (some dj) (.slice (some ⟨q, 0, none⟩) n n)).put (some dk) (.slice (some ⟨r, 0, none⟩) n n)) w3) :
    wpAnyE P md ops Q S s (fuel + 3) L0 A w := by
  obtain ⟨n1, n2, n3, n4, n5, n6, n7, n8, n9⟩ := nd
  refine wpAnyE_step r0 (by simp) fun x hx => ?_
  simp only [List.mem_cons, List.mem_nil_iff, or_false] at hx
  rcases hx with rfl | rfl | rfl
  · refine ⟨oi, hoi, Mi.g, fun K hK => Mi.wp hn vi fun w1 b1 k1 s1 => hK _ _ (fun _ => hS _ k1) ?_⟩
    rw [ei1]
    refine wpAnyE_step ri (by simp) fun y hy => ?_
    simp only [List.mem_cons, List.mem_nil_iff, or_false] at hy
    rcases hy with rfl | rfl
    · refine ⟨oj, hoj, Mj.g, fun K hK => Mj.wp hn ((put_eval A n4 _).trans vj) fun w2 b2 k2 s2 => hK _ _ (fun _ => hS _ (k1.trans k2)) ?_⟩
      rw [eij]
      refine wpAnyE_step rij (by simp) fun z hz => ?_
      obtain rfl : z = k := by simpa using hz
      refine ⟨ok, hok, Mk.g, fun K hK => Mk.wp hn (((put_eval _ n7 _).trans (put_eval A n5 _)).trans vk) fun w3 b3 k3 s3 => hK _ _ (fun _ => hS _ ((k1.trans k2).trans k3)) ?_⟩
      rw [e1]
      exact H _ _ _ w3 (by omega) (by omega) (by omega) (by omega) (by omega) (by omega) (k3.block (k2.block b1)) (k3.block b2) b3 ((k1.trans k2).trans k3)
    · refine ⟨ok, hok, Mk.g, fun K hK => Mk.wp hn ((put_eval A n5 _).trans vk) fun w2 b2 k2 s2 => hK _ _ (fun _ => hS _ (k1.trans k2)) ?_⟩
      rw [eik]
      refine wpAnyE_step rik (by simp) fun z hz => ?_
      obtain rfl : z = j := by simpa using hz
      refine ⟨oj, hoj, Mj.g, fun K hK => Mj.wp hn (((put_eval _ n9 _).trans (put_eval A n4 _)).trans vj) fun w3 b3 k3 s3 => hK _ _ (fun _ => hS _ ((k1.trans k2).trans k3)) ?_⟩
      rw [e2, put_comm _ n3.symm]
      exact H _ _ _ w3 (by omega) (by omega) (by omega) (by omega) (by omega) (by omega) (k3.block (k2.block b1)) b3 (k3.block b2) ((k1.trans k2).trans k3)
  · refine ⟨oj, hoj, Mj.g, fun K hK => Mj.wp hn vj fun w1 b1 k1 s1 => hK _ _ (fun _ => hS _ k1) ?_⟩
    rw [ej1]
    refine wpAnyE_step rj (by simp) fun y hy => ?_
    simp only [List.mem_cons, List.mem_nil_iff, or_false] at hy
    rcases hy with rfl | rfl
    · refine ⟨oi, hoi, Mi.g, fun K hK => Mi.wp hn ((put_eval A n6 _).trans vi) fun w2 b2 k2 s2 => hK _ _ (fun _ => hS _ (k1.trans k2)) ?_⟩
      rw [eji]
      refine wpAnyE_step rij (by simp) fun z hz => ?_
      obtain rfl : z = k := by simpa using hz
      refine ⟨ok, hok, Mk.g, fun K hK => Mk.wp hn (((put_eval _ n5 _).trans (put_eval A n7 _)).trans vk) fun w3 b3 k3 s3 => hK _ _ (fun _ => hS _ ((k1.trans k2).trans k3)) ?_⟩
      rw [e1, put_comm A n1.symm]
      exact H _ _ _ w3 (by omega) (by omega) (by omega) (by omega) (by omega) (by omega) (k3.block b2) (k3.block (k2.block b1)) b3 ((k1.trans k2).trans k3)
    · refine ⟨ok, hok, Mk.g, fun K hK => Mk.wp hn ((put_eval A n7 _).trans vk) fun w2 b2 k2 s2 => hK _ _ (fun _ => hS _ (k1.trans k2)) ?_⟩
      rw [ejk]
      refine wpAnyE_step rjk (by simp) fun z hz => ?_
      obtain rfl : z = i := by simpa using hz
      refine ⟨oi, hoi, Mi.g, fun K hK => Mi.wp hn (((put_eval _ n8 _).trans (put_eval A n6 _)).trans vi) fun w3 b3 k3 s3 => hK _ _ (fun _ => hS _ ((k1.trans k2).trans k3)) ?_⟩
      rw [e3, put_comm _ n2.symm, put_comm A n1.symm]
      exact H _ _ _ w3 (by omega) (by omega) (by omega) (by omega) (by omega) (by omega) b3 (k3.block (k2.block b1)) (k3.block b2) ((k1.trans k2).trans k3)
  · refine ⟨ok, hok, Mk.g, fun K hK => Mk.wp hn vk fun w1 b1 k1 s1 => hK _ _ (fun _ => hS _ k1) ?_⟩
    rw [ek1]
    refine wpAnyE_step rk (by simp) fun y hy => ?_
    simp only [List.mem_cons, List.mem_nil_iff, or_false] at hy
    rcases hy with rfl | rfl
    · refine ⟨oi, hoi, Mi.g, fun K hK => Mi.wp hn ((put_eval A n8 _).trans vi) fun w2 b2 k2 s2 => hK _ _ (fun _ => hS _ (k1.trans k2)) ?_⟩
      rw [eki]
      refine wpAnyE_step rik (by simp) fun z hz => ?_
      obtain rfl : z = j := by simpa using hz
      refine ⟨oj, hoj, Mj.g, fun K hK => Mj.wp hn (((put_eval _ n4 _).trans (put_eval A n9 _)).trans vj) fun w3 b3 k3 s3 => hK _ _ (fun _ => hS _ ((k1.trans k2).trans k3)) ?_⟩
      rw [e2, put_comm A n2.symm, put_comm _ n3.symm]
      exact H _ _ _ w3 (by omega) (by omega) (by omega) (by omega) (by omega) (by omega) (k3.block b2) b3 (k3.block (k2.block b1)) ((k1.trans k2).trans k3)
    · refine ⟨oj, hoj, Mj.g, fun K hK => Mj.wp hn ((put_eval A n9 _).trans vj) fun w2 b2 k2 s2 => hK _ _ (fun _ => hS _ (k1.trans k2)) ?_⟩
      rw [ekj]
      refine wpAnyE_step rjk (by simp) fun z hz => ?_
      obtain rfl : z = i := by simpa using hz
      refine ⟨oi, hoi, Mi.g, fun K hK => Mi.wp hn (((put_eval _ n6 _).trans (put_eval A n8 _)).trans vi) fun w3 b3 k3 s3 => hK _ _ (fun _ => hS _ ((k1.trans k2).trans k3)) ?_⟩
      rw [e3, put_comm A n3.symm, put_comm _ n2.symm, put_comm A n1.symm]
      exact H _ _ _ w3 (by omega) (by omega) (by omega) (by omega) (by omega) (by omega) b3 (k3.block b2) (k3.block (k2.block b1)) ((k1.trans k2).trans k3)
end
end Go.Proofs.YtpeclkhppgabfaaDoor
/- A disk.Bank: NewBank; the list grows by one disk. -/
namespace Go.Proofs.YtpeclkhppgabfaaDoor
open Go.RowKit
set_option linter.unusedVariables false
set_option linter.unusedSimpArgs false

theorem made_const {z : Array Value} {v : Value} (hp : 0 < z.size) (hz : ∀ i (h : i < z.size), z[i] = v) (n : Nat) : madeCells z n = (List.replicate n v).toArray := by
  apply Array.ext
  · simp [madeCells]
  · intro i h1 h2
    have hi : i % z.size < z.size := Nat.mod_lt _ hp
    simp [madeCells, getElem!_pos z (i % z.size) hi, hz]
theorem secs_zero (n : Nat) : secs (List.replicate n zeroB) = List.replicate (n * 64) (.int .u8 0) := by
  have h : zeroB = List.replicate 64 0 := by decide
  rw [secs, h, List.flatten_replicate_replicate, u8s, List.map_replicate]
theorem ints_zero (n : Nat) : ints (List.replicate n 0) = List.replicate n (.int .i64 0) := by simp [ints]
theorem secs_info : (Tryd.prog.info? 39).map (fun i => (i.zero, i.size, i.bytes)) = some (some (.agg (List.replicate 64 (.int .u8 0)).toArray), 64, 64) := by kernel_rfl
theorem int_info : (Tryd.prog.info? 3).map (fun i => (i.zero, i.size, i.bytes)) = some (some (.int .i64 0), 1, 8) := by kernel_rfl
theorem makes_secs {o : Oper} {d m n : Nat} (hg : o.guard = none) (hd : o.dst = some d) (ho : o.op = .makeSlice 65 (.tmp m) (.tmp m)) (hn : n ≤ 4096) : Makes Tryd.prog o d m n 39 (secs (List.replicate n zeroB)) := by
  refine ⟨hg, hd, ?_⟩
  have h1 := secs_info
  cases hi : Tryd.prog.info? 39 with
  | none => simp [hi] at h1
  | some i =>
    simp only [hi, Option.map_some, Option.some.injEq, Prod.mk.injEq] at h1
    refine ⟨_, i, _, ho, Tryd.underlying65, rfl, h1.1, by rw [h1.2.2]; omega, ?_⟩
    rw [secs_zero, h1.2.1]
    exact made_const (by decide) (fun i h => by have h' : i < (List.replicate 64 (Value.int IntKind.u8 0)).length := h; exact (List.getElem_replicate h')) _
theorem makes_ints {o : Oper} {d m n : Nat} (hg : o.guard = none) (hd : o.dst = some d) (ho : o.op = .makeSlice 28 (.tmp m) (.tmp m)) (hn : n ≤ 4096) : Makes Tryd.prog o d m n 3 (ints (List.replicate n 0)) := by
  refine ⟨hg, hd, ?_⟩
  have h1 := int_info
  cases hi : Tryd.prog.info? 3 with
  | none => simp [hi] at h1
  | some i =>
    simp only [hi, Option.map_some, Option.some.injEq, Prod.mk.injEq] at h1
    refine ⟨_, i, _, ho, Tryd.underlying28, rfl, h1.1, by rw [h1.2.2]; omega, ?_⟩
    rw [ints_zero, h1.2.1, Nat.mul_one]
    exact made_const (by decide) (fun i h => by have h : i < 1 := h; have : i = 0 := by omega
                                                subst this; rfl) _
theorem ty_ptrs : ElemT Tryd.prog 87 79 1 8 := by
  refine ⟨Tryd.underlying87, ?_, by decide⟩
  have h1 : (Tryd.prog.info? 79).map (fun i => (i.zero, i.size, i.bytes)) = some (some (.pointer none), 1, 8) := by kernel_rfl
  cases hi : Tryd.prog.info? 79 with
  | none => simp [hi] at h1
  | some i =>
    simp [hi] at h1
    exact ⟨i, _, rfl, h1.1, h1.2.1, h1.2.2, rfl⟩
/-- where the blocks of a bank lie that has one disk more -/
def Lay.more (Y : Lay) (n g m p q r c : Nat) (row : List Value) : Lay :=
  ⟨fun i => if i = 1 then g else if i < 2 + 4 * n then Y.A i else if i = 2 + 4 * n then m else if i = 3 + 4 * n then p else if i = 4 + 4 * n then q else r, c, row⟩
theorem Lay.more_at (Y : Lay) (n g m p q r c : Nat) (row : List Value) {i : Nat} (hi : i < 2 + 4 * (n + 1)) :
    (i = 1 ∧ (Y.more n g m p q r c row).A i = g) ∨ (i ≠ 1 ∧ i < 2 + 4 * n ∧ (Y.more n g m p q r c row).A i = Y.A i) ∨ (i = 2 + 4 * n ∧ (Y.more n g m p q r c row).A i = m) ∨ (i = 3 + 4 * n ∧ (Y.more n g m p q r c row).A i = p) ∨
    (i = 4 + 4 * n ∧ (Y.more n g m p q r c row).A i = q) ∨ (i = 5 + 4 * n ∧ (Y.more n g m p q r c row).A i = r) := by
  unfold Lay.more
  simp only
  by_cases h1 : i = 1
  · exact .inl ⟨h1, by rw [if_pos h1]⟩
  · rw [if_neg h1]
    by_cases h2 : i < 2 + 4 * n
    · exact .inr (.inl ⟨h1, h2, by rw [if_pos h2]⟩)
    · rw [if_neg h2]
      have : i = 2 + 4 * n ∨ i = 3 + 4 * n ∨ i = 4 + 4 * n ∨ i = 5 + 4 * n := by omega
      rcases this with h | h | h | h
      · exact .inr (.inr (.inl ⟨h, by rw [if_pos h]⟩))
      · exact .inr (.inr (.inr (.inl ⟨h, by rw [if_neg (by omega), if_pos h]⟩)))
      · exact .inr (.inr (.inr (.inr (.inl ⟨h, by rw [if_neg (by omega), if_neg (by omega), if_pos h]⟩))))
      · exact .inr (.inr (.inr (.inr (.inr ⟨h, by rw [if_neg (by omega), if_neg (by omega), if_neg (by omega)]⟩))))
theorem Lay.more_old (Y : Lay) {n g m p q r c : Nat} {row : List Value} {i : Nat} (h1 : i ≠ 1) (h2 : i < 2 + 4 * n) : (Y.more n g m p q r c row).A i = Y.A i := by
  unfold Lay.more; simp only; rw [if_neg h1, if_pos h2]
section
variable {w : World} {Y : Lay} {T : BankT}
set_option maxHeartbeats 1000000
set_option maxRecDepth 100000
/-- a pointer is appended to a bank's list -/
theorem list_append (h : BankD w Y T) (hn : T.l.length < 32) {b m : Nat} (hb : w.heap[b]? = some (.cells #[.pointer (some ⟨m, 0, none⟩)] 79 (0, 0))) (ty : TypeId) :
    ∃ g c row w', (Builtin.append_ #[87, 87] ty #[Y.list T.l.length, .slice (some ⟨b, 0, none⟩) 1 1]).run Tryd.prog w = .ok (.slice (some ⟨g, 0, none⟩) (T.l.length + 1) c) w' ∧
      w'.heap[g]? = some (.cells (row : List Value).toArray 79 (0, 0)) ∧ row.length = c ∧ T.l.length + 1 ≤ c ∧ c ≤ maxLen ∧ (∀ k, k < T.l.length → row[k]? = some (Y.ptr (2 + 4 * k))) ∧ row[T.l.length]? = some (.pointer (some ⟨m, 0, none⟩)) ∧
      ((T.l.length ≠ 0 ∧ g = Y.A 1) ∨ w.heap.size ≤ g) ∧ But (fun k => T.l.length ≠ 0 ∧ k = Y.A 1) w w' := by
  have hcb : ∀ j u, [Value.pointer (some ⟨m, 0, none⟩)][j]? = some u → w.cell? ((⟨b, 0, none⟩ : Addr).add j) = some u := by
    intro j u hu
    match j with
    | 0 => simp at hu; subst hu; simpa [Addr.add] using one_cell hb
    | j + 1 => simp at hu
  have key : ∀ {g c : Nat} {w' : World} {xs : List Value}, w'.ownsRow 0 79 1 (.slice (some ⟨g, 0, none⟩) (T.l.length + 1) c) (T.l.length + 1) xs → ∃ row : List Value, w'.heap[g]? = some (.cells row.toArray 79 (0, 0)) ∧ row.length = c ∧ T.l.length + 1 ≤ c ∧ c ≤ maxLen ∧ ∀ k, k < T.l.length + 1 → row[k]? = xs[k]? := by
    intro g c w' xs ho
    rcases ho.2 with ⟨h, _⟩ | ⟨g', c', cur, hv, _, hg, h1, h2, h3, h4⟩
    · cases h
    · cases hv
      rw [Nat.mul_one] at h3 h4
      refine ⟨cur.toList, by simpa using hg, by simpa using h3, h1, h2, fun k hk => ?_⟩
      rw [← h4, List.getElem?_take, if_pos hk]
  let xs : List Value := (List.range T.l.length).map fun k => Y.ptr (2 + 4 * k)
  have hxl : xs.length = T.l.length := by simp [xs]
  have hxk : ∀ k, k < T.l.length → xs[k]? = some (Y.ptr (2 + 4 * k)) := fun k hk => by simp [xs, hk]
  have hfin : ∀ k, k < T.l.length → (xs ++ [Value.pointer (some ⟨m, 0, none⟩)])[k]? = some (Y.ptr (2 + 4 * k)) := fun k hk => by rw [List.getElem?_append_left (by omega)]; exact hxk k hk
  have hlast : (xs ++ [Value.pointer (some ⟨m, 0, none⟩)])[T.l.length]? = some (.pointer (some ⟨m, 0, none⟩)) := by rw [List.getElem?_append_right (by omega), hxl]; simp
  have hsrc : Src w 1 (.slice (some ⟨b, 0, none⟩) 1 1) 1 [Value.pointer (some ⟨m, 0, none⟩)] := ⟨rfl, _, 1, rfl, Nat.le_refl _, by simp, fun b' hb' j u hu => by cases hb'; exact hcb j u hu⟩
  have fresh : ∀ v, App w w.heap.size 79 1 v T.l.length xs → v = Y.list T.l.length → (∀ k, v.ownBlock = some k → T.l.length ≠ 0 ∧ k = Y.A 1) → ∃ g c row w', (Builtin.append_ #[87, 87] ty #[Y.list T.l.length, .slice (some ⟨b, 0, none⟩) 1 1]).run Tryd.prog w = .ok (.slice (some ⟨g, 0, none⟩) (T.l.length + 1) c) w' ∧
      w'.heap[g]? = some (.cells (row : List Value).toArray 79 (0, 0)) ∧ row.length = c ∧ T.l.length + 1 ≤ c ∧ c ≤ maxLen ∧ (∀ k, k < T.l.length → row[k]? = some (Y.ptr (2 + 4 * k))) ∧ row[T.l.length]? = some (.pointer (some ⟨m, 0, none⟩)) ∧
      ((T.l.length ≠ 0 ∧ g = Y.A 1) ∨ w.heap.size ≤ g) ∧ But (fun k => T.l.length ≠ 0 ∧ k = Y.A 1) w w' := by
    intro v hv hv2 hob
    obtain ⟨v', w', hr, _, hg, hB, hown⟩ := run_append_app (P := Tryd.prog) w ty_ptrs ty w.heap.size v T.l.length xs hv _ 1 _ hsrc (by intro u hu; simp at hu; subst hu; rfl) (by simp only [maxLen]; omega) (by omega) (Nat.le_refl _)
    have ho := hown (.inl (by decide))
    rw [hv2] at hr
    rcases ho.2 with ⟨_, h0⟩ | ⟨g, c, cur, rfl, hge, _⟩
    · omega
    · obtain ⟨row, k1, k2, k3, k4, k5⟩ := key (ownsRow_base ho (Nat.zero_le _))
      exact ⟨g, c, row, w', hr, k1, k2, k3, k4, fun k hk => (k5 k (by omega)).trans (hfin k hk), (k5 _ (by omega)).trans hlast, .inr hge, ⟨hB.os, hB.tape, hB.output, hB.size, fun k hk _ => hB.block k hk⟩⟩
  by_cases h0 : T.l.length = 0
  · refine fresh (.slice none 0 0) ?_ (by simp [Lay.list, h0]) (by simp [Value.ownBlock])
    have : xs = [] := List.eq_nil_of_length_eq_zero (by omega)
    rw [this, h0]
    exact App.empty w _ _ _
  · obtain ⟨r1, r2, r3, r4, r5⟩ := h.row h0
    have hlist : Y.list T.l.length = .slice (some ⟨Y.A 1, 0, none⟩) T.l.length Y.c := by simp [Lay.list, h0]
    have htake : Y.row.take T.l.length = xs := by
      apply List.ext_getElem?
      intro k
      rw [List.getElem?_take]
      by_cases hk : k < T.l.length
      · rw [if_pos hk, r5 k hk, hxk k hk]
      · rw [if_neg hk, List.getElem?_eq_none (by omega)]
    by_cases hfull : T.l.length = Y.c
    · refine fresh (.slice (some ⟨Y.A 1, 0, none⟩) T.l.length T.l.length) (.inr ⟨by omega, _, rfl, by simp, fun b' hb' j u hu => ?_⟩) (by rw [hlist, ← hfull]) (fun k hk => by simp [Value.ownBlock] at hk; exact ⟨h0, hk.symm⟩)
      cases hb'
      have hj : j < T.l.length := by
        rcases Nat.lt_or_ge j xs.length with h | h
        · omega
        · rw [List.getElem?_eq_none h] at hu; cases hu
      have : ((⟨Y.A 1, 0, none⟩ : Addr).add j) = ⟨Y.A 1, j, none⟩ := by rw [Addr.add_mid, Nat.zero_add]
      rw [this, h.r hj, ← hu, hxk j hj]; rfl
    · have hown : w.ownsRow 0 79 1 (.slice (some ⟨Y.A 1, 0, none⟩) T.l.length Y.c) T.l.length xs := ⟨by omega, .inr ⟨Y.A 1, Y.c, Y.row.toArray, rfl, Nat.zero_le _, r1, r3, r4, by simpa using r2, by simpa using htake⟩⟩
      obtain ⟨ht, ⟨i, z, hi, hz, hsz, hby, hzs⟩, hpos⟩ := ty_ptrs
      obtain ⟨w', hr, ho, hg⟩ := run_append_fits (P := Tryd.prog) (w := w) 0 _ ty _ i 1 ht hi hsz (Y.A 1) T.l.length Y.c xs hown ⟨b, 0, none⟩ 1 1 [Value.pointer (some ⟨m, 0, none⟩)] rfl hcb (by intro u hu; simp at hu; subst hu; rfl) (by omega)
      obtain ⟨row, k1, k2, k3, k4, k5⟩ := key ho
      rw [hlist]
      exact ⟨Y.A 1, Y.c, row, w', hr, k1, k2, k3, k4, fun k hk => (k5 k (by omega)).trans (hfin k hk), (k5 _ (by omega)).trans hlast, .inl ⟨h0, rfl⟩, ⟨hg.os, hg.tape, hg.output, hg.size, fun k hk hne => hg.block k hk (fun e => hne ⟨h0, by injection e⟩)⟩⟩
theorem bank_New (w : World) : Calls Tryd.prog 31 #[] w fun e w' => ∃ Y : Lay, e = .returned (.pointer (some ⟨Y.A 0, 0, none⟩)) ∧ BankD w' Y BankT.zero ∧ Y.A 0 = w.heap.size ∧ Kept w w' := by
  go_enter Tryd.func31, Tryd.ntmps31
  go_wp2
  go_ret
  refine ⟨⟨fun _ => w.heap.size, 0, []⟩, rfl, ⟨heap_alloc_new w _, fun h => absurd rfl h, fun k hk => absurd hk (Nat.not_lt_zero _), fun k hk => absurd hk (Nat.not_lt_zero _), fun k hk => absurd hk (Nat.not_lt_zero _), fun k hk => absurd hk (Nat.not_lt_zero _), fun i j hi hj h _ => ?_⟩, rfl, (Kept.refl w).alloc _⟩
  have := h rfl
  have hi : i < 2 := hi
  have hj : j < 2 := hj
  omega
end
end Go.Proofs.YtpeclkhppgabfaaDoor
/- A disk.Bank: it has one disk more. -/
namespace Go.Proofs.YtpeclkhppgabfaaDoor
open Go.RowKit
set_option linter.unusedVariables false
set_option linter.unusedSimpArgs false

theorem BankT.add_len (T : BankT) (n : Nat) : (T.add n).l.length = T.l.length + 1 := by simp [BankT.add]
theorem BankT.add_old (T : BankT) (n : Nat) {k : Nat} (hk : k < T.l.length) : (T.add n).d k = T.d k := by
  unfold BankT.add BankT.d
  rw [List.getD_eq_getElem?_getD, List.getD_eq_getElem?_getD, List.getElem?_append_left hk]
theorem BankT.add_new (T : BankT) (n : Nat) : (T.add n).d T.l.length = Med.fresh n := by
  unfold BankT.add BankT.d
  rw [List.getD_eq_getElem?_getD, List.getElem?_append_right (Nat.le_refl _)]; simp
theorem Lay.more_inj (Y : Lay) {n g m p q r S : Nat} (c : Nat) (row : List Value) (hoo : ∀ i j, i ≠ 1 → j ≠ 1 → i < 2 + 4 * n → j < 2 + 4 * n → Y.A i = Y.A j → i = j) (hold : ∀ i, i ≠ 1 → i < 2 + 4 * n → Y.A i < S) (hgo : ∀ i, i ≠ 1 → i < 2 + 4 * n → Y.A i ≠ g)
    (hm : S ≤ m) (hp : S ≤ p) (hq : S ≤ q) (hr : S ≤ r) (g1 : m ≠ g) (g2 : p ≠ g) (g3 : q ≠ g) (g4 : r ≠ g) (hmp : m ≠ p) (hmq : m ≠ q) (hmr : m ≠ r) (hpq : p ≠ q) (hpr : p ≠ r) (hqr : q ≠ r) {i j : Nat} (hi : i < 2 + 4 * (n + 1)) (hj : j < 2 + 4 * (n + 1))
    (e : (Y.more n g m p q r c row).A i = (Y.more n g m p q r c row).A j) : i = j := by
  have key : ∀ i, i < 2 + 4 * (n + 1) → ∃ t, (t = 0 ∧ i = 1 ∧ (Y.more n g m p q r c row).A i = g) ∨ (t = 1 ∧ i ≠ 1 ∧ i < 2 + 4 * n ∧ (Y.more n g m p q r c row).A i = Y.A i ∧ Y.A i < S ∧ Y.A i ≠ g) ∨ (t = 2 ∧ i = 2 + 4 * n ∧ (Y.more n g m p q r c row).A i = m) ∨ (t = 3 ∧ i = 3 + 4 * n ∧ (Y.more n g m p q r c row).A i = p) ∨ (t = 4 ∧ i = 4 + 4 * n ∧ (Y.more n g m p q r c row).A i = q) ∨ (t = 5 ∧ i = 5 + 4 * n ∧ (Y.more n g m p q r c row).A i = r) := by
    intro i hi
    rcases Y.more_at n g m p q r c row hi with ⟨x1, x2⟩ | ⟨x0, x1, x2⟩ | ⟨x1, x2⟩ | ⟨x1, x2⟩ | ⟨x1, x2⟩ | ⟨x1, x2⟩
    · exact ⟨0, .inl ⟨rfl, x1, x2⟩⟩
    · exact ⟨1, .inr (.inl ⟨rfl, x0, x1, x2, hold i x0 x1, hgo i x0 x1⟩)⟩
    · exact ⟨2, .inr (.inr (.inl ⟨rfl, x1, x2⟩))⟩
    · exact ⟨3, .inr (.inr (.inr (.inl ⟨rfl, x1, x2⟩)))⟩
    · exact ⟨4, .inr (.inr (.inr (.inr (.inl ⟨rfl, x1, x2⟩))))⟩
    · exact ⟨5, .inr (.inr (.inr (.inr (.inr ⟨rfl, x1, x2⟩))))⟩
  obtain ⟨t, ht⟩ := key i hi
  obtain ⟨u, hu⟩ := key j hj
  clear key hold hgo
  generalize (Y.more n g m p q r c row).A i = a at *
  generalize (Y.more n g m p q r c row).A j = b at *
  subst e
  rcases ht with ⟨_, x1, rfl⟩ | ⟨_, x0, x1, x2, x3, x4⟩ | ⟨_, x1, rfl⟩ | ⟨_, x1, rfl⟩ | ⟨_, x1, rfl⟩ | ⟨_, x1, rfl⟩
  · rcases hu with ⟨_, y1, y2⟩ | ⟨_, y0, y1, y2, y3, y4⟩ | ⟨_, y1, y2⟩ | ⟨_, y1, y2⟩ | ⟨_, y1, y2⟩ | ⟨_, y1, y2⟩
    · rw [x1, y1]
    · exact absurd y2.symm y4
    · exact absurd y2.symm g1
    · exact absurd y2.symm g2
    · exact absurd y2.symm g3
    · exact absurd y2.symm g4
  · rcases hu with ⟨_, y1, y2⟩ | ⟨_, y0, y1, y2, y3, y4⟩ | ⟨_, y1, y2⟩ | ⟨_, y1, y2⟩ | ⟨_, y1, y2⟩ | ⟨_, y1, y2⟩
    · exact absurd (x2.symm.trans y2) x4
    · exact hoo i j x0 y0 x1 y1 (x2.symm.trans y2)
    · omega
    · omega
    · omega
    · omega
  all_goals rcases hu with ⟨_, y1, y2⟩ | ⟨_, y0, y1, y2, y3, y4⟩ | ⟨_, y1, y2⟩ | ⟨_, y1, y2⟩ | ⟨_, y1, y2⟩ | ⟨_, y1, y2⟩ <;> first | (rw [x1, y1]; done) | contradiction | (exfalso; clear hoo; omega)
section
variable {w w5 w6 w7 : World} {Y : Lay} {T : BankT} {n m p q r g c : Nat} {row : List Value}
theorem BankD.more (h : BankD w Y T) (HK : Kept w w5)
    (hm : w.heap.size ≤ m) (hp : w.heap.size ≤ p) (hq : w.heap.size ≤ q) (hr : w.heap.size ≤ r) (hpq : p ≠ q) (hpr : p ≠ r) (hqr : q ≠ r) (hmp : m ≠ p) (hmq : m ≠ q) (hmr : m ≠ r)
    (BM : w5.heap[m]? = some (.cells #[.slice (some ⟨p, 0, none⟩) n n, .slice (some ⟨q, 0, none⟩) n n, .slice (some ⟨r, 0, none⟩) n n, .bool false, .int .i64 0] 86 (0, 0)))
    (BP : w5.heap[p]? = some (.cells (secs (List.replicate n zeroB)).toArray 39 (0, 0)))
    (BQ : w5.heap[q]? = some (.cells (secs (List.replicate n zeroB)).toArray 39 (0, 0)))
    (BR : w5.heap[r]? = some (.cells (ints (List.replicate n 0)).toArray 3 (0, 0)))
    (R1 : w6.heap[g]? = some (.cells row.toArray 79 (0, 0))) (r2 : row.length = c) (r3 : T.l.length + 1 ≤ c) (r4 : c ≤ maxLen)
    (R5 : ∀ k, k < T.l.length → row[k]? = some (Y.ptr (2 + 4 * k))) (R6 : row[T.l.length]? = some (.pointer (some ⟨m, 0, none⟩)))
    (R7 : T.l.length ≠ 0 ∧ g = Y.A 1 ∨ w5.heap.size ≤ g) (R8 : But (fun k => T.l.length ≠ 0 ∧ k = Y.A 1) w5 w6)
    (HW : Wrote w6 w7 (Y.A 0) ((bankVals Y T).set 0 (.slice (some ⟨g, 0, none⟩) (T.l.length + 1) c)) 89) :
    ∃ Y' : Lay, BankD w7 Y' (T.add n) ∧ Y'.A 0 = Y.A 0 ∧ (∀ b, Y'.In (T.l.length + 1) b → Y.In T.l.length b ∨ w.heap.size ≤ b) ∧ But (Y.In T.l.length) w w7 := by
  have l0 : Y.A 0 < w.heap.size := h.lt (Y.in0 _)
  have h01 : T.l.length ≠ 0 → Y.A 0 ≠ Y.A 1 := fun h0 => h.ne (by omega) (by omega) h0 (by decide)
  have l1 : T.l.length ≠ 0 → Y.A 1 < w.heap.size := fun h0 => h.lt (Y.in1 h0)
  have sm : m < w5.heap.size := (Array.getElem?_eq_some_iff.1 BM).1
  have sp : p < w5.heap.size := (Array.getElem?_eq_some_iff.1 BP).1
  have sq : q < w5.heap.size := (Array.getElem?_eq_some_iff.1 BQ).1
  have sr : r < w5.heap.size := (Array.getElem?_eq_some_iff.1 BR).1
  have fwd : ∀ {b : Nat} {o : Obj}, w5.heap[b]? = some o → b ≠ Y.A 0 → ¬ (T.l.length ≠ 0 ∧ b = Y.A 1) → w7.heap[b]? = some o := fun hb h0 h1 => (HW.oth _ h0).trans (R8.blk h1 hb)
  have hg0 : g ≠ Y.A 0 := by
    rcases R7 with ⟨h0, rfl⟩ | h'
    · exact (h01 h0).symm
    · have := HK.size; omega
  have old : ∀ i, i ≠ 0 → i ≠ 1 → i < 2 + 4 * T.l.length → ∀ {o : Obj}, w.heap[Y.A i]? = some o → w7.heap[Y.A i]? = some o := fun i h0 h1 hi o ho => by
    have hn0 : T.l.length ≠ 0 := by omega
    exact fwd (HK.block ho) (h.ne hi (by omega) hn0 h0) (fun ⟨_, e⟩ => h.ne hi (by omega) hn0 h1 e)
  have new : ∀ {b : Nat} {o : Obj}, w.heap.size ≤ b → w5.heap[b]? = some o → w7.heap[b]? = some o := fun hb ho => fwd ho (by omega) (fun ⟨h0, e⟩ => by have := l1 h0; omega)
  have a0 : (Y.more T.l.length g m p q r c row).A 0 = Y.A 0 := Y.more_old (by decide) (by omega)
  have a1 : (Y.more T.l.length g m p q r c row).A 1 = g := rfl
  have a2 : (Y.more T.l.length g m p q r c row).A (2 + 4 * T.l.length) = m := by unfold Lay.more; simp only; rw [if_neg (by omega), if_neg (by omega), if_pos trivial]
  have a3 : (Y.more T.l.length g m p q r c row).A (3 + 4 * T.l.length) = p := by unfold Lay.more; simp only; rw [if_neg (by omega), if_neg (by omega), if_neg (by omega), if_pos trivial]
  have a4 : (Y.more T.l.length g m p q r c row).A (4 + 4 * T.l.length) = q := by unfold Lay.more; simp only; rw [if_neg (by omega), if_neg (by omega), if_neg (by omega), if_neg (by omega), if_pos trivial]
  have a5 : (Y.more T.l.length g m p q r c row).A (5 + 4 * T.l.length) = r := by unfold Lay.more; simp only; rw [if_neg (by omega), if_neg (by omega), if_neg (by omega), if_neg (by omega), if_neg (by omega)]
  have ao : ∀ j k, 2 ≤ j → j ≤ 5 → k < T.l.length → (Y.more T.l.length g m p q r c row).A (j + 4 * k) = Y.A (j + 4 * k) := fun j k h1 h2 hk => Y.more_old (by omega) (by omega)
  have hbut : But (Y.In T.l.length) w w7 := by
    have := ((But.kept (S := Y.In T.l.length) HK).trans (R8.mono fun i ⟨h0, e⟩ => e ▸ Y.in1 h0)).trans (But.wrote (S := Y.In T.l.length) HW (Y.in0 _))
    exact this
  refine ⟨Y.more T.l.length g m p q r c row, ⟨?_, fun _ => ?_, fun k hk => ?_, fun k hk => ?_, fun k hk => ?_, fun k hk => ?_, ?_⟩, a0, ?_, hbut⟩
  · rw [a0, HW.blk]
    simp [bankVals, Lay.list, BankT.add, a1]
    rfl
  · rw [BankT.add_len, a1]
    refine ⟨(HW.oth _ hg0).trans R1, r2, r3, r4, fun k hk => ?_⟩
    show row[k]? = _
    by_cases e : k = T.l.length
    · subst e; rw [R6, Lay.ptr, a2]
    · rw [R5 k (by omega), Lay.ptr, Lay.ptr, ao 2 k (by decide) (by decide) (by omega)]
  · rw [BankT.add_len] at hk
    by_cases e : k = T.l.length
    · subst e; rw [a2, new hm BM, BankT.add_new, medVals, Lay.sl, Lay.sl, Lay.sl, a3, a4, a5]
      simp [Med.fresh]
    · rw [ao 2 k (by decide) (by decide) (by omega), BankT.add_old T n (by omega), medVals, Lay.sl, Lay.sl, Lay.sl, ao 3 k (by decide) (by decide) (by omega), ao 4 k (by decide) (by decide) (by omega), ao 5 k (by decide) (by decide) (by omega)]
      exact old _ (by omega) (by omega) (by omega) (h.med k (by omega))
  · rw [BankT.add_len] at hk
    by_cases e : k = T.l.length
    · subst e; rw [a3, new hp BP, BankT.add_new]; rfl
    · rw [ao 3 k (by decide) (by decide) (by omega), BankT.add_old T n (by omega)]
      exact old _ (by omega) (by omega) (by omega) (h.flu k (by omega))
  · rw [BankT.add_len] at hk
    by_cases e : k = T.l.length
    · subst e; rw [a4, new hq BQ, BankT.add_new]; rfl
    · rw [ao 4 k (by decide) (by decide) (by omega), BankT.add_old T n (by omega)]
      exact old _ (by omega) (by omega) (by omega) (h.new k (by omega))
  · rw [BankT.add_len] at hk
    by_cases e : k = T.l.length
    · subst e; rw [a5, new hr BR, BankT.add_new]; rfl
    · rw [ao 5 k (by decide) (by decide) (by omega), BankT.add_old T n (by omega)]
      exact old _ (by omega) (by omega) (by omega) (h.sin k (by omega))
  · intro i j hi hj _ e
    rw [BankT.add_len] at hi hj
    have hold : ∀ i, i ≠ 1 → i < 2 + 4 * T.l.length → Y.A i < w.heap.size := fun i h1 hi => h.lt ⟨i, hi, fun _ => h1, rfl⟩
    have hoo : ∀ i j, i ≠ 1 → j ≠ 1 → i < 2 + 4 * T.l.length → j < 2 + 4 * T.l.length → Y.A i = Y.A j → i = j := fun i j h1 h2 hi hj e => h.inj i j hi hj (fun _ => ⟨h1, h2⟩) e
    have hgo : ∀ i, i ≠ 1 → i < 2 + 4 * T.l.length → Y.A i ≠ g := fun i h1 hi e => by
      rcases R7 with ⟨h0, h'⟩ | h'
      · exact h1 (h.inj i 1 hi (by omega) (fun e => absurd e h0) (e.trans h'))
      · have := hold i h1 hi; have := HK.size; omega
    have hgn : ∀ b, w.heap.size ≤ b → b < w5.heap.size → b ≠ g := fun b hb hb5 e => by
      rcases R7 with ⟨h0, h'⟩ | h'
      · have := l1 h0; omega
      · omega
    have g1 := hgn m hm sm
    have g2 := hgn p hp sp
    have g3 := hgn q hq sq
    have g4 := hgn r hr sr
    exact Y.more_inj c row hoo hold hgo hm hp hq hr g1 g2 g3 g4 hmp hmq hmr hpq hpr hqr hi hj e
  · rintro b ⟨i, hi, _, rfl⟩
    rcases Y.more_at T.l.length g m p q r c row hi with ⟨x1, x2⟩ | ⟨x0, x1, x2⟩ | ⟨x1, x2⟩ | ⟨x1, x2⟩ | ⟨x1, x2⟩ | ⟨x1, x2⟩ <;> rw [x2]
    · rcases R7 with ⟨h0, h'⟩ | h'
      · exact .inl (h' ▸ Y.in1 h0)
      · have := HK.size; exact .inr (by omega)
    · exact .inl ⟨i, x1, fun _ => x0, rfl⟩
    · exact .inr hm
    · exact .inr hp
    · exact .inr hq
    · exact .inr hr
end
end Go.Proofs.YtpeclkhppgabfaaDoor
