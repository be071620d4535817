/- A disk.Bank: Crash sorts what it has collected; Crash, counts and Write whole. -/
import Derived.Test.YtglplhmclfekfaaGreatDkp
import Derived.Test.YtglplhmclfekfaaGreatDkn
namespace Go.Proofs.YtglplhmclfekfaaGreat
open Go.RowKit Go.Shelf Go.Lib Go.Sort
set_option linter.unusedVariables false
set_option linter.unusedSimpArgs false

theorem sortW_block {α : Type} [Inhabited α] (enc : α → List Value) (k : Nat) (w : World) (blk off m : Nat) (d : Array α) (os : Array Obj) {b : Nat} (hb : b < w.heap.size) (hn : b ≠ blk) : (sortWorldK enc k w blk off m d os).heap[b]? = w.heap[b]? := by
  have h1 : b < (w.heap.modify blk (onCells (putCells id off (flatK enc k d)))).size := by simpa using hb
  show ((w.heap.modify blk (onCells (putCells id off (flatK enc k d)))) ++ os)[b]? = _
  rw [Array.getElem?_append_left h1, Array.getElem?_modify, if_neg (Ne.symm hn)]
theorem sortW_row {α : Type} [Inhabited α] (enc : α → List Value) (k : Nat) (w : World) (blk off m : Nat) (d : Array α) (os : Array Obj) {cur : Array Value} {t : TypeId} {fr : Nat × Nat} (hb : w.heap[blk]? = some (.cells cur t fr)) : (sortWorldK enc k w blk off m d os).heap[blk]? = some (.cells (putCells id off (flatK enc k d) cur) t fr) := by
  have hlt : blk < w.heap.size := (Array.getElem?_eq_some_iff.1 hb).1
  have h1 : blk < (w.heap.modify blk (onCells (putCells id off (flatK enc k d)))).size := by simpa using hlt
  show ((w.heap.modify blk (onCells (putCells id off (flatK enc k d)))) ++ os)[blk]? = _
  rw [Array.getElem?_append_left h1, Array.getElem?_modify, if_pos rfl, hb]
  rfl
theorem sortW_size {α : Type} [Inhabited α] (enc : α → List Value) (k : Nat) (w : World) (blk off m : Nat) (d : Array α) (os : Array Obj) : w.heap.size ≤ (sortWorldK enc k w blk off m d os).heap.size := by
  show _ ≤ ((w.heap.modify blk (onCells (putCells id off (flatK enc k d)))) ++ os).size
  rw [Array.size_append, Array.size_modify]; omega
theorem put_take (F cur : Array Value) (h : F.size ≤ cur.size) : (putCells id 0 F cur).size = cur.size ∧ (putCells id 0 F cur).toList.take F.size = F.toList := by
  refine ⟨by simp [putCells], ?_⟩
  apply List.ext_getElem?
  intro i
  rw [List.getElem?_take]
  by_cases hi : i < F.size
  · have hc : i < cur.size := by omega
    rw [if_pos hi, Array.getElem?_toList, Array.getElem?_toList]
    simp [putCells, hi, hc, getElem!_pos]
  · rw [if_neg hi, Array.getElem?_toList, Array.getElem?_eq_none (by omega)]
section
variable {w : World} {Y : Lay} {T : BankT}
/-- a place that is one -/
abbrev Plc (T : BankT) : Type := { p : Nat × Nat // T.Has p }
def encP (Y : Lay) (T : BankT) (x : Plc T) : List Value := [.pointer (some ⟨Y.A (2 + 4 * x.1.1), 0, none⟩), .int .i64 (x.1.2 : Int)]
theorem flat_at [Inhabited (Plc T)] (Y : Lay) (d : Array (Plc T)) (i c : Nat) (hi : i < d.size) (hc : c < 2) : (flatK (encP Y T) 2 d)[i * 2 + c]? = (encP Y T d[i])[c]? := by
  have ht : i * 2 + c < d.size * 2 := by omega
  have hs : i * 2 + c < (flatK (encP Y T) 2 d).size := by rw [size_flatK]; exact ht
  have h1 := get_flatK (encP Y T) 2 d (i * 2 + c) ht
  rw [show (i * 2 + c) / 2 = i by omega, show (i * 2 + c) % 2 = c by omega, getElem!_pos (flatK (encP Y T) 2 d) (i * 2 + c) hs, getElem!_pos d i hi] at h1
  rw [Array.getElem?_eq_getElem hs, h1]
  have hc2 : c < (encP Y T d[i]).length := hc
  rw [getElem!_pos (encP Y T d[i]) c hc2, List.getElem?_eq_getElem hc2]
theorem flat_places [Inhabited (Plc T)] (Y : Lay) (d : Array (Plc T)) : flatK (encP Y T) 2 d = (places Y (d.toList.map (·.1))).toArray := by
  apply Array.ext_getElem?
  intro t
  by_cases ht : t < d.size * 2
  · obtain ⟨i, hi⟩ : ∃ i, t = i * 2 ∨ t = i * 2 + 1 := ⟨t / 2, by omega⟩
    have hi0 : i < d.size := by omega
    have hi' : i < (d.toList.map (·.1)).length := by simpa using hi0
    obtain ⟨h1, h2⟩ := places_get Y (d.toList.map (·.1)) i hi'
    have e3 : (d.toList.map (·.1))[i] = d[i].1 := by simp
    rw [e3] at h1 h2
    have h4 : ∀ (M : List Value) (u : Nat), M.toArray[u]? = M[u]? := fun M u => by simp
    rcases hi with rfl | rfl
    · exact (flat_at Y d i 0 hi0 (by decide)).trans (h1.symm.trans (h4 _ _).symm)
    · exact (flat_at Y d i 1 hi0 (by decide)).trans (h2.symm.trans (h4 _ _).symm)
  · rw [Array.getElem?_eq_none (by rw [size_flatK]; omega), Array.getElem?_eq_none (by rw [List.size_toArray, places_length]; simp; omega)]
theorem cmp_lt (T : BankT) (x y : Plc T) : ltOf (fun x y : Plc T => Lib.compareInt (T.since x.1) (T.since y.1)) x y = decide (T.since x.1 < T.since y.1) := by
  unfold ltOf Lib.compareInt
  by_cases h1 : T.since x.1 < T.since y.1
  · simp [h1]
  · by_cases h2 : T.since y.1 < T.since x.1 <;> simp [h1, h2]
theorem cmp_swo (T : BankT) : SWO (ltOf fun x y : Plc T => Lib.compareInt (T.since x.1) (T.since y.1)) where
  irrefl x := by rw [cmp_lt]; simp
  trans x y z h1 h2 := by rw [cmp_lt] at *; simp at *; omega
  ntrans x y z h1 h2 := by rw [cmp_lt] at *; simp at *; omega
set_option maxHeartbeats 1000000
set_option maxRecDepth 100000
theorem sorts_all (inv : T.Inv) (base : Nat) : SortsAll Y T base := by
  intro wc v hB hin hown
  have hlen : (T.looseTo T.l.length).length = T.order.length := (sortBy_perm _ _).length_eq.symm
  have hord : T.order = sortBy T.since (T.looseTo T.l.length) := rfl
  have hmem : ∀ p ∈ T.looseTo T.l.length, T.Has p := fun p hp => ⟨((T.mem_looseTo _ p).1 hp).1, ((T.mem_looseTo _ p).1 hp).2.1⟩
  by_cases h0 : T.looseTo T.l.length = []
  · have ho : T.order = [] := by rw [hord, h0]; rfl
    obtain ⟨ao, cap, rfl, _⟩ := own_formP hown
    rw [h0] at hown ⊢
    rw [ho]
    have hcon := AnyF.slices_SortFunc_none (P := Tryz.prog) (ρ := Tryz.sortL_ren) { Tryz.sortL with } ao cap (.func (.func 79) #[] #[]) wc
    refine Calls.mono hcon ?_
    rintro e w' ⟨rfl, rfl⟩
    exact ⟨rfl, hown, grownBy_refl _ _⟩
  · generalize hL : T.looseTo T.l.length = L at *
    have hl := hown.1
    rw [places_length] at hl
    rcases hown.2 with ⟨rfl, hn0⟩ | ⟨g, cap, cur, rfl, hb, hg, hn, hcm, hcs, htk⟩
    · exact absurd (List.eq_nil_of_length_eq_zero hn0) h0
    · obtain ⟨p0, hp0⟩ : ∃ p, p ∈ L := List.exists_mem_of_ne_nil L h0
      haveI : Inhabited (Plc T) := ⟨⟨p0, hmem p0 hp0⟩⟩
      let d : Array (Plc T) := (L.attach.map fun x => (⟨x.1, hmem x.1 x.2⟩ : Plc T)).toArray
      have hd1 : d.toList.map (·.1) = L := by
        show (L.attach.map fun x => (⟨x.1, hmem x.1 x.2⟩ : Plc T)).map (·.1) = L
        rw [List.map_map]
        exact List.attach_map_subtype_val L
      have hds : d.size = L.length := by rw [← hd1]; simp
      have hfl := flat_places Y d
      rw [hd1] at hfl
      have hglt : g < wc.heap.size := (Array.getElem?_eq_some_iff.1 hg).1
      have hH : HoldsK (encP Y T) 2 wc g 0 d := by
        intro j hj
        rw [hfl] at hj ⊢
        have hj' : j < (places Y L).length := by simpa using hj
        have hjc : j < cur.size := by rw [places_length] at hj'; rw [hcs]; have := Nat.mul_le_mul_right 2 hn; omega
        refine ⟨?_, by simp [World.frozen?, hg]⟩
        rw [Nat.zero_add, cell_of_row _ _ _ _ _ _ hg]
        have h1 : (places Y L)[j]? = cur[j]? := by
          rw [← Array.getElem?_toList (xs := cur), ← htk, List.getElem?_take, if_pos (by rw [places_length] at hj'; exact hj')]
        rw [← h1, List.getElem?_eq_getElem hj', getElem!_pos (places Y L).toArray j hj]
        simp
      have hcmp : CmpLays Tryz.prog 79 #[] (encP Y T) 2 (fun x y : Plc T => Lib.compareInt (T.since x.1) (T.since y.1)) g 0 d.size wc := by
        intro m os dk hs x y
        have hB' : BankD (sortWorldK (encP Y T) 2 wc g 0 m dk os) Y T := hB.same fun b hb' => sortW_block _ _ _ _ _ _ _ _ (hB.lt hb') (fun e => by have := hin b hb'; omega)
        exact closure_cmp hB' x.2 y.2 (inv.ok.d x.2.1).len (inv.ok.d y.2.1).len
      have eg : ∀ args w, (callFunc 79 args).run Tryz.prog w = .ok (.enter 79 args) w := enters_of Tryz.func79 (by kernel_rfl) rfl
      have hol : L.length ≤ 131072 := by
        have := BankT.looseTo_le inv.ok (Nat.le_refl _)
        have h2 := inv.ok.1
        rw [hL] at this; omega
      have hcon := AnyQ.slices_SortFunc Tryz.sortL 2 Tryz.isAgg110 Tryz.sizeOf110 (encP Y T) (fun _ => rfl) (fun x v hv => by simp [encP] at hv; rcases hv with rfl | rfl <;> rfl) (fun x y : Plc T => Lib.compareInt (T.since x.1) (T.since y.1)) (cmp_swo T) 79 #[] g 0 cap d wc eg hcmp hH hglt (by rw [hds]; omega)
      rw [hds] at hcon
      refine Calls.mono hcon ?_
      rintro e w' ⟨rfl, d', n, os, hp, hs, rfl⟩
      have hsz : d'.size = L.length := by rw [hp.1, hds]
      have hperm : (d'.toList.map (·.1)).Perm L := by
        have h3 := hp.2.2
        rw [← hsz, Array.extract_size, hsz, ← hds, Array.extract_size] at h3
        have := h3.map (·.1)
        rwa [hd1] at this
      have hsort : (d'.toList.map (·.1)).Pairwise (fun a b => T.since a ≤ T.since b) := by
        rw [List.pairwise_map, List.pairwise_iff_getElem]
        intro i j hi hj hij
        have hi' : i < d'.size := by simpa using hi
        have hj' : j < d'.size := by simpa using hj
        have := hs i j (Nat.zero_le _) hij (by omega)
        rw [cmp_lt] at this
        rw [getElem!_pos d' i hi', getElem!_pos d' j hj'] at this
        simpa using this
      have heq : d'.toList.map (·.1) = T.order := BankT.order_eq inv (by rw [hL]; exact hperm) hsort
      have hfl' := flat_places Y d'
      rw [heq] at hfl'
      have hfs : (flatK (encP Y T) 2 d').size = L.length * 2 := by rw [size_flatK, hsz]
      obtain ⟨q1, q2⟩ := put_take (flatK (encP Y T) 2 d') cur (by rw [hfs, hcs]; exact Nat.mul_le_mul_right 2 hn)
      refine ⟨rfl, ⟨by rw [places_length, hlen], .inr ⟨g, cap, putCells id 0 (flatK (encP Y T) 2 d') cur, rfl, hb, sortW_row _ _ _ _ _ _ _ _ hg, hn, hcm, by rw [q1, hcs], ?_⟩⟩, ⟨rfl, rfl, rfl, sortW_size _ _ _ _ _ _ _ _, fun k hk hne => sortW_block _ _ _ _ _ _ _ _ hk (fun e => hne (by rw [e]; rfl))⟩⟩
      rw [← hfs, q2, hfl']
theorem bank_Crash (h : BankD w Y T) (inv : T.Inv) (hN : T.l.length ≠ 0) (mask : Int) (hm0 : 0 ≤ mask) (hm1 : mask < 18446744073709551616) :
    Calls Tryz.prog 41 #[.pointer (some ⟨Y.A 0, 0, none⟩), .int .u64 mask] w fun e w' => e = .returned (.tuple #[]) ∧ BankD w' Y (T.crash mask) ∧ But (Y.In T.l.length) w w' :=
  crash_of h inv hN mask hm0 hm1 (sorts_all inv _)
theorem BankT.Inv.tickTo {T : BankT} (h : T.Inv) {j : Nat} (hj : j ≤ T.l.length) : (T.tickTo j).Inv := by
  obtain ⟨c, o, w, a, m, d⟩ := BankT.tickTo_calmer h.ok hj
  exact c.inv h o (by rw [w]; have := h.wr; omega) (by rw [a]; exact h.ar) (by rw [m]; exact h.msk)
theorem BankT.Inv.arm1 {T : BankT} (h : T.Inv) (h0 : 0 < T.armed) : T.arm1.Inv := ⟨h.ok, h.clk, h.wr, by have := h.ar; simp only [BankT.arm1]; omega, h.msk, h.top, h.uniq⟩
theorem bank_counts (h : BankD w Y T) (inv : T.Inv) (hN : T.l.length ≠ 0) (hw1 : T.writes < 1000000000) :
    Calls Tryz.prog 75 #[.pointer (some ⟨Y.A 0, 0, none⟩)] w fun e w' => e = .returned (.bool T.tick.2) ∧ BankD w' Y T.tick.1 ∧ But (Y.In T.l.length) w w' := by
  refine counts_of h inv hN hw1 fun hd h0 w1 h1 => ?_
  obtain ⟨c, o, w, a, m, d⟩ := BankT.tickTo_calmer inv.ok (Nat.le_refl T.l.length)
  have hi := (inv.tickTo (Nat.le_refl T.l.length)).arm1 (by rw [a]; exact h0)
  exact bank_Crash h1 hi (by show (T.tickTo T.l.length).l.length ≠ 0; rw [c.len]; exact hN) T.mask inv.msk.1 inv.msk.2
theorem BankT.crash_clock {T : BankT} (h : T.Ok) (mask : Int) : (T.crash mask).clock = T.clock ∧ (T.crash mask).writes = T.writes := by
  unfold BankT.crash
  split
  · exact ⟨rfl, rfl⟩
  · obtain ⟨c, w, _⟩ := BankT.settleL_calmer mask T.order 0 h (fun p hp => ((T.mem_order p).1 hp).1)
    exact ⟨c.clk, w⟩
theorem BankT.tick_clock {T : BankT} (h : T.Ok) : T.tick.1.clock = T.clock ∧ T.tick.1.writes ≤ T.writes + 1 := by
  obtain ⟨c, o, w, a, m, d⟩ := BankT.tickTo_calmer h (Nat.le_refl T.l.length)
  unfold BankT.tick
  split
  · exact ⟨rfl, by show T.writes ≤ _; omega⟩
  · split
    · split
      · obtain ⟨h1, h2⟩ := BankT.crash_clock (T := (T.tickTo T.l.length).arm1) o (T.tickTo T.l.length).mask
        exact ⟨h1.trans c.clk, by rw [h2]; show (T.tickTo T.l.length).writes ≤ _; omega⟩
      · exact ⟨c.clk, by show (T.tickTo T.l.length).writes ≤ _; omega⟩
    · exact ⟨c.clk, by show (T.tickTo T.l.length).writes ≤ _; omega⟩
theorem bank_Write (h : BankD w Y T) (inv : T.Inv) (hN : T.l.length ≠ 0) (hw1 : T.writes < 1000000000) (hc1 : T.clock < 1000000000) (d a : Int) {s : List Int} (hs : s.length = 64) :
    Calls Tryz.prog 34 #[.pointer (some ⟨Y.A 0, 0, none⟩), .agg #[.int .i64 d, .int .i64 a], .agg (u8s s).toArray] w fun e w' =>
      e = .returned (.int .i64 (T.write d a s).2) ∧ BankD w' Y (T.write d a s).1 ∧ But (Y.In T.l.length) w w' :=
  write_of T.tick h (BankT.tick_len inv.ok) inv.tick.ok hN inv.tick.clk (by rw [(BankT.tick_clock inv.ok).1]; exact hc1) d a hs fun w1 h1 => bank_counts h1 inv hN hw1
theorem BankT.inE_has {T : BankT} {d a : Int} (h : T.inE d a = 0) : ∃ k b : Nat, d = (k : Int) ∧ a = (b : Int) ∧ k < T.l.length ∧ b < (T.d k).sin.length ∧ T.readyE d = 0 := by
  unfold BankT.inE at h
  by_cases hr : T.readyE d = 0
  · rw [hr, if_neg (by decide)] at h
    obtain ⟨k, rfl, hk⟩ := BankT.readyE_in hr
    rw [Int.toNat_natCast] at h
    split at h
    · omega
    · exact ⟨k, a.toNat, rfl, by omega, hk, by omega, hr⟩
  · rw [if_pos hr] at h; exact absurd h hr
theorem BankT.Inv.write {T : BankT} (h : T.Inv) (d a : Int) {s : List Int} (hs : s.length = 64 ∧ ∀ x ∈ s, IsByte x) : (T.write d a s).1.Inv := by
  unfold BankT.write
  split
  · exact h.tick
  · split
    · rename_i hin
      obtain ⟨k, b, rfl, rfl, hk, hb, _⟩ := BankT.inE_has hin
      rw [Int.toNat_natCast, Int.toNat_natCast]
      exact h.tick.put hk hb hs
    · exact h.tick
theorem BankT.write_rest {T : BankT} (h : T.Ok) (d a : Int) (s : List Int) : (T.write d a s).1.l.length = T.l.length ∧ (T.write d a s).1.clock ≤ T.clock + 1 ∧ (T.write d a s).1.writes ≤ T.writes + 1 := by
  have h1 := BankT.tick_len h
  have h2 := BankT.tick_clock h
  unfold BankT.write
  split
  · exact ⟨h1, by rw [h2.1]; omega, h2.2⟩
  · split
    · obtain ⟨r1, r2, r3, r4, r5⟩ := T.tick.1.put_rest d.toNat a.toNat s
      refine ⟨r1.trans h1, ?_, by rw [r3]; exact h2.2⟩
      rw [BankT.put_clock]; split <;> omega
    · exact ⟨h1, by rw [h2.1]; omega, h2.2⟩
end
end Go.Proofs.YtglplhmclfekfaaGreat
