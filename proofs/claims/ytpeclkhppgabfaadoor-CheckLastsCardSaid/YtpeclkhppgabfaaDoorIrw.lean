/- Rows of bytes that come in; heads of them; rules for a region of reads. -/
import Derived.Test.YtpeclkhppgabfaaDoorIby
import Derived.Test.YtpeclkhppgabfaaDoorPaH
import Derived.Deep.MidRow
namespace Go.Proofs.YtpeclkhppgabfaaDoor
open Go.RowKit
set_option linter.unusedVariables false
set_option linter.unusedSimpArgs false

/-- a slice of slices of bytes that reads R -/
def RSrc (w : World) (v : Value) (R : List (List Int)) : Prop := ∃ oa cap, v = .slice oa R.length cap ∧ R.length ≤ cap ∧ cap ≤ maxLen ∧ ∀ k (hk : k < R.length), ∃ b off bv, oa = some ⟨b, off, none⟩ ∧ w.cell? ⟨b, off + k, none⟩ = some bv ∧ BSrc w bv R[k]
theorem RSrc.at {w : World} {oa : Option Addr} {n cap : Nat} {R : List (List Int)} (h : RSrc w (.slice oa n cap) R) (k : Nat) (hk : k < R.length) : ∃ b off ax c, oa = some ⟨b, off, none⟩ ∧ w.cell? ⟨b, off + k, none⟩ = some (.slice ax R[k].length c) ∧ BSrc w (.slice ax R[k].length c) R[k] := by
  obtain ⟨oa', cap', e, _, _, h⟩ := h
  cases e
  obtain ⟨b, off, bv, h1, h2, h3⟩ := h k hk
  obtain ⟨_, ax, c, rfl, _⟩ := id h3.1
  exact ⟨b, off, ax, c, h1, h2, h3⟩
set_option maxRecDepth 100000 in
theorem open_rsrc {H : Type} {enc : TypeId × Value → H} {w : World} {base : Nat} {spare : Nat → Bool} {held : Bool} {fuel : Nat} {v : Value} {x : DataW H × List MemPlace}
    (h : DataW.trod enc Tryd.prog w base spare held fuel 41 [v] = some x) : ∃ l, RSrc w v l := by
  rcases Go.Deep.open_slice Tryd.underlying41 h with ⟨hcs, _⟩ | ⟨a, len, cap, m, n, D, Pl, hcs, _, hl, hmx, hm, _, hi⟩
  · simp at hcs; subst hcs; exact ⟨[], none, 0, rfl, Nat.le_refl _, by decide, fun k hk => by cases hk⟩
  simp at hcs
  subst hcs
  have hlm : len ≤ m := by rw [hm]; split <;> omega
  have hC : Tryd.prog.cellsOf 25 = 1 := by kernel_rfl
  have key : ∀ i, ∃ s : List Int × Value, i < len → w.cell? (a.add i) = some s.2 ∧ BSrc w s.2 s.1 := by
    intro i
    by_cases hil : i < len
    · obtain ⟨cs', hc, ht⟩ := hi i (by omega)
      rw [hC, Nat.mul_one] at hc
      obtain ⟨_, hcl, hat⟩ := World.cells?_some hc
      obtain ⟨bv, rfl⟩ : ∃ bv, cs' = [bv] := by
        match cs', hcl with
        | [bv], _ => exact ⟨bv, rfl⟩
      obtain ⟨l, hb⟩ := open_bsrc ht
      exact ⟨(l, bv), fun _ => ⟨Go.ChangeShapes.cell_of_cells?_one hc, hb⟩⟩
    · exact ⟨([], undef), fun h' => absurd h' hil⟩
  obtain ⟨f, hf⟩ := Classical.axiomOfChoice key
  refine ⟨(List.range len).map fun i => (f i).1, some a, cap, by simp, by simpa using hl, hmx, fun k hk => ?_⟩
  have hk' : k < len := by simpa using hk
  obtain ⟨h1, h2⟩ := hf k hk'
  obtain ⟨b, off, spot⟩ := a
  have hsp := World.cell?_spot (hf 0 (by omega)).1
  have hspot : spot = none := by simpa [Addr.add] using hsp
  subst hspot
  refine ⟨b, off, (f k).2, rfl, ?_, by simpa using h2⟩
  rw [Addr.add_mid] at h1
  exact h1
theorem BSrc.head {w : World} {ax : Option Addr} {n c : Nat} {l : List Int} (h : BSrc w (.slice ax n c) l) (k : Nat) (hk : k ≤ n) : n = l.length ∧ k ≤ c ∧ BSrc w (.slice ax k c) (l.take k) ∧ (l.take k).length = k := by
  obtain ⟨hl, ax0, c0, hv, hcap, hnone, hc⟩ := id h.1
  cases hv
  rw [u8s_length, Nat.mul_one] at hl
  have hkl : k ≤ l.length := by omega
  have e : (l.take k).length = k := by rw [List.length_take]; omega
  refine ⟨rfl, by omega, ⟨⟨by rw [u8s_length]; omega, ax, c, by rw [e], by rw [e]; omega, fun hn => ?_, fun ad had j u hj => ?_⟩, fun x hx => h.2 x (List.mem_of_mem_take hx)⟩, e⟩
  · have := hnone hn; rw [e]; omega
  · refine hc ad had j u ?_
    have : u8s (l.take k) = (u8s l).take k := by simp [u8s]
    rw [this, List.getElem?_take] at hj
    split at hj
    · exact hj
    · cases hj
theorem exec_slice_to {o : Oper} {a : Act} {w : World} (x y : Operand) (ho : o.op = .slice 25 x none (some y) none) (ax : Option Addr) (n c : Nat) (hx : a.eval x = .slice ax n c) (k : Nat) (hy : a.eval y = .int .i64 (k : Int)) (hk : k ≤ c) :
    (execOp a.eval o).run Tryd.prog w = .ok (.value (.slice ax k c)) w := by
  have hb := ty_bytes
  obtain ⟨i, z, hi, _, hsz, _, _⟩ := hb.i
  have he : Tryd.prog.elem 25 = 5 := by kernel_rfl
  have ht : Tryd.prog.underlying 25 = some (.slice (Tryd.prog.elem 25)) := by rw [he]; exact hb.ht
  have hr := run_slice_h (P := Tryd.prog) w 25 ax n c ht .i64 (k : Int) (by omega) (by omega)
  rw [he] at hr
  have hr' : (Instr.slice 25 (.slice ax n c) none (some (.int .i64 (k : Int))) none).run Tryd.prog w = .ok (.slice ax k c) w := by
    rw [hr]
    simp [sizeOf, typeInfo, hi, hsz, sliced]
    intro e
    cases ax <;> simp [Addr.add]
  unfold execOp
  simp only [ho, hx, hy, Option.map_some, Option.map_none, Sem.run_bind, run_sliceAt_slice (P := Tryd.prog) w _ _ _ _ _ ht, hr', Result.andThen_ok, Sem.run_pure]
theorem still_slice_to {ops : Array Oper} {rest : List Oper} {o : Oper} {a : Act} {w : World} {K : Act → Prop} (hgd : Region.wanted o (yielded ops a.tmps) = true) (x y : Operand) (ho : o.op = .slice 25 x none (some y) none) (ax : Option Addr) (n c : Nat) (hx : a.eval x = .slice ax n c) (k : Nat) (hy : a.eval y = .int .i64 (k : Int)) (hk : k ≤ c)
    (h : wpStill Tryd.prog ops w K rest (a.put o.dst (.slice ax k c))) : wpStill Tryd.prog ops w K (o :: rest) a := by
  refine wpStill_val hgd ?_ h
  have hb := ty_bytes
  obtain ⟨i, z, hi, _, hsz, _, _⟩ := hb.i
  have he : Tryd.prog.elem 25 = 5 := by kernel_rfl
  have ht : Tryd.prog.underlying 25 = some (.slice (Tryd.prog.elem 25)) := by rw [he]; exact hb.ht
  have hr := run_slice_h (P := Tryd.prog) w 25 ax n c ht .i64 (k : Int) (by omega) (by omega)
  rw [he] at hr
  have hr' : (Instr.slice 25 (.slice ax n c) none (some (.int .i64 (k : Int))) none).run Tryd.prog w = .ok (.slice ax k c) w := by
    rw [hr]
    simp [sizeOf, typeInfo, hi, hsz, sliced]
    intro e
    cases ax <;> simp [Addr.add]
  unfold execOp
  simp only [ho, hx, hy, Option.map_some, Option.map_none, Sem.run_bind, run_sliceAt_slice (P := Tryd.prog) w _ _ _ _ _ ht, hr', Result.andThen_ok, Sem.run_pure]
theorem still_conv_str {ops : Array Oper} {rest : List Oper} {o : Oper} {a : Act} {w : World} {K : Act → Prop} (hgd : Region.wanted o (yielded ops a.tmps) = true) (x : Operand) (ho : o.op = .convert 25 9 x) (v : Value) (hx : a.eval x = v) (l : List Int) (hs : Src w 1 v l.length (u8s l)) (hb : ∀ x ∈ l, IsByte x)
    (h : wpStill Tryd.prog ops w K rest (a.put o.dst (.string (strB l)))) : wpStill Tryd.prog ops w K (o :: rest) a := by
  refine wpStill_val hgd ?_ h
  have hr := conv_str hs hb
  unfold execOp
  simp only [ho, hx, Sem.run_bind, hr, Result.andThen_ok, Sem.run_pure]
end Go.Proofs.YtpeclkhppgabfaaDoor
