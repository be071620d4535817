/- A slice of bytes that comes in, and the head of it. -/
import Derived.Test.YtpeclkhppgabfaaDoorPaH
import Derived.Test.YtpeclkhppgabfaaDoorPaL
import Derived.ProofKit
import Derived.OpenShut
import Derived.ChangeOld
import Derived.Deep.MidRow
namespace Go.Proofs.YtpeclkhppgabfaaDoor
open Go.RowKit
set_option linter.unusedVariables false
set_option linter.unusedSimpArgs false

/-- a slice that reads the bytes l -/
def BSrc (w : World) (v : Value) (l : List Int) : Prop := Src w 1 v l.length (u8s l) ∧ ∀ x ∈ l, IsByte x
theorem open_bsrc {H : Type} {enc : TypeId × Value → H} {w : World} {base : Nat} {spare : Nat → Bool} {held : Bool} {fuel : Nat} {v : Value} {x : DataW H × List MemPlace}
    (h : DataW.trod enc Tryd.prog w base spare held fuel 25 [v] = some x) : ∃ l, BSrc w v l := by
  rcases Go.ChangeShapes.open_ints Tryd.underlying25 Tryd.underlying5 (by kernel_rfl) h with ⟨hcs, _⟩ | ⟨a, len, cap, zs, hcs, _, hl, hm, hlen, _, hc, hwf⟩
  · simp at hcs; subst hcs
    exact ⟨[], Src.nil, fun x hx => by cases hx⟩
  · simp at hcs; subst hcs
    have hzl : len ≤ zs.length := by rw [hlen]; split <;> omega
    refine ⟨zs.take len, ⟨by rw [u8s_length]; omega, some a, cap, by simp [Nat.min_eq_left hzl], ?_, (fun hn => by cases hn), fun ad had j u hj => ?_⟩, fun x hx => ?_⟩
    · rw [List.length_take, Nat.min_eq_left hzl]; exact hl
    · cases had
      have hj' : j < (zs.take len).length := by
        have := (List.getElem?_eq_some_iff.1 hj).1; rw [u8s_length] at this; exact this
      have hj2 : j < zs.length := by rw [List.length_take] at hj'; omega
      rw [hc j hj2]
      have e : (u8s (zs.take len))[j]? = some (.int .u8 (zs.getD j 0)) := by
        have hjl : j < len := by rw [List.length_take] at hj'; omega
        simp [u8s, List.getElem?_take, hjl, hj2, List.getD_eq_getElem?_getD]
      rw [e] at hj; exact hj
    · have := hwf x (List.mem_of_mem_take hx)
      simp [Lit.wf, IntKind.min, IntKind.max, IntKind.signed, IntKind.bits] at this
      exact ⟨by omega, by omega⟩
theorem BSrc.cut {w : World} {ax : Option Addr} {n c : Nat} {l : List Int} (h : BSrc w (.slice ax n c) l) (k : Nat) (hk : k = min n 300 ∨ k = min n 600) : k ≤ c ∧ BSrc w (.slice ax k c) (l.take k) ∧ (l.take k).length = k := by
  obtain ⟨hl, ax0, c0, hv, hcap, hnone, hc⟩ := id h.1
  cases hv
  rw [u8s_length, Nat.mul_one] at hl
  have hkl : k ≤ l.length := by omega
  have e : (l.take k).length = k := by rw [List.length_take]; omega
  refine ⟨by omega, ⟨⟨by rw [u8s_length]; omega, ax, c, by rw [e], by rw [e]; omega, fun hn => ?_, fun ad had j u hj => ?_⟩, fun x hx => h.2 x (List.mem_of_mem_take hx)⟩, e⟩
  · have := hnone hn; rw [e]; omega
  · refine hc ad had j u ?_
    have : u8s (l.take k) = (u8s l).take k := by simp [u8s]
    rw [this, List.getElem?_take] at hj
    split at hj
    · exact hj
    · cases hj
theorem wpList_slice_to {ops : Array Oper} {rest : List Oper} {o : Oper} {a : Act} {w : World} {Q : Exit → Act → World → Prop} (hgd : o.guard = none) (x y : Operand) (ho : o.op = .slice 25 x none (some y) none) (ax : Option Addr) (n c : Nat) (hx : a.eval x = .slice ax n c) (k : Nat) (hy : a.eval y = .int .i64 (k : Int)) (hk : k ≤ c)
    (h : wpList Tryd.prog ops Q rest (a.put o.dst (.slice ax k c)) w) : wpList Tryd.prog ops Q (o :: rest) a w := by
  refine wpList_plain hgd fun K hK => ?_
  have hb := ty_bytes
  obtain ⟨i, z, hi, _, hsz, _, _⟩ := hb.i
  have he : Tryd.prog.elem 25 = 5 := by kernel_rfl
  have ht : Tryd.prog.underlying 25 = some (.slice (Tryd.prog.elem 25)) := by rw [he]; exact hb.ht
  have hr := run_slice_h (P := Tryd.prog) w 25 ax n c ht .i64 (k : Int) (by omega) (by omega)
  rw [he] at hr
  have hr' : (Instr.slice 25 (.slice ax n c) none (some (.int .i64 (k : Int))) none).run Tryd.prog w = .ok (.slice ax k c) w := by
    rw [hr]
    simp [sizeOf, typeInfo, hi, hsz, sliced]
    intro e
    cases ax <;> simp [Addr.add]
  unfold Oper.wp execOp
  simp only [ho, hx, hy, Option.map_some, Option.map_none, Sem.run_bind, run_sliceAt_slice (P := Tryd.prog) w _ _ _ _ _ ht, hr', Result.andThen_ok, Sem.run_pure]
  exact hK _ _ h
end Go.Proofs.YtpeclkhppgabfaaDoor
