/- A slice of uint64 that comes in; more of what a law's own blocks want. -/
import Derived.Test.YtpeclkhppgabfaaDoorIrw
import Derived.Test.YtpeclkhppgabfaaDoorAnx
namespace Go.Proofs.YtpeclkhppgabfaaDoor
open Go.RowKit
set_option linter.unusedVariables false
set_option linter.unusedSimpArgs false
def USrc (w : World) (v : Value) (l : List Int) : Prop := ∃ oa cap, v = .slice oa l.length cap ∧ l.length ≤ cap ∧ cap ≤ maxLen ∧ ∀ k (hk : k < l.length), ∃ b off, oa = some ⟨b, off, none⟩ ∧ w.cell? ⟨b, off + k, none⟩ = some (.int .u64 l[k]) ∧ (0 ≤ l[k] ∧ l[k] < 18446744073709551616)
theorem USrc.at {w : World} {oa : Option Addr} {n cap : Nat} {l : List Int} (h : USrc w (.slice oa n cap) l) (k : Nat) (hk : k < l.length) : ∃ b off, oa = some ⟨b, off, none⟩ ∧ w.cell? ⟨b, off + k, none⟩ = some (.int .u64 l[k]) ∧ (0 ≤ l[k] ∧ l[k] < 18446744073709551616) := by
  obtain ⟨oa', cap', e, _, _, h⟩ := h
  cases e
  exact h k hk
theorem open_usrc {H : Type} {enc : TypeId × Value → H} {w : World} {base : Nat} {spare : Nat → Bool} {held : Bool} {fuel : Nat} {v : Value} {x : DataW H × List MemPlace}
    (h : DataW.trod enc Tryd.prog w base spare held fuel 42 [v] = some x) : ∃ l, USrc w v l := by
  rcases Go.ChangeShapes.open_ints Tryd.underlying42 Tryd.underlying45 (by kernel_rfl) h with ⟨hcs, _⟩ | ⟨a, len, cap, zs, hcs, _, hl, hm, hlen, _, hc, hwf⟩
  · simp at hcs; subst hcs
    exact ⟨[], none, 0, rfl, Nat.le_refl _, by decide, fun k hk => by cases hk⟩
  · simp at hcs; subst hcs
    have hzl : len ≤ zs.length := by rw [hlen]; split <;> omega
    refine ⟨zs.take len, some a, cap, by simp [Nat.min_eq_left hzl], by simp; omega, hm, fun k hk => ?_⟩
    have hk' : k < zs.length := by simp at hk; omega
    have h1 := hc k hk'
    obtain ⟨b, off, spot⟩ := a
    have hsp := World.cell?_spot (hc 0 (by omega))
    have hspot : spot = none := by simpa [Addr.add] using hsp
    subst hspot
    have hw : (Lit.int .u64 (zs.take len)[k]).wf = true := hwf _ (List.mem_of_mem_take (List.getElem_mem hk))
    refine ⟨b, off, rfl, ?_, wf_u64 hw⟩
    rw [Addr.add_mid] at h1
    rw [h1]; simp [List.getD_eq_getElem?_getD, hk']
theorem OwnG.lit {w0 W : World} {e : TypeId} {X : Nat} {u : Value} (hz : W.heap[X]? = some (.cells [u].toArray e (0, 0))) (hX : w0.heap.size ≤ X) : OwnG w0 W e (.slice (some ⟨X, 0, none⟩) 1 1) [u] :=
  ⟨⟨rfl, .inr ⟨X, 1, [u].toArray, rfl, Nat.zero_le _, hz, Nat.le_refl _, by decide, rfl, rfl⟩⟩, fun k hk => by simp only [Value.ownBlock, Option.some.injEq] at hk; omega⟩
section
variable {w0 W W' : World} {R : Nat → Prop} {q : Nat} {T : BankT}
theorem BK.pushOwn (h : BK w0 R W q T) (hk : Kept W W') {e n : Nat} {v : Value} {xs : List Value} (ho : W'.ownsRow W.heap.size e 1 v n xs) : BK w0 (fun k => R k ∨ v.ownBlock = some k) W' q T := by
  rcases owns_form ho with ⟨rfl, _⟩ | ⟨g, c, rfl, hb, hg, _⟩
  · exact (h.kept hk).1.less fun k hk => hk.resolve_right (by simp [Value.ownBlock])
  · refine (h.more hk g hb hg).less fun k hk => ?_
    rcases hk with hk | hk
    · exact .inl hk
    · simp only [Value.ownBlock, Option.some.injEq] at hk; exact .inr hk.symm
end
end Go.Proofs.YtpeclkhppgabfaaDoor
