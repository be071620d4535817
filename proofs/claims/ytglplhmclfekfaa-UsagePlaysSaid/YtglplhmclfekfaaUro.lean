/- law14: UsagePlays, plain: the first pair, a pair that is cloned, the pair that stays; what comes in. -/
import Derived.Test.YtglplhmclfekfaaUrn
import Derived.Test.YtglplhmclfekfaaUcl
import Derived.Test.YtglplhmclfekfaaUsl
import Derived.ProofKit
import Derived.OpenShut
import Derived.ChangeOld
import Derived.Deep.Slices
import Derived.Deep.Fields
import Derived.Deep.DeepCutAuto
namespace Go.Proofs.Ytglplhmclfekfaa
open Go.RowKit Go.ChangeMaps
set_option linter.unusedVariables false
set_option linter.unusedSimpArgs false

section
variable {w0 W W' W1 : World} {R S : Nat → Prop} {p q q2 c : Nat} {T : Tab} {G : UG} {L : UL} {vg vl vg2 vl2 : Value}
theorem TabAt.sameS (H : TabAt W p S T) (hs : ∀ k, S k → W'.heap[k]? = W.heap[k]?) : TabAt W' p S T := by
  obtain ⟨g, h, blk, H⟩ := H
  obtain ⟨m1, h1⟩ := H.gm
  obtain ⟨m2, h2⟩ := H.fm
  refine ⟨g, h, blk, (hs _ H.sp).trans H.top, ⟨m1, h1.same (hs _ H.sg)⟩, ⟨m2, h2.same (hs _ H.sh)⟩, fun n l hl => (hs _ (H.own n (by simp [hl]))).trans (H.row n l hl), H.own, H.inj, H.gh, H.sp, H.sg, H.sh, fun k hk => ?_⟩
  have h1 := H.slt k hk
  have h2 : W'.heap[k]? = some W.heap[k] := (hs k hk).trans (Array.getElem?_eq_getElem h1)
  exact (Array.getElem?_eq_some_iff.1 h2).1
/-- a pair that nobody turns: it stays while the blocks that R names stay -/
def OldU (w0 W : World) (R : Nat → Prop) (po qo : Nat) : Prop := ∃ B : Nat → Prop, (∀ k, B k → R k) ∧ ∀ W', Kept w0 W' → (∀ k, B k → W'.heap[k]? = W.heap[k]?) → ∃ T G L vg vl, PU w0 (fun _ => False) W' po qo T 1000 G L vg vl
theorem OldU.still {po qo : Nat} (h : OldU w0 W R po qo) (hs : SameR R W W') : OldU w0 W' R po qo := by
  obtain ⟨B, h1, h2⟩ := h
  exact ⟨B, h1, fun W'' hk hb => h2 W'' hk fun k hk' => (hb k hk').trans (hs k (h1 k hk'))⟩
theorem OldU.now {po qo : Nat} (h : OldU w0 W R po qo) (hk : Kept w0 W) : ∃ T G L vg vl, PU w0 (fun _ => False) W po qo T 1000 G L vg vl := by
  obtain ⟨B, h1, h2⟩ := h
  exact h2 W hk fun _ _ => rfl
theorem PU.first (h : Own w0 (fun k => k < w0.heap.size) W p Tab.empty) (hk : Kept w0 W) (h2 : UX W' W.heap.size [] [] Tab.empty 0 (.slice none 0 0) (.slice none 0 0)) (hk2 : Kept W W') : PU w0 (fun _ => False) W' p W.heap.size Tab.empty 0 [] [] (.slice none 0 0) (.slice none 0 0) := by
  have hin : ∀ k, InU W.heap.size (.slice none 0 0) (.slice none 0 0) k → k = W.heap.size := fun k hk => by
    rcases hk with h | h | h
    · exact h
    · simp [Value.ownBlock] at h
    · simp [Value.ownBlock] at h
  have hm := h.more hk2 W.heap.size (Nat.le_refl _) (h2.ud.lt (.inl rfl))
  refine ⟨hm.less fun k hk => ?_, h2, fun k hk3 => by rw [hin k hk3]; exact hk.size, fun k hk => hk.elim⟩
  rcases hk with h | h
  · exact h.elim
  · exact .inr (hin k h)
/-- the document's is cloned, then the table -/
structure PUc (w0 W : World) (p q q2 : Nat) (T : Tab) (c : Nat) (G : UG) (L : UL) (vg vl vg2 vl2 : Value) : Prop where
  pu : PU w0 (fun k => InU q2 vg2 vl2 k) W p q T c G L vg vl
  u2 : UX W q2 G L T c vg2 vl2
  ge : ∀ k, InU q2 vg2 vl2 k → w0.heap.size ≤ k
theorem pu_CloneU (h : PU w0 R W p q T c G L vg vl) (hc : c ≤ 1000) :
    Calls Try.prog 23 #[.pointer (some ⟨q, 0, none⟩)] W fun e w' => ∃ q2 vg2 vl2, e = .returned (.pointer (some ⟨q2, 0, none⟩)) ∧ PUc w0 w' p q q2 T c G L vg vl vg2 vl2 ∧ Kept W w' := by
  have hgl := h.ux.gl
  have hll := h.ux.ll
  refine (ur_Clone h.ux.ud (by omega) (by omega)).mono ?_
  rintro e w' ⟨q2, vg2, vl2, he, h3, hk, hnew⟩
  refine ⟨q2, vg2, vl2, he, ⟨?_, ⟨h3, h.ux.ur, h.ux.ok, hgl, hll⟩, fun k hk' => Nat.le_trans h.own.keeps.size (hnew k hk')⟩, hk⟩
  obtain ⟨S, g1, g2, g3, g4⟩ := h.own
  refine ⟨⟨S, g1.kept hk, g2.trans hk, g3, fun k hk' => ?_⟩, h.ux.kept hk, h.ge, fun k hk' hi => ?_⟩
  · rcases hk' with hk' | hk'
    · exact ⟨h3.lt hk', fun hs => by have := g1.slt k hs; have := hnew k hk'; omega⟩
    · exact ⟨Nat.lt_of_lt_of_le (g4 k (.inr hk')).1 hk.size, (g4 k (.inr hk')).2⟩
  · have := h.ux.ud.lt hi; have := hnew k hk'; omega
theorem pu_CloneT (h : PUc w0 W p q q2 T c G L vg vl vg2 vl2) (hc : c ≤ 1000) :
    Calls Try.prog 24 #[.pointer (some ⟨p, 0, none⟩)] W fun e w' => ∃ p' R', e = .returned (.pointer (some ⟨p', 0, none⟩)) ∧ PU w0 R' w' p' q T c G L vg vl ∧ OldU w0 w' R' p q2 ∧ Kept W w' := by
  obtain ⟨h, h3, h3own⟩ := h
  obtain ⟨S, g1, g2, g3, g4⟩ := h.own
  refine (tab_Clone g1 h.ux.ok.len).mono ?_
  rintro e w' ⟨p', S', he, k1, hk, hnew⟩
  have hlt3 : ∀ k, InU q2 vg2 vl2 k → k < W.heap.size := fun k hk' => h3.ud.lt hk'
  refine ⟨p', fun k => S k ∨ InU q2 vg2 vl2 k, he, ⟨⟨S', k1, g2.trans hk, fun k hs => Nat.le_trans g2.size (hnew k hs), fun k hk' => ?_⟩, h.ux.kept hk, h.ge, fun k hk' hi => ?_⟩, ⟨fun k => S k ∨ InU q2 vg2 vl2 k, fun k hk => hk, fun W' hkw hs => ?_⟩, hk⟩
  · have : k < W.heap.size := by
      rcases hk' with (hk' | hk') | hk'
      · exact g1.slt k hk'
      · exact hlt3 k hk'
      · exact h.ux.ud.lt hk'
    exact ⟨Nat.lt_of_lt_of_le this hk.size, fun hs => by have := hnew k hs; omega⟩
  · rcases hk' with hk' | hk'
    · exact (g4 k (.inr hi)).2 hk'
    · exact h.off k hk' hi
  · have hS : ∀ k, S k → W'.heap[k]? = W.heap[k]? := fun k hk' => (hs k (.inl hk')).trans (hk.block_eq (g1.slt k hk'))
    have hX : ∀ k, InU q2 vg2 vl2 k → W'.heap[k]? = W.heap[k]? := fun k hk' => (hs k (.inr hk')).trans (hk.block_eq (hlt3 k hk'))
    have h4 := h3.same hX
    refine ⟨T, G, L, vg2, vl2, ⟨⟨S, g1.sameS hS, hkw, g3, fun k hk' => ?_⟩, ⟨h4.ud, h4.ur, h4.ok, Nat.le_trans h4.gl hc, Nat.le_trans h4.ll hc⟩, h3own, fun k hk' => hk'.elim⟩⟩
    rcases hk' with hk' | hk'
    · exact hk'.elim
    · exact ⟨h4.ud.lt hk', (g4 k (.inl hk')).2⟩
end
/-- a step of law14 -/
structure OpV where
  kind : Int
  group : Int
  slot : Int
  block : Int
  n : Int
def VSrc (w : World) (v : Value) (l : List OpV) : Prop := ∃ oa cap, v = .slice oa l.length cap ∧ l.length ≤ cap ∧ cap ≤ maxLen ∧ ∀ k (hk : k < l.length), ∃ b off, oa = some ⟨b, off, none⟩ ∧
  Cells w b (off + k * 5) [.int .i64 l[k].kind, .int .i64 l[k].group, .int .i64 l[k].slot, .int .i64 l[k].block, .int .i64 l[k].n] ∧ l[k].group ≤ 9223372036854775807
theorem VSrc.kept {w w' : World} {v : Value} {l : List OpV} (h : VSrc w v l) (hk : Kept w w') : VSrc w' v l := by
  obtain ⟨oa, cap, rfl, h1, h2, h3⟩ := h
  refine ⟨oa, cap, rfl, h1, h2, fun k hkl => ?_⟩
  obtain ⟨b, off, e, c0, r⟩ := h3 k hkl
  exact ⟨b, off, e, c0.kept hk, r⟩
theorem VSrc.at {w : World} {oa : Option Addr} {n cap : Nat} {l : List OpV} (h : VSrc w (.slice oa n cap) l) (k : Nat) (hk : k < l.length) : ∃ b off, oa = some ⟨b, off, none⟩ ∧
    Cells w b (off + k * 5) [.int .i64 l[k].kind, .int .i64 l[k].group, .int .i64 l[k].slot, .int .i64 l[k].block, .int .i64 l[k].n] ∧ l[k].group ≤ 9223372036854775807 := by
  obtain ⟨oa', cap', e, h1, h2, h3⟩ := h
  cases e
  exact h3 k hk
theorem wf_i64V {z : Int} (h : (Lit.int .i64 z).wf = true) : z ≤ 9223372036854775807 := by
  have h1 : IntKind.i64.min = -9223372036854775808 := rfl
  have h2 : IntKind.i64.max = 9223372036854775807 := rfl
  simp [Lit.wf] at h; omega
set_option maxRecDepth 100000 in
theorem open_vops {H : Type} {enc : TypeId × Value → H} {w : World} {base : Nat} {spare : Nat → Bool} {held : Bool} {fuel : Nat} {v : Value} {x : DataW H × List MemPlace}
    (h : DataW.trod enc Try.prog w base spare held fuel 43 [v] = some x) : ∃ l, VSrc w v l := by
  rcases Go.Deep.open_slice Try.underlying43 h with ⟨hcs, _⟩ | ⟨a, len, cap, m, n, D, Pl, hcs, _, hl, hmx, hm, _, hi⟩
  · simp at hcs; subst hcs; exact ⟨[], none, 0, rfl, Nat.le_refl _, by decide, fun k hk => by cases hk⟩
  simp at hcs
  subst hcs
  have hlm : len ≤ m := by rw [hm]; split <;> omega
  have hC : Try.prog.cellsOf 49 = 5 := by kernel_rfl
  have hC1 : Try.prog.cellsOf 3 = 1 := by kernel_rfl
  have key : ∀ i, ∃ y : OpV, i < len → w.cell? ((a.add (i * 5)).add 0) = some (.int .i64 y.kind) ∧ w.cell? ((a.add (i * 5)).add 1) = some (.int .i64 y.group) ∧ w.cell? ((a.add (i * 5)).add 2) = some (.int .i64 y.slot) ∧ w.cell? ((a.add (i * 5)).add 3) = some (.int .i64 y.block) ∧ w.cell? ((a.add (i * 5)).add 4) = some (.int .i64 y.n) ∧ y.group ≤ 9223372036854775807 := by
    intro i
    by_cases hil : i < len
    · obtain ⟨cs', hc, ht⟩ := hi i (by omega)
      rw [hC] at hc
      obtain ⟨_, hcl, hat⟩ := World.cells?_some hc
      obtain ⟨xs, n', _, _, _, hxl, hf⟩ := DataW.trod_struct Try.underlying49 ht
      replace hxl : xs.length = 5 := hxl
      rcases cs' with _ | ⟨c0, _ | ⟨c1, _ | ⟨c2, _ | ⟨c3, _ | ⟨c4, _ | ⟨c5, r⟩⟩⟩⟩⟩⟩ <;> simp at hcl
      have f0 : DataW.trod enc Try.prog w base spare held n' 3 ((([c0, c1, c2, c3, c4] : List Value).drop 0).take (Try.prog.cellsOf 3)) = xs[0]? := hf 0 _ rfl
      have f1 : DataW.trod enc Try.prog w base spare held n' 3 ((([c0, c1, c2, c3, c4] : List Value).drop 1).take (Try.prog.cellsOf 3)) = xs[1]? := hf 1 _ rfl
      have f2 : DataW.trod enc Try.prog w base spare held n' 3 ((([c0, c1, c2, c3, c4] : List Value).drop 2).take (Try.prog.cellsOf 3)) = xs[2]? := hf 2 _ rfl
      have f3 : DataW.trod enc Try.prog w base spare held n' 3 ((([c0, c1, c2, c3, c4] : List Value).drop 3).take (Try.prog.cellsOf 3)) = xs[3]? := hf 3 _ rfl
      have f4 : DataW.trod enc Try.prog w base spare held n' 3 ((([c0, c1, c2, c3, c4] : List Value).drop 4).take (Try.prog.cellsOf 3)) = xs[4]? := hf 4 _ rfl
      rw [hC1, List.getElem?_eq_getElem (by omega)] at f0 f1 f2 f3 f4
      obtain ⟨z0, hz0, _, _⟩ := DataW.trod_int Try.underlying3 f0
      obtain ⟨z1, hz1, _, w1⟩ := DataW.trod_int Try.underlying3 f1
      obtain ⟨z2, hz2, _, _⟩ := DataW.trod_int Try.underlying3 f2
      obtain ⟨z3, hz3, _, _⟩ := DataW.trod_int Try.underlying3 f3
      obtain ⟨z4, hz4, _, _⟩ := DataW.trod_int Try.underlying3 f4
      simp at hz0 hz1 hz2 hz3 hz4
      subst hz0 hz1 hz2 hz3 hz4
      exact ⟨⟨z0, z1, z2, z3, z4⟩, fun _ => ⟨hat 0 (by omega), hat 1 (by omega), hat 2 (by omega), hat 3 (by omega), hat 4 (by omega), wf_i64V w1⟩⟩
    · exact ⟨⟨0, 0, 0, 0, 0⟩, fun h' => absurd h' hil⟩
  obtain ⟨f, hf⟩ := Classical.axiomOfChoice key
  refine ⟨(List.range len).map f, some a, cap, by simp, by simpa using hl, hmx, fun k hk => ?_⟩
  have hk' : k < len := by simpa using hk
  have h1 := hf k hk'
  obtain ⟨b, off, spot⟩ := a
  have hsp := World.cell?_spot (hf 0 (by omega)).1
  have hspot : spot = none := by simpa [Addr.add] using hsp
  subst hspot
  refine ⟨b, off, rfl, ?_⟩
  simp only [Addr.add_mid] at h1
  simp only [List.getElem_map, List.getElem_range]
  obtain ⟨d0, d1, d2, d3, d4, d5⟩ := h1
  refine ⟨fun j hj => ?_, d5⟩
  rcases j with _ | _ | _ | _ | _ | j
  · exact d0
  · exact d1
  · exact d2
  · exact d3
  · exact d4
  · simp at hj; omega
theorem ty_opV : AggT Try.prog 49 5 := ⟨⟨_, Try.underlying49, rfl⟩, by kernel_rfl⟩
theorem zero_opV (w : World) : (zeroValue 49).run Try.prog w = .ok (.agg [Value.int .i64 0, .int .i64 0, .int .i64 0, .int .i64 0, .int .i64 0].toArray) w := by kernel_rfl
theorem size_intV : (Try.prog.info? 3).map (·.size) = some 1 := by kernel_rfl
end Go.Proofs.Ytglplhmclfekfaa
