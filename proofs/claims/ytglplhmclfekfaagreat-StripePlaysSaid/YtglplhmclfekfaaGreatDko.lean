/- Three new rows, made in whatever order. -/
import Derived.Test.YtglplhmclfekfaaGreatText
import Derived.Test.YtglplhmclfekfaaGreatDkk
import Derived.Laws.MakeOwn
namespace Go.Proofs.YtglplhmclfekfaaGreat
open Go.RowKit
set_option linter.unusedVariables false
set_option linter.unusedSimpArgs false

theorem put_comm (A : Act) {d e : Nat} (h : d ≠ e) (v u : Value) : (A.put (some d) v).put (some e) u = (A.put (some e) u).put (some d) v := by
  simp only [Act.put]
  congr 1
  exact Array.setIfInBounds_comm _ _ h
theorem put_eval (A : Act) {d m : Nat} (h : d ≠ m) (v : Value) : (A.put (some d) v).eval (.tmp m) = A.eval (.tmp m) := by
  simp only [Act.put, Act.eval]
  simp [Array.getElem?_setIfInBounds, h]
/-- what a new row of n elements of type e does -/
structure Makes (P : Program) (o : Oper) (d m n : Nat) (e : TypeId) (C : List Value) : Prop where
  g : o.guard = none
  dst : o.dst = some d
  t : ∃ t i z, o.op = .makeSlice t (.tmp m) (.tmp m) ∧ P.underlying t = some (.slice e) ∧ P.info? e = some i ∧ i.zero = some z ∧ i.bytes * n ≤ 281474976710656 ∧ madeCells z.cells (n * i.size) = C.toArray
theorem Makes.wp {P : Program} {o : Oper} {d m n : Nat} {e : TypeId} {C : List Value} (h : Makes P o d m n e C) (hn : n ≤ 1000000) {A : Act} {w : World} {K : Act → World → Prop} {Q : Exit → Act → World → Prop} (hm : A.eval (.tmp m) = .int .i64 (n : Int))
    (hK : ∀ w', w'.heap[w.heap.size]? = some (.cells C.toArray e (0, 0)) → Kept w w' → w'.heap.size = w.heap.size + 1 → K (A.put (some d) (.slice (some ⟨w.heap.size, 0, none⟩) n n)) w') : o.wp P A w K Q := by
  obtain ⟨t, i, z, ho, h1, h2, h3, h4, h5⟩ := h.t
  have hb' : (i.bytes : Int) * (n : Int) ≤ 281474976710656 := by
    have : ((i.bytes * n : Nat) : Int) ≤ 281474976710656 := by omega
    rwa [Int.natCast_mul] at this
  have hr := run_make (P := P) w t e i z h1 h2 h3 .i64 .i64 n n (by omega) (Int.le_refl _) hb' (by omega)
  simp only [Int.toNat_natCast, h5] at hr
  unfold Oper.wp execOp
  simp only [ho, hm, Sem.run_bind, hr, Result.andThen_ok, Sem.run_pure]
  show K (A.put o.dst _) _
  rw [h.dst]
  exact hK _ (heap_alloc_new w _) ((Kept.refl _).alloc _) (World.size_alloc _ _)
section
variable {P : Program} {ops : Array Oper} {Q : Exit → Act → World → Prop} {md : Region.Mode} {S : World → Prop} {s : Nat}
theorem wpAnyE_step {fuel : Nat} {listed : Array Bool} {a : Act} {w : World} {r : List Nat} (hr : Region.ready md ops listed = r) (hne : r ≠ [])
    (h : ∀ i ∈ r, ∃ oi, ops[i]? = some oi ∧ oi.guard = none ∧ ∀ K : Act → World → Prop, (∀ a' w', (i ≠ s → S w') → wpAnyE P md ops Q S s fuel (listed.setIfInBounds i true) a' w' → K a' w') → oi.wp P a w K Q) : wpAnyE P md ops Q S s (fuel + 1) listed a w := by
  refine ⟨fun h0 => absurd (hr ▸ h0) hne, fun i hi => ?_⟩
  rw [hr] at hi
  obtain ⟨oi, h1, h2, h3⟩ := h i hi
  have hw : Region.wanted oi (yielded ops a.tmps) = true := by simp [Region.wanted, h2]
  unfold wpOp
  simp only [h1, hw, if_true]
  exact .inl (h3 _ fun a' w' h1 h2 => ⟨h1, h2⟩)
/-- three rows made in whatever order -/
theorem wpAnyE_makes {i j k : Nat} {oi oj ok : Oper} {di dj dk mi mj mk n : Nat} {ei ej ek : TypeId} {Ci Cj Ck : List Value} {fuel : Nat} {L0 Li Lj Lk Lij Lik Ljk L3 : Array Bool} {A : Act} {w : World}
    (hoi : ops[i]? = some oi) (hoj : ops[j]? = some oj) (hok : ops[k]? = some ok)
    (r0 : Region.ready md ops L0 = [i, j, k])
    (ei1 : L0.setIfInBounds i true = Li) (ej1 : L0.setIfInBounds j true = Lj) (ek1 : L0.setIfInBounds k true = Lk)
    (ri : Region.ready md ops Li = [j, k]) (rj : Region.ready md ops Lj = [i, k]) (rk : Region.ready md ops Lk = [i, j])
    (eij : Li.setIfInBounds j true = Lij) (eji : Lj.setIfInBounds i true = Lij) (eik : Li.setIfInBounds k true = Lik) (eki : Lk.setIfInBounds i true = Lik) (ejk : Lj.setIfInBounds k true = Ljk) (ekj : Lk.setIfInBounds j true = Ljk)
    (rij : Region.ready md ops Lij = [k]) (rik : Region.ready md ops Lik = [j]) (rjk : Region.ready md ops Ljk = [i])
    (e1 : Lij.setIfInBounds k true = L3) (e2 : Lik.setIfInBounds j true = L3) (e3 : Ljk.setIfInBounds i true = L3)
    (Mi : Makes P oi di mi n ei Ci) (Mj : Makes P oj dj mj n ej Cj) (Mk : Makes P ok dk mk n ek Ck) (hn : n ≤ 1000000)
    (vi : A.eval (.tmp mi) = .int .i64 (n : Int)) (vj : A.eval (.tmp mj) = .int .i64 (n : Int)) (vk : A.eval (.tmp mk) = .int .i64 (n : Int))
    (nd : di ≠ dj ∧ di ≠ dk ∧ dj ≠ dk ∧ di ≠ mj ∧ di ≠ mk ∧ dj ≠ mi ∧ dj ≠ mk ∧ dk ≠ mi ∧ dk ≠ mj) (hS : ∀ w', Kept w w' → S w')
    (H : ∀ (p q r : Nat) (w3 : World), w.heap.size ≤ p → w.heap.size ≤ q → w.heap.size ≤ r → p ≠ q → p ≠ r → q ≠ r → w3.heap[p]? = some (.cells Ci.toArray ei (0, 0)) → w3.heap[q]? = some (.cells Cj.toArray ej (0, 0)) → w3.heap[r]? = some (.cells Ck.toArray ek (0, 0)) → Kept w w3 →
      wpAnyE P md ops Q S s fuel L3 (((A.put (some di) (.slice (some ⟨p, 0, none⟩) n n)).put (some dj) (.slice (some ⟨q, 0, none⟩) n n)).put (some dk) (.slice (some ⟨r, 0, none⟩) n n)) w3) :
    wpAnyE P md ops Q S s (fuel + 3) L0 A w := by
  obtain ⟨n1, n2, n3, n4, n5, n6, n7, n8, n9⟩ := nd
  refine wpAnyE_step r0 (by simp) fun x hx => ?_
  simp only [List.mem_cons, List.mem_nil_iff, or_false] at hx
  rcases hx with rfl | rfl | rfl
  · refine ⟨oi, hoi, Mi.g, fun K hK => Mi.wp hn vi fun w1 b1 k1 s1 => hK _ _ (fun _ => hS _ k1) ?_⟩
    rw [ei1]
    refine wpAnyE_step ri (by simp) fun y hy => ?_
    simp only [List.mem_cons, List.mem_nil_iff, or_false] at hy
    rcases hy with rfl | rfl
    · refine ⟨oj, hoj, Mj.g, fun K hK => Mj.wp hn ((put_eval A n4 _).trans vj) fun w2 b2 k2 s2 => hK _ _ (fun _ => hS _ (k1.trans k2)) ?_⟩
      rw [eij]
      refine wpAnyE_step rij (by simp) fun z hz => ?_
      obtain rfl : z = k := by simpa using hz
      refine ⟨ok, hok, Mk.g, fun K hK => Mk.wp hn (((put_eval _ n7 _).trans (put_eval A n5 _)).trans vk) fun w3 b3 k3 s3 => hK _ _ (fun _ => hS _ ((k1.trans k2).trans k3)) ?_⟩
      rw [e1]
      exact H _ _ _ w3 (by omega) (by omega) (by omega) (by omega) (by omega) (by omega) (k3.block (k2.block b1)) (k3.block b2) b3 ((k1.trans k2).trans k3)
    · refine ⟨ok, hok, Mk.g, fun K hK => Mk.wp hn ((put_eval A n5 _).trans vk) fun w2 b2 k2 s2 => hK _ _ (fun _ => hS _ (k1.trans k2)) ?_⟩
      rw [eik]
      refine wpAnyE_step rik (by simp) fun z hz => ?_
      obtain rfl : z = j := by simpa using hz
      refine ⟨oj, hoj, Mj.g, fun K hK => Mj.wp hn (((put_eval _ n9 _).trans (put_eval A n4 _)).trans vj) fun w3 b3 k3 s3 => hK _ _ (fun _ => hS _ ((k1.trans k2).trans k3)) ?_⟩
      rw [e2, put_comm _ n3.symm]
      exact H _ _ _ w3 (by omega) (by omega) (by omega) (by omega) (by omega) (by omega) (k3.block (k2.block b1)) b3 (k3.block b2) ((k1.trans k2).trans k3)
  · refine ⟨oj, hoj, Mj.g, fun K hK => Mj.wp hn vj fun w1 b1 k1 s1 => hK _ _ (fun _ => hS _ k1) ?_⟩
    rw [ej1]
    refine wpAnyE_step rj (by simp) fun y hy => ?_
    simp only [List.mem_cons, List.mem_nil_iff, or_false] at hy
    rcases hy with rfl | rfl
    · refine ⟨oi, hoi, Mi.g, fun K hK => Mi.wp hn ((put_eval A n6 _).trans vi) fun w2 b2 k2 s2 => hK _ _ (fun _ => hS _ (k1.trans k2)) ?_⟩
      rw [eji]
      refine wpAnyE_step rij (by simp) fun z hz => ?_
      obtain rfl : z = k := by simpa using hz
      refine ⟨ok, hok, Mk.g, fun K hK => Mk.wp hn (((put_eval _ n5 _).trans (put_eval A n7 _)).trans vk) fun w3 b3 k3 s3 => hK _ _ (fun _ => hS _ ((k1.trans k2).trans k3)) ?_⟩
      rw [e1, put_comm A n1.symm]
      exact H _ _ _ w3 (by omega) (by omega) (by omega) (by omega) (by omega) (by omega) (k3.block b2) (k3.block (k2.block b1)) b3 ((k1.trans k2).trans k3)
    · refine ⟨ok, hok, Mk.g, fun K hK => Mk.wp hn ((put_eval A n7 _).trans vk) fun w2 b2 k2 s2 => hK _ _ (fun _ => hS _ (k1.trans k2)) ?_⟩
      rw [ejk]
      refine wpAnyE_step rjk (by simp) fun z hz => ?_
      obtain rfl : z = i := by simpa using hz
      refine ⟨oi, hoi, Mi.g, fun K hK => Mi.wp hn (((put_eval _ n8 _).trans (put_eval A n6 _)).trans vi) fun w3 b3 k3 s3 => hK _ _ (fun _ => hS _ ((k1.trans k2).trans k3)) ?_⟩
      rw [e3, put_comm _ n2.symm, put_comm A n1.symm]
      exact H _ _ _ w3 (by omega) (by omega) (by omega) (by omega) (by omega) (by omega) b3 (k3.block (k2.block b1)) (k3.block b2) ((k1.trans k2).trans k3)
  · refine ⟨ok, hok, Mk.g, fun K hK => Mk.wp hn vk fun w1 b1 k1 s1 => hK _ _ (fun _ => hS _ k1) ?_⟩
    rw [ek1]
    refine wpAnyE_step rk (by simp) fun y hy => ?_
    simp only [List.mem_cons, List.mem_nil_iff, or_false] at hy
    rcases hy with rfl | rfl
    · refine ⟨oi, hoi, Mi.g, fun K hK => Mi.wp hn ((put_eval A n8 _).trans vi) fun w2 b2 k2 s2 => hK _ _ (fun _ => hS _ (k1.trans k2)) ?_⟩
      rw [eki]
      refine wpAnyE_step rik (by simp) fun z hz => ?_
      obtain rfl : z = j := by simpa using hz
      refine ⟨oj, hoj, Mj.g, fun K hK => Mj.wp hn (((put_eval _ n4 _).trans (put_eval A n9 _)).trans vj) fun w3 b3 k3 s3 => hK _ _ (fun _ => hS _ ((k1.trans k2).trans k3)) ?_⟩
      rw [e2, put_comm A n2.symm, put_comm _ n3.symm]
      exact H _ _ _ w3 (by omega) (by omega) (by omega) (by omega) (by omega) (by omega) (k3.block b2) b3 (k3.block (k2.block b1)) ((k1.trans k2).trans k3)
    · refine ⟨oj, hoj, Mj.g, fun K hK => Mj.wp hn ((put_eval A n9 _).trans vj) fun w2 b2 k2 s2 => hK _ _ (fun _ => hS _ (k1.trans k2)) ?_⟩
      rw [ekj]
      refine wpAnyE_step rjk (by simp) fun z hz => ?_
      obtain rfl : z = i := by simpa using hz
      refine ⟨oi, hoi, Mi.g, fun K hK => Mi.wp hn (((put_eval _ n6 _).trans (put_eval A n8 _)).trans vi) fun w3 b3 k3 s3 => hK _ _ (fun _ => hS _ ((k1.trans k2).trans k3)) ?_⟩
      rw [e3, put_comm A n3.symm, put_comm _ n2.symm, put_comm A n1.symm]
      exact H _ _ _ w3 (by omega) (by omega) (by omega) (by omega) (by omega) (by omega) b3 (k3.block b2) (k3.block (k2.block b1)) ((k1.trans k2).trans k3)
end
end Go.Proofs.YtglplhmclfekfaaGreat
