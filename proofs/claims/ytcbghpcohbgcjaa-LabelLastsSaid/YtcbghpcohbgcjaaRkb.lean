/- The document's bank in memory: what its blocks hold. -/
import Derived.Test.YtcbghpcohbgcjaaDlv
namespace Go.Proofs.Ytcbghpcohbgcjaa
open Go.RowKit
set_option linter.unusedVariables false
set_option linter.unusedSimpArgs false

/-- what one append does to the memory -/
def Grw (W W' : World) (v v' : Value) : Prop := (v'.ownBlock = v.ownBlock ∧ But (fun k => v.ownBlock = some k) W W') ∨ (∃ g, v'.ownBlock = some g ∧ W.heap.size ≤ g ∧ g < W'.heap.size ∧ Kept W W')
theorem Grw.size {W W' : World} {v v' : Value} (h : Grw W W' v v') : W.heap.size ≤ W'.heap.size := by
  rcases h with ⟨_, h⟩ | ⟨_, _, _, _, h⟩ <;> exact h.size
theorem Grw.blk {W W' : World} {v v' : Value} (h : Grw W W' v v') {b : Nat} (hb : b < W.heap.size) (hn : v.ownBlock ≠ some b) : W'.heap[b]? = W.heap[b]? := by
  rcases h with ⟨_, h⟩ | ⟨_, _, _, _, h⟩
  · exact h.block b hb hn
  · exact h.block_eq hb
theorem own_lt {w : World} {base e size n : Nat} {v : Value} {xs : List Value} (h : w.ownsRow base e size v n xs) {g : Nat} (hg : v.ownBlock = some g) : g < w.heap.size := by
  rcases h.2 with ⟨rfl, _⟩ | ⟨g', cap, cur, rfl, _, hh, _⟩
  · simp [Value.ownBlock] at hg
  · simp only [Value.ownBlock, Option.some.injEq] at hg
    subst hg
    exact (Array.getElem?_eq_some_iff.1 hh).1
/-- one element more in a slice that is owned -/
theorem own_append {P : Program} {t e size bytes : Nat} (E : ElemT P t e size bytes) {W : World} {v : Value} {n : Nat} {xs : List Value} (hv : W.ownsRow 0 e size v n xs) (hn : n < 20000) (hby : bytes ≤ 1000000) {b : Nat} (es : List Value) (hl : es.length = size)
    (hb : ∀ j u, es[j]? = some u → W.cell? ⟨b, j, none⟩ = some u) (h1 : ∀ u ∈ es, u.oneCell' = true) (ty : TypeId) :
    ∃ v' W', (Builtin.append_ #[t, t] ty #[v, .slice (some ⟨b, 0, none⟩) 1 1]).run P W = .ok v' W' ∧ W'.ownsRow 0 e size v' (n + 1) (xs ++ es) ∧ Grw W W' v v' := by
  have hcb : ∀ j u, es[j]? = some u → W.cell? ((⟨b, 0, none⟩ : Addr).add j) = some u := fun j u hu => by rw [Addr.add_mid, Nat.zero_add]; exact hb j u hu
  have hsrc : Src W size (.slice (some ⟨b, 0, none⟩) 1 1) 1 es := ⟨by omega, _, 1, rfl, Nat.le_refl _, by simp, fun b' hb' j u hu => by cases hb'; exact hcb j u hu⟩
  have hbb : (n + 1) * bytes ≤ 140737488355328 := Nat.le_trans (Nat.mul_le_mul (show n + 1 ≤ 20000 by omega) hby) (by decide)
  have fresh : App W W.heap.size e size v n xs → ∃ v' W', (Builtin.append_ #[t, t] ty #[v, .slice (some ⟨b, 0, none⟩) 1 1]).run P W = .ok v' W' ∧ W'.ownsRow 0 e size v' (n + 1) (xs ++ es) ∧ Grw W W' v v' := by
    intro ha
    obtain ⟨v', W', hr, _, hg, hB, hown⟩ := run_append_app (P := P) W E ty W.heap.size v n xs ha _ 1 _ hsrc h1 (by simp only [maxLen]; omega) hbb (Nat.le_refl _)
    have ho := hown (.inl (by decide))
    refine ⟨v', W', hr, ownsRow_base ho (Nat.zero_le _), ?_⟩
    rcases ho.2 with ⟨_, h0⟩ | ⟨g, c, cur, rfl, hge, hh, _⟩
    · omega
    · exact .inr ⟨g, rfl, hge, (Array.getElem?_eq_some_iff.1 hh).1, ⟨hB.os, hB.tape, hB.output, hB.size, fun k hk => hB.block k hk⟩⟩
  have hv0 := hv
  rcases hv.2 with ⟨rfl, h0⟩ | ⟨g, cap, cur, rfl, hbg, hh, hnc, hcm, hcs, htk⟩
  · have hx : xs = [] := List.eq_nil_of_length_eq_zero (by rw [hv.1, h0, Nat.zero_mul])
    subst hx h0
    exact fresh (App.empty W _ _ _)
  · by_cases hfull : n = cap
    · refine fresh (.inr ⟨hv.1, some ⟨g, 0, none⟩, by rw [hfull], by simp, fun b' hb' j u hu => ?_⟩)
      cases hb'
      have hj : j < xs.length := by
        rcases Nat.lt_or_ge j xs.length with h | h
        · exact h
        · rw [List.getElem?_eq_none h] at hu; cases hu
      have hcl : cur = cur.toList.toArray := by simp
      rw [hcl] at hh
      have hj2 : j < n * size := by rw [← hv.1]; exact hj
      rw [Addr.add_mid, Nat.zero_add, cell_of_row _ _ _ _ _ _ hh, ← hu, ← htk, List.getElem?_take, if_pos hj2]
      simp
    · obtain ⟨ht, ⟨i, z, hi, hz, hsz, hby', hzs⟩, hpos⟩ := E
      obtain ⟨W', hr, ho, hg⟩ := run_append_fits (P := P) (w := W) 0 _ ty _ i size ht hi hsz g n cap xs hv0 ⟨b, 0, none⟩ 1 1 es (by omega) hcb h1 (by omega)
      exact ⟨_, W', hr, ho, .inl ⟨rfl, ⟨hg.os, hg.tape, hg.output, hg.size, fun k hk hne => hg.block k hk (fun e => hne e.symm)⟩⟩⟩

/-- a disk of the document -/
structure RMed where
  flu : List (List Int)
  new : List (List Int)
  dead : Bool
  fail : Int
/-- a bank of the document -/
structure RT where
  l : List RMed
  loose : List (Nat × Nat)
  down : Bool
  n : Int
  armed : Int
  mask : Int
def RMed.zero : RMed := ⟨[], [], false, 0⟩
def RMed.fresh (n : Nat) : RMed := ⟨List.replicate n zeroB, List.replicate n zeroB, false, 0⟩
def RT.zero : RT := ⟨[], [], false, 0, 0, 0⟩
def RT.d (T : RT) (k : Nat) : RMed := T.l.getD k RMed.zero
def RT.up (T : RT) (k : Nat) (m : RMed) : RT := { T with l := T.l.set k m }
def RT.add (T : RT) (n : Nat) : RT := { T with l := T.l ++ [RMed.fresh n] }
def pvals (L : List (Nat × Nat)) : List Value := L.flatMap fun p => [.int .i64 (p.1 : Int), .int .i64 (p.2 : Int)]
/-- where a bank's blocks lie: its own; for each disk: it, flushed, newest; both slices -/
structure RLay where
  q : Nat
  D : List (Nat × Nat × Nat)
  Lv : Value
  lv : Value
def rptrs (D : List (Nat × Nat × Nat)) : List Value := D.map fun d => .pointer (some ⟨d.1, 0, none⟩)
def rbank (Y : RLay) (T : RT) : List Value := [Y.Lv, Y.lv, .bool T.down, .int .i64 T.n, .int .i64 T.armed, .int .u64 T.mask]
def rmed (d : Nat × Nat × Nat) (m : RMed) : List Value := [.slice (some ⟨d.2.1, 0, none⟩) m.new.length m.new.length, .slice (some ⟨d.2.2, 0, none⟩) m.new.length m.new.length, .bool m.dead, .int .i64 m.fail]
structure RMed.Ok (m : RMed) : Prop where
  flu : IsSecs m.new.length m.flu
  new : IsSecs m.new.length m.new
  len : m.new.length ≤ 4096
  fail : 0 ≤ m.fail ∧ m.fail < 9223372036854775808
structure RT.Ok (T : RT) : Prop where
  len : T.l.length ≤ 32
  med : ∀ m ∈ T.l, m.Ok
  loose : ∀ p ∈ T.loose, p.1 < T.l.length ∧ p.2 < (T.d p.1).new.length
  many : T.loose.length ≤ 10000
structure RefD (w : World) (Y : RLay) (T : RT) : Prop where
  bank : w.heap[Y.q]? = some (.cells (rbank Y T).toArray 90 (0, 0))
  len : Y.D.length = T.l.length
  lst : w.ownsRow 0 130 1 Y.Lv Y.D.length (rptrs Y.D)
  loo : w.ownsRow 0 31 2 Y.lv T.loose.length (pvals T.loose)
  dsk : ∀ k (h : k < Y.D.length), w.heap[Y.D[k].1]? = some (.cells (rmed Y.D[k] (T.d k)).toArray 132 (0, 0))
  flu : ∀ k (h : k < Y.D.length), w.heap[Y.D[k].2.1]? = some (.cells (secs (T.d k).flu).toArray 36 (0, 0))
  new : ∀ k (h : k < Y.D.length), w.heap[Y.D[k].2.2]? = some (.cells (secs (T.d k).new).toArray 36 (0, 0))
  dd : (Y.D.map fun d => d.1).Nodup
  dn : (Y.D.flatMap fun d => [d.2.1, d.2.2]).Nodup
/-- block b is one of the bank's -/
def RLay.In (Y : RLay) (b : Nat) : Prop := b = Y.q ∨ Y.Lv.ownBlock = some b ∨ Y.lv.ownBlock = some b ∨ ∃ d ∈ Y.D, b = d.1 ∨ b = d.2.1 ∨ b = d.2.2
section
variable {w w' : World} {Y : RLay} {T : RT}
theorem RefD.lt (h : RefD w Y T) {b : Nat} (hb : Y.In b) : b < w.heap.size := by
  have key : ∀ {o : Obj} {b : Nat}, w.heap[b]? = some o → b < w.heap.size := fun h => (Array.getElem?_eq_some_iff.1 h).1
  rcases hb with rfl | hb | hb | ⟨d, hd, hb⟩
  · exact key h.bank
  · exact own_lt h.lst hb
  · exact own_lt h.loo hb
  · obtain ⟨k, hk, rfl⟩ := List.getElem_of_mem hd
    rcases hb with rfl | rfl | rfl
    · exact key (h.dsk k hk)
    · exact key (h.flu k hk)
    · exact key (h.new k hk)
theorem RefD.same (h : RefD w Y T) (hb : ∀ b, Y.In b → w'.heap[b]? = w.heap[b]?) : RefD w' Y T where
  bank := (hb _ (.inl rfl)).trans h.bank
  len := h.len
  lst := own_same h.lst fun g hg => hb g (.inr (.inl hg))
  loo := own_same h.loo fun g hg => hb g (.inr (.inr (.inl hg)))
  dsk k hk := (hb _ (.inr (.inr (.inr ⟨_, List.getElem_mem hk, .inl rfl⟩)))).trans (h.dsk k hk)
  flu k hk := (hb _ (.inr (.inr (.inr ⟨_, List.getElem_mem hk, .inr (.inl rfl)⟩)))).trans (h.flu k hk)
  new k hk := (hb _ (.inr (.inr (.inr ⟨_, List.getElem_mem hk, .inr (.inr rfl)⟩)))).trans (h.new k hk)
  dd := h.dd
  dn := h.dn
theorem RefD.kept (h : RefD w Y T) (hk : Kept w w') : RefD w' Y T := h.same fun b hb => hk.block_eq (h.lt hb)
end
section
variable {w : World}
set_option maxHeartbeats 1000000
set_option maxRecDepth 100000
theorem ref_New (w : World) : Calls Try.prog 47 #[] w fun e w' => ∃ Y : RLay, e = .returned (.pointer (some ⟨Y.q, 0, none⟩)) ∧ RefD w' Y RT.zero ∧ (∀ b, Y.In b → w.heap.size ≤ b) ∧ Kept w w' := by
  go_enter Try.func47, Try.ntmps47
  go_wp2
  go_ret
  refine ⟨⟨w.heap.size, [], .slice none 0 0, .slice none 0 0⟩, rfl, ⟨heap_alloc_new w _, rfl, World.ownsRow_nil _ _ _ _, World.ownsRow_nil _ _ _ _, fun k hk => absurd hk (Nat.not_lt_zero _), fun k hk => absurd hk (Nat.not_lt_zero _), fun k hk => absurd hk (Nat.not_lt_zero _), List.nodup_nil, List.nodup_nil⟩, fun b hb => ?_, (Kept.refl w).alloc _⟩
  rcases hb with rfl | hb | hb | ⟨d, hd, _⟩
  · exact Nat.le_refl _
  · cases hb
  · cases hb
  · cases hd
end
/-- a law's own one; R: the law's other blocks -/
def RK (w0 : World) (R : Nat → Prop) (W : World) (q : Nat) (T : RT) : Prop := ∃ Y : RLay, Y.q = q ∧ RefD W Y T ∧ Kept w0 W ∧ (∀ b, Y.In b → w0.heap.size ≤ b) ∧ ∀ k, R k → k < W.heap.size ∧ ¬ Y.In k
section
variable {w0 W W' : World} {R : Nat → Prop} {q : Nat} {T : RT}
theorem RK.keeps (h : RK w0 R W q T) : Kept w0 W := by obtain ⟨_, _, _, h, _⟩ := h; exact h
theorem RK.kept (h : RK w0 R W q T) (hk : Kept W W') : RK w0 R W' q T ∧ SameR R W W' := by
  obtain ⟨Y, h0, hd, hkk, ho, hr⟩ := h
  exact ⟨⟨Y, h0, hd.kept hk, hkk.trans hk, ho, fun k hk' => ⟨Nat.lt_of_lt_of_le (hr k hk').1 hk.size, (hr k hk').2⟩⟩, fun k hk' => hk.block_eq (hr k hk').1⟩
theorem RK.less {R' : Nat → Prop} (h : RK w0 R W q T) (hr : ∀ k, R' k → R k) : RK w0 R' W q T := by
  obtain ⟨Y, h0, hd, hkk, ho, hr0⟩ := h
  exact ⟨Y, h0, hd, hkk, ho, fun k hk => hr0 k (hr k hk)⟩
theorem rk_New (w0 W : World) (R : Nat → Prop) (hk : Kept w0 W) (hR : ∀ k, R k → k < W.heap.size) : Calls Try.prog 47 #[] W fun e w' => ∃ q, e = .returned (.pointer (some ⟨q, 0, none⟩)) ∧ RK w0 R w' q RT.zero ∧ Kept W w' :=
  (ref_New W).mono fun e w' ⟨Y, he, hd, ho, hk'⟩ => ⟨Y.q, he, ⟨Y, rfl, hd, hk.trans hk', fun b hb => Nat.le_trans hk.size (ho b hb), fun k hk2 => ⟨Nat.lt_of_lt_of_le (hR k hk2) hk'.size, fun hi => by have := ho k hi; have := hR k hk2; omega⟩⟩, hk'⟩
end
section
variable {P : Program} {ops : Array Oper} {Q : Exit → Act → World → Prop} {md : Region.Mode} {S : World → Prop} {s : Nat}
/-- two rows made in whatever order -/
theorem wpAnyE_makes2 {i j : Nat} {oi oj : Oper} {di dj mi mj n : Nat} {ei ej : TypeId} {Ci Cj : List Value} {fuel : Nat} {L0 Li Lj L2 : Array Bool} {A : Act} {w : World}
    (hoi : ops[i]? = some oi) (hoj : ops[j]? = some oj) (r0 : Region.ready md ops L0 = [i, j])
    (ei1 : L0.setIfInBounds i true = Li) (ej1 : L0.setIfInBounds j true = Lj) (ri : Region.ready md ops Li = [j]) (rj : Region.ready md ops Lj = [i])
    (eij : Li.setIfInBounds j true = L2) (eji : Lj.setIfInBounds i true = L2)
    (Mi : Makes P oi di mi n ei Ci) (Mj : Makes P oj dj mj n ej Cj) (hn : n ≤ 1000000)
    (vi : A.eval (.tmp mi) = .int .i64 (n : Int)) (vj : A.eval (.tmp mj) = .int .i64 (n : Int))
    (nd : di ≠ dj ∧ di ≠ mj ∧ dj ≠ mi) (hS : ∀ w', Kept w w' → S w')
    (H : ∀ (p q : Nat) (w3 : World), w.heap.size ≤ p → w.heap.size ≤ q → p ≠ q → w3.heap[p]? = some (.cells Ci.toArray ei (0, 0)) → w3.heap[q]? = some (.cells Cj.toArray ej (0, 0)) → Kept w w3 →
      wpAnyE P md ops Q S s fuel L2 ((A.put (some di) (.slice (some ⟨p, 0, none⟩) n n)).put (some dj) (.slice (some ⟨q, 0, none⟩) n n)) w3) :
    wpAnyE P md ops Q S s (fuel + 2) L0 A w := by
  obtain ⟨n1, n4, n6⟩ := nd
  refine wpAnyE_step r0 (by simp) fun x hx => ?_
  simp only [List.mem_cons, List.mem_nil_iff, or_false] at hx
  rcases hx with rfl | rfl
  · refine ⟨oi, hoi, Mi.g, fun K hK => Mi.wp hn vi fun w1 b1 k1 s1 => hK _ _ (fun _ => hS _ k1) ?_⟩
    rw [ei1]
    refine wpAnyE_step ri (by simp) fun y hy => ?_
    obtain rfl : y = j := by simpa using hy
    refine ⟨oj, hoj, Mj.g, fun K hK => Mj.wp hn ((put_eval A n4 _).trans vj) fun w2 b2 k2 s2 => hK _ _ (fun _ => hS _ (k1.trans k2)) ?_⟩
    rw [eij]
    exact H _ _ w2 (by omega) (by omega) (by omega) (k2.block b1) b2 (k1.trans k2)
  · refine ⟨oj, hoj, Mj.g, fun K hK => Mj.wp hn vj fun w1 b1 k1 s1 => hK _ _ (fun _ => hS _ k1) ?_⟩
    rw [ej1]
    refine wpAnyE_step rj (by simp) fun y hy => ?_
    obtain rfl : y = i := by simpa using hy
    refine ⟨oi, hoi, Mi.g, fun K hK => Mi.wp hn ((put_eval A n6 _).trans vi) fun w2 b2 k2 s2 => hK _ _ (fun _ => hS _ (k1.trans k2)) ?_⟩
    rw [eji, put_comm A n1.symm]
    exact H _ _ w2 (by omega) (by omega) (by omega) b2 (k2.block b1) (k1.trans k2)
end
theorem ty_rptrs : ElemT Try.prog 87 130 1 8 := by
  refine ⟨Try.underlying87, ?_, by decide⟩
  have h1 : (Try.prog.info? 130).map (fun i => (i.zero, i.size, i.bytes)) = some (some (.pointer none), 1, 8) := by kernel_rfl
  cases hi : Try.prog.info? 130 with
  | none => simp [hi] at h1
  | some i =>
    simp [hi] at h1
    exact ⟨i, _, rfl, h1.1, h1.2.1, h1.2.2, rfl⟩
theorem size_rptrs : (Try.prog.info? 87).map (·.size) = some 1 := by kernel_rfl
theorem RT.add_len (T : RT) (n : Nat) : (T.add n).l.length = T.l.length + 1 := by simp [RT.add]
theorem RT.add_old (T : RT) (n : Nat) {k : Nat} (hk : k < T.l.length) : (T.add n).d k = T.d k := by
  unfold RT.add RT.d
  rw [List.getD_eq_getElem?_getD, List.getD_eq_getElem?_getD, List.getElem?_append_left hk]
theorem RT.add_new (T : RT) (n : Nat) : (T.add n).d T.l.length = RMed.fresh n := by
  unfold RT.add RT.d
  rw [List.getD_eq_getElem?_getD, List.getElem?_append_right (Nat.le_refl _)]; simp
theorem block_ty {w : World} {a b : Nat} {cs cs' : Array Value} {t t' : TypeId} (ha : w.heap[a]? = some (.cells cs t (0, 0))) (hb : w.heap[b]? = some (.cells cs' t' (0, 0))) (ht : t ≠ t') : a ≠ b := by
  rintro rfl
  rw [ha] at hb
  injection hb with hb
  injection hb with _ hb
  exact ht hb
section
variable {w w5 w6 w7 : World} {Y : RLay} {T : RT} {n m p q : Nat} {v' : Value}
theorem RefD.more (h : RefD w Y T) (HK : Kept w w5) (hm : w.heap.size ≤ m) (hp : w.heap.size ≤ p) (hq : w.heap.size ≤ q) (hpq : p ≠ q)
    (BM : w5.heap[m]? = some (.cells #[.slice (some ⟨p, 0, none⟩) n n, .slice (some ⟨q, 0, none⟩) n n, .bool false, .int .i64 0] 132 (0, 0)))
    (BP : w5.heap[p]? = some (.cells (secs (List.replicate n zeroB)).toArray 36 (0, 0)))
    (BQ : w5.heap[q]? = some (.cells (secs (List.replicate n zeroB)).toArray 36 (0, 0)))
    (HL : w6.ownsRow 0 130 1 v' (Y.D.length + 1) (rptrs Y.D ++ [.pointer (some ⟨m, 0, none⟩)])) (HG : Grw w5 w6 Y.Lv v')
    (HW : Wrote w6 w7 Y.q ((rbank Y T).set 0 v') 90) :
    ∃ Y' : RLay, RefD w7 Y' (T.add n) ∧ Y'.q = Y.q ∧ (∀ b, Y'.In b → Y.In b ∨ w.heap.size ≤ b) ∧ But Y.In w w7 := by
  have h5 := h.kept HK
  have hv : ∀ g, v'.ownBlock = some g → Y.Lv.ownBlock = some g ∨ w5.heap.size ≤ g := fun g hg => by
    rcases HG with ⟨e, _⟩ | ⟨g', e, hge, _, _⟩
    · exact .inl (e ▸ hg)
    · rw [e] at hg; injection hg with hg; exact .inr (hg ▸ hge)
  have k6 : ∀ {b : Nat}, b < w5.heap.size → Y.Lv.ownBlock ≠ some b → w6.heap[b]? = w5.heap[b]? := fun hb hn => HG.blk hb hn
  have b6 : w6.heap[Y.q]? = w5.heap[Y.q]? := k6 (h5.lt (.inl rfl)) (own_other h5.lst h5.bank (by decide))
  have hvq : v'.ownBlock ≠ some Y.q := own_other HL (b6.trans h5.bank) (by decide)
  have fwd : ∀ {b : Nat} {cs : Array Value} {t : TypeId}, w5.heap[b]? = some (.cells cs t (0, 0)) → t ≠ 130 → t ≠ 90 → w7.heap[b]? = some (.cells cs t (0, 0)) := fun hb h1 h2 => by
    have hne : _ ≠ Y.q := block_ty hb h5.bank h2
    rw [HW.oth _ hne, k6 (Array.getElem?_eq_some_iff.1 hb).1 (own_other h5.lst hb h1)]; exact hb
  have sz5 := HK.size
  have ml : m < w5.heap.size := (Array.getElem?_eq_some_iff.1 BM).1
  have old : ∀ d ∈ Y.D, d.1 < w.heap.size ∧ d.2.1 < w.heap.size ∧ d.2.2 < w.heap.size := fun d hd => ⟨h.lt (.inr (.inr (.inr ⟨d, hd, .inl rfl⟩))), h.lt (.inr (.inr (.inr ⟨d, hd, .inr (.inl rfl)⟩))), h.lt (.inr (.inr (.inr ⟨d, hd, .inr (.inr rfl)⟩)))⟩
  have hlen := h.len
  have hget : ∀ k (hk : k < (Y.D ++ [(m, p, q)]).length), (k < Y.D.length ∧ ∃ hk', (Y.D ++ [(m, p, q)])[k] = Y.D[k]'hk') ∨ (k = Y.D.length ∧ (Y.D ++ [(m, p, q)])[k] = (m, p, q)) := fun k hk => by
    by_cases e : k < Y.D.length
    · exact .inl ⟨e, e, List.getElem_append_left e⟩
    · have : k = Y.D.length := by simp at hk; omega
      subst this
      exact .inr ⟨rfl, by simp⟩
  refine ⟨⟨Y.q, Y.D ++ [(m, p, q)], v', Y.lv⟩, ⟨?_, by simp [RT.add_len, hlen], ?_, ?_, fun k hk => ?_, fun k hk => ?_, fun k hk => ?_, ?_, ?_⟩, rfl, ?_, ?_⟩
  · rw [HW.blk]; rfl
  · have := own_same HL (w' := w7) fun g hg => HW.oth g (fun e => hvq (e ▸ hg))
    simpa [rptrs] using this
  · have hlo : Y.lv.ownBlock ≠ some Y.q := own_other h5.loo h5.bank (by decide)
    refine own_same h5.loo fun g hg => ?_
    have hgq : g ≠ Y.q := fun e => hlo (e ▸ hg)
    rw [HW.oth g hgq]
    refine k6 (own_lt h5.loo hg) ?_
    rcases h5.loo.2 with ⟨e, _⟩ | ⟨g', cap, cur, e, _, hh, _⟩
    · rw [e] at hg; cases hg
    · rw [e] at hg
      simp only [Value.ownBlock, Option.some.injEq] at hg
      subst hg
      exact own_other h5.lst hh (by decide)
  · rcases hget k hk with ⟨e, hk', e2⟩ | ⟨e, e2⟩
    · show w7.heap[(Y.D ++ [(m, p, q)])[k].1]? = some (.cells (rmed (Y.D ++ [(m, p, q)])[k] _).toArray _ _)
      rw [e2, RT.add_old T n (by omega)]; exact fwd (h5.dsk k e) (by decide) (by decide)
    · show w7.heap[(Y.D ++ [(m, p, q)])[k].1]? = some (.cells (rmed (Y.D ++ [(m, p, q)])[k] _).toArray _ _)
      rw [e2, e, hlen, RT.add_new, fwd BM (by decide) (by decide)]
      simp [rmed, RMed.fresh]
  · rcases hget k hk with ⟨e, hk', e2⟩ | ⟨e, e2⟩
    · show w7.heap[(Y.D ++ [(m, p, q)])[k].2.1]? = _
      rw [e2, RT.add_old T n (by omega)]; exact fwd (h5.flu k e) (by decide) (by decide)
    · show w7.heap[(Y.D ++ [(m, p, q)])[k].2.1]? = _
      rw [e2, e, hlen, RT.add_new, fwd BP (by decide) (by decide)]; rfl
  · rcases hget k hk with ⟨e, hk', e2⟩ | ⟨e, e2⟩
    · show w7.heap[(Y.D ++ [(m, p, q)])[k].2.2]? = _
      rw [e2, RT.add_old T n (by omega)]; exact fwd (h5.new k e) (by decide) (by decide)
    · show w7.heap[(Y.D ++ [(m, p, q)])[k].2.2]? = _
      rw [e2, e, hlen, RT.add_new, fwd BQ (by decide) (by decide)]; rfl
  · rw [List.map_append, List.nodup_append]
    refine ⟨h.dd, by simp, fun a ha b hb => ?_⟩
    obtain ⟨d, hd, rfl⟩ := List.mem_map.1 ha
    have := (old d hd).1
    simp at hb
    omega
  · rw [List.flatMap_append, List.nodup_append]
    refine ⟨h.dn, by simp [hpq], fun a ha b hb => ?_⟩
    obtain ⟨d, hd, ha⟩ := List.mem_flatMap.1 ha
    have := old d hd
    simp at ha hb
    omega
  · rintro b (hb | hb | hb | ⟨d, hd, hb⟩)
    · exact .inl (.inl hb)
    · rcases hv b hb with hb' | hb'
      · exact .inl (.inr (.inl hb'))
      · exact .inr (by omega)
    · exact .inl (.inr (.inr (.inl hb)))
    · rcases List.mem_append.1 hd with hd | hd
      · exact .inl (.inr (.inr (.inr ⟨d, hd, hb⟩)))
      · simp at hd; subst hd
        right
        rcases hb with rfl | rfl | rfl
        · exact hm
        · exact hp
        · exact hq
  · have hG6 : But Y.In w5 w6 := by
      rcases HG with ⟨_, hb⟩ | ⟨_, _, _, _, hk⟩
      · exact hb.mono fun i hi => .inr (.inl hi)
      · exact But.kept hk
    exact ((But.kept (S := Y.In) HK).trans hG6).trans (But.wrote (S := Y.In) HW (.inl rfl))
end
section
variable {w : World} {Y : RLay} {T : RT}
set_option maxHeartbeats 1000000
set_option maxRecDepth 100000
theorem ref_Add (h : RefD w Y T) (hl : T.l.length < 32) (n : Nat) (hn1 : 1 ≤ n) (hn2 : n ≤ 4096) :
    Calls Try.prog 48 #[.pointer (some ⟨Y.q, 0, none⟩), .int .i64 (n : Int)] w fun e w' =>
      e = .returned (.tuple #[.int .i64 (T.l.length : Int), .int .i64 0]) ∧ ∃ Y' : RLay, RefD w' Y' (T.add n) ∧ Y'.q = Y.q ∧ (∀ b, Y'.In b → Y.In b ∨ w.heap.size ≤ b) ∧ But Y.In w w' := by
  obtain ⟨ao, cap, hli⟩ : ∃ ao cap, Y.Lv = .slice ao Y.D.length cap := by
    rcases h.lst.2 with ⟨e, h0⟩ | ⟨g, cap, cur, e, _⟩
    · exact ⟨none, 0, by rw [e, h0]⟩
    · exact ⟨_, cap, e⟩
  have b0 : w.cell? ⟨Y.q, 0, none⟩ = some (.slice ao Y.D.length cap) := by
    rw [cell_of_row _ _ _ _ _ _ h.bank]; simp [rbank, hli]
  have hDl : Y.D.length < 32 := by rw [h.len]; exact hl
  have hTl := h.len
  have H := Lib.hid h
  have HLI := Lib.hid hli
  have HTL := Lib.hid hTl
  clear h hli hTl hl
  rw [← HTL.out]
  generalize hdl : Y.D.length = dl at *
  have HDL := Lib.hid hdl; clear hdl
  go_enter Try.func48, Try.ntmps48
  go_upto_region 5 with fail
  have hS : w.drew.cell? ⟨Y.q, 0, none⟩ = some (.slice ao dl cap) := b0
  refine wp_region_calm ?_
  refine wp_region_E (fun W => W.cell? ⟨Y.q, 0, none⟩ = some (.slice ao dl cap)) 15 (by kernel_rfl) ?_
  refine wpAnyE_take (i := 0) (v := ?_) (listed' := #[true, false, false, false, false, false, false, false, false, false, false, false, false, false, false, false]) (by rfl) (by kernel_rfl) (by kernel_rfl) calm_put hS (by rfl) ?_ ?_
  rotate_left
  · intro W hW; clear hW; go_simp; try (with_reducible rfl)
  simp only [Act.put, List.getElem_toArray, List.getElem_cons_succ, List.getElem_cons_zero, List.setIfInBounds_toArray, List.set_cons_zero, List.set_cons_succ]
  refine wpAnyE_take (i := 1) (v := ?_) (listed' := #[true, true, false, false, false, false, false, false, false, false, false, false, false, false, false, false]) (by rfl) (by kernel_rfl) (by kernel_rfl) calm_put hS (by rfl) ?_ ?_
  rotate_left
  · intro W hW; clear hW; go_simp; try (with_reducible rfl)
  simp only [Act.put, List.getElem_toArray, List.getElem_cons_succ, List.getElem_cons_zero, List.setIfInBounds_toArray, List.set_cons_zero, List.set_cons_succ]
  refine wpAnyE_take (i := 2) (v := ?_) (listed' := #[true, true, true, false, false, false, false, false, false, false, false, false, false, false, false, false]) (by rfl) (by kernel_rfl) (by kernel_rfl) calm_put hS (by rfl) ?_ ?_
  rotate_left
  · intro W hW; clear hW; go_simp; try (with_reducible rfl)
  simp only [Act.put, List.getElem_toArray, List.getElem_cons_succ, List.getElem_cons_zero, List.setIfInBounds_toArray, List.set_cons_zero, List.set_cons_succ]
  refine wpAnyE_take (i := 3) (v := ?_) (listed' := #[true, true, true, true, false, false, false, false, false, false, false, false, false, false, false, false]) (by rfl) (by kernel_rfl) (by kernel_rfl) calm_put hS (by rfl) ?_ ?_
  rotate_left
  · intro W hW; clear hW; go_simp; try (with_reducible rfl)
  simp only [Act.put, List.getElem_toArray, List.getElem_cons_succ, List.getElem_cons_zero, List.setIfInBounds_toArray, List.set_cons_zero, List.set_cons_succ]
  refine wpAnyE_take (i := 4) (v := ?_) (listed' := #[true, true, true, true, true, false, false, false, false, false, false, false, false, false, false, false]) (by rfl) (by kernel_rfl) (by kernel_rfl) calm_put hS (by rfl) ?_ ?_
  rotate_left
  · intro W hW; have c0 := hW; go_simp; try (with_reducible rfl)
  simp only [Act.put, List.getElem_toArray, List.getElem_cons_succ, List.getElem_cons_zero, List.setIfInBounds_toArray, List.set_cons_zero, List.set_cons_succ]
  refine wpAnyE_take (i := 5) (v := ?_) (listed' := #[true, true, true, true, true, true, false, false, false, false, false, false, false, false, false, false]) (by rfl) (by kernel_rfl) (by kernel_rfl) calm_put hS (by rfl) ?_ ?_
  rotate_left
  · intro W hW; clear hW; go_simp; try (with_reducible rfl)
  simp only [Act.put, List.getElem_toArray, List.getElem_cons_succ, List.getElem_cons_zero, List.setIfInBounds_toArray, List.set_cons_zero, List.set_cons_succ]
  refine wpAnyE_take (i := 7) (v := ?_) (listed' := #[true, true, true, true, true, true, false, true, false, false, false, false, false, false, false, false]) (by rfl) (by kernel_rfl) (by kernel_rfl) calm_put hS (by rfl) ?_ ?_
  rotate_left
  · intro W hW; clear hW; go_simp; try (with_reducible rfl)
  simp only [Act.put, List.getElem_toArray, List.getElem_cons_succ, List.getElem_cons_zero, List.setIfInBounds_toArray, List.set_cons_zero, List.set_cons_succ]
  refine wpAnyE_makes2 (i := 6) (j := 8) (di := 24) (dj := 26) (mi := 23) (mj := 25) (n := n) (Li := #[true, true, true, true, true, true, true, true, false, false, false, false, false, false, false, false]) (Lj := #[true, true, true, true, true, true, false, true, true, false, false, false, false, false, false, false]) (L2 := #[true, true, true, true, true, true, true, true, true, false, false, false, false, false, false, false]) rfl rfl (by kernel_rfl) rfl rfl (by kernel_rfl) (by kernel_rfl) rfl rfl (makes_secs rfl rfl rfl hn2) (makes_secs rfl rfl rfl hn2) (by omega) rfl rfl (by decide) (fun w' hk => hk.cell' hS) ?_
  intro p q w3 hp hq hpq bp bq hk3
  simp only [Act.put, List.getElem_toArray, List.getElem_cons_succ, List.getElem_cons_zero, List.setIfInBounds_toArray, List.set_cons_zero, List.set_cons_succ]
  have hS3 : w3.cell? ⟨Y.q, 0, none⟩ = some (.slice ao dl cap) := hk3.cell' hS
  obtain ⟨A, hA⟩ : ∃ A, A = Obj.cells #[Value.slice (some ⟨p, 0, none⟩) n n, .slice (some ⟨q, 0, none⟩) n n, .bool false, .int .i64 0] 132 := ⟨_, rfl⟩
  obtain ⟨B, hB⟩ : ∃ B, B = Obj.cells #[Value.pointer (some ⟨w3.heap.size, 0, none⟩)] 130 := ⟨_, rfl⟩
  obtain ⟨w5, hw5⟩ : ∃ w5, w5 = (w3.alloc A).alloc B := ⟨_, rfl⟩
  have hk5 : Kept w3 w5 := by rw [hw5]; exact ((Kept.refl w3).alloc _).alloc _
  have bm : w5.heap[w3.heap.size]? = some A := by rw [hw5]; exact ((Kept.refl (w3.alloc A)).alloc B).block (heap_alloc_new w3 A)
  have bb : w5.heap[w3.heap.size + 1]? = some B := by rw [hw5]; have := heap_alloc_new (w3.alloc A) B; rwa [World.size_alloc] at this
  rw [hB] at bb
  rw [hA] at bm
  subst hA hB
  have hk3' : Kept w w3 := ((Kept.refl w).drew).trans hk3
  have hsz3 := hk3'.size
  have h5 := H.out.kept (hk3'.trans hk5)
  obtain ⟨v', w6, hrun, hown, hgrw⟩ := own_append ty_rptrs (b := w3.heap.size + 1) h5.lst (by rw [HDL.out]; omega) (by decide) [.pointer (some ⟨w3.heap.size, 0, none⟩)] rfl (fun j u hu => by
    match j with
    | 0 => simp at hu; subst hu; exact one_cell bb
    | j + 1 => simp at hu) (by intro u hu; simp at hu; subst hu; rfl) 87
  have h6q : Y.Lv.ownBlock ≠ some Y.q := own_other h5.lst h5.bank (by decide)
  have hq6 : w6.heap[Y.q]? = w5.heap[Y.q]? := hgrw.blk (h5.lt (.inl rfl)) h6q
  have hS6 : w6.cell? ⟨Y.q, 0, none⟩ = some (.slice ao dl cap) := (World.cell?_of_block (a := ⟨Y.q, 0, none⟩) hq6).trans (hk5.cell' hS3)
  have HB6 := Lib.hid (hq6.trans h5.bank)
  obtain ⟨bo, cap', hvf⟩ : ∃ bo cap', v' = .slice bo (dl + 1) cap' := by
    rcases hown.2 with ⟨_, h0⟩ | ⟨g, c, cur, e, _⟩
    · omega
    · exact ⟨_, c, by rw [e, HDL.out]⟩
  have BP := Lib.hid (hk5.block bp); have BQ := Lib.hid (hk5.block bq); have BM := Lib.hid bm
  have HOWN := Lib.hid hown; have HGRW := Lib.hid hgrw; have HVF := Lib.hid hvf
  have HK := Lib.hid (hk3'.trans hk5)
  clear bp bq bm bb hk3 hk3' hk5 b0 h5 h6q hq6 hown hgrw hvf
  change w.heap.size ≤ p at hp
  change w.heap.size ≤ q at hq
  refine wpAnyE_take (i := 9) (v := ?_) (listed' := #[true, true, true, true, true, true, true, true, true, true, false, false, false, false, false, false]) (by rfl) (by kernel_rfl) (by kernel_rfl) calm_put hS3 (by rfl) ?_ ?_
  rotate_left
  · intro W hW; clear hW; go_simp; try (with_reducible rfl)
  simp only [Act.put, List.getElem_toArray, List.getElem_cons_succ, List.getElem_cons_zero, List.setIfInBounds_toArray, List.set_cons_zero, List.set_cons_succ]
  refine wpAnyE_one (i := 10) (listed' := #[true, true, true, true, true, true, true, true, true, true, true, false, false, false, false, false]) (by rfl) (by kernel_rfl) (by kernel_rfl) (by rfl) (fun K hK => ?_)
  simp only [Act.put, List.getElem_toArray, List.getElem_cons_succ, List.getElem_cons_zero, List.setIfInBounds_toArray, List.set_cons_zero, List.set_cons_succ]
  go_wp2
  refine hK _ _ (fun _ => ((Kept.refl _).alloc _).cell' hS3) ?_; clear hK K
  refine wpAnyE_one (i := 11) (listed' := #[true, true, true, true, true, true, true, true, true, true, true, true, false, false, false, false]) (by rfl) (by kernel_rfl) (by kernel_rfl) (by rfl) (fun K hK => ?_)
  simp only [Act.put, List.getElem_toArray, List.getElem_cons_succ, List.getElem_cons_zero, List.setIfInBounds_toArray, List.set_cons_zero, List.set_cons_succ]
  go_wp2
  refine hK _ _ (fun _ => (((Kept.refl _).alloc _).alloc _).cell' hS3) ?_; clear hK K
  rw [← hw5]
  refine wpAnyE_one (i := 12) (listed' := #[true, true, true, true, true, true, true, true, true, true, true, true, true, false, false, false]) (by rfl) (by kernel_rfl) (by kernel_rfl) (by rfl) (fun K hK => ?_)
  simp only [Act.put, List.getElem_toArray, List.getElem_cons_succ, List.getElem_cons_zero, List.setIfInBounds_toArray, List.set_cons_zero, List.set_cons_succ]
  refine wp_append_run rfl rfl rfl (by rw [HLI.out] at hrun; exact hrun) ?_
  refine hK _ _ (fun _ => hS6) ?_; clear hK K
  simp only [Act.put, List.getElem_toArray, List.getElem_cons_succ, List.getElem_cons_zero, List.setIfInBounds_toArray, List.set_cons_zero, List.set_cons_succ]
  refine wpAnyE_one (i := 13) (listed' := #[true, true, true, true, true, true, true, true, true, true, true, true, true, true, false, false]) (by rfl) (by kernel_rfl) (by kernel_rfl) (by rfl) (fun K hK => ?_)
  simp only [Act.put, List.getElem_toArray, List.getElem_cons_succ, List.getElem_cons_zero, List.setIfInBounds_toArray, List.set_cons_zero, List.set_cons_succ]
  go_wp2
  refine hK _ _ (fun _ => hS6) ?_; clear hK K
  refine wpAnyE_take (i := 14) (v := ?_) (listed' := #[true, true, true, true, true, true, true, true, true, true, true, true, true, true, true, false]) (by rfl) (by kernel_rfl) (by kernel_rfl) calm_put hS6 (by rfl) ?_ ?_
  rotate_left
  · intro W hW; clear hW; go_simp; try (with_reducible rfl)
  simp only [Act.put, List.getElem_toArray, List.getElem_cons_succ, List.getElem_cons_zero, List.setIfInBounds_toArray, List.set_cons_zero, List.set_cons_succ]
  refine wpAnyE_one (i := 15) (listed' := #[true, true, true, true, true, true, true, true, true, true, true, true, true, true, true, true]) (by rfl) (by kernel_rfl) (by kernel_rfl) (by rfl) (fun K hK => ?_)
  simp only [Act.put, List.getElem_toArray, List.getElem_cons_succ, List.getElem_cons_zero, List.setIfInBounds_toArray, List.set_cons_zero, List.set_cons_succ]
  refine wp_set_cell _ _ rfl size_rptrs Y.q 0 rfl v' rfl (by rw [HVF.out]; rfl) (by rw [HVF.out]; rfl) _ _ HB6.out (by simp [rbank]) ?_
  intro w7 hw7
  refine hK _ _ (fun h => absurd rfl h) ?_; clear hK K
  simp only [Act.put, List.getElem_toArray, List.getElem_cons_succ, List.getElem_cons_zero, List.setIfInBounds_toArray, List.set_cons_zero, List.set_cons_succ]
  refine wpAnyE_done (by kernel_rfl) ?_ _
  refine calm_normal ?_
  have c7 : w7.cell? ⟨Y.q, 0, none⟩ = some (.slice bo (dl + 1) cap') := by
    rw [cell_of_row _ _ _ _ _ _ hw7.blk, ← HVF.out]; simp [rbank]
  have HW7 := Lib.hid hw7
  clear hw7 hS hS3 hS6 hrun
  go_wp2
  go_ret2
  exact ⟨rfl, H.out.more HK.out hsz3 hp hq hpq BM.out BP.out BQ.out HOWN.out HGRW.out HW7.out⟩
end
section
variable {w0 W : World} {R : Nat → Prop} {q : Nat} {T : RT}
theorem rk_Add (h : RK w0 R W q T) (hl : T.l.length < 32) (n : Nat) (hn1 : 1 ≤ n) (hn2 : n ≤ 4096) :
    Calls Try.prog 48 #[.pointer (some ⟨q, 0, none⟩), .int .i64 (n : Int)] W fun e w' => e = .returned (.tuple #[.int .i64 (T.l.length : Int), .int .i64 0]) ∧ RK w0 R w' q (T.add n) ∧ SameR R W w' := by
  obtain ⟨Y, rfl, hd, hk, ho, hr⟩ := h
  refine (ref_Add hd hl n hn1 hn2).mono ?_
  rintro e w' ⟨he, Y', hd', h0, hin, hb⟩
  refine ⟨he, ⟨Y', h0, hd', But.to_kept hk hb ho, fun b hb' => ?_, fun k hk' => ⟨Nat.lt_of_lt_of_le (hr k hk').1 hb.size, fun hi => ?_⟩⟩, fun k hk' => hb.block k (hr k hk').1 (hr k hk').2⟩
  · rcases hin b hb' with h' | h'
    · exact ho b h'
    · exact Nat.le_trans hk.size h'
  · rcases hin k hi with h' | h'
    · exact (hr k hk').2 h'
    · have := (hr k hk').1; omega
end
end Go.Proofs.Ytcbghpcohbgcjaa
