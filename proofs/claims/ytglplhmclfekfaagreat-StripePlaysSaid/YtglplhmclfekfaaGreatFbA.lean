/- FbA: several texts in one: Rkb Rkc Rkd Rla Rlb Rlc Rld Rle Rlf. -/
import Derived.Test.YtglplhmclfekfaaGreatDlv
import Derived.Test.YtglplhmclfekfaaGreatGro
import Derived.Test.YtglplhmclfekfaaGreatFaA
import Derived.Test.YtglplhmclfekfaaGreatEA
/- The document's bank in memory: what its blocks hold. -/
namespace Go.Proofs.YtglplhmclfekfaaGreat
open Go.RowKit
set_option linter.unusedVariables false
set_option linter.unusedSimpArgs false

/-- a disk of the document -/
structure RMed where
  flu : List (List Int)
  new : List (List Int)
  dead : Bool
  fail : Int
/-- a bank of the document -/
structure RT where
  l : List RMed
  loose : List (Nat × Nat)
  down : Bool
  n : Int
  armed : Int
  mask : Int
def RMed.zero : RMed := ⟨[], [], false, 0⟩
def RMed.fresh (n : Nat) : RMed := ⟨List.replicate n zeroB, List.replicate n zeroB, false, 0⟩
def RT.zero : RT := ⟨[], [], false, 0, 0, 0⟩
def RT.d (T : RT) (k : Nat) : RMed := T.l.getD k RMed.zero
def RT.up (T : RT) (k : Nat) (m : RMed) : RT := { T with l := T.l.set k m }
def RT.add (T : RT) (n : Nat) : RT := { T with l := T.l ++ [RMed.fresh n] }
def pvals (L : List (Nat × Nat)) : List Value := L.flatMap fun p => [.int .i64 (p.1 : Int), .int .i64 (p.2 : Int)]
/-- where a bank's blocks lie: its own; for each disk: it, flushed, newest; both slices -/
structure RLay where
  q : Nat
  D : List (Nat × Nat × Nat)
  Lv : Value
  lv : Value
def rptrs (D : List (Nat × Nat × Nat)) : List Value := D.map fun d => .pointer (some ⟨d.1, 0, none⟩)
def rbank (Y : RLay) (T : RT) : List Value := [Y.Lv, Y.lv, .bool T.down, .int .i64 T.n, .int .i64 T.armed, .int .u64 T.mask]
def rmed (d : Nat × Nat × Nat) (m : RMed) : List Value := [.slice (some ⟨d.2.1, 0, none⟩) m.new.length m.new.length, .slice (some ⟨d.2.2, 0, none⟩) m.new.length m.new.length, .bool m.dead, .int .i64 m.fail]
structure RMed.Ok (m : RMed) : Prop where
  flu : IsSecs m.new.length m.flu
  new : IsSecs m.new.length m.new
  len : m.new.length ≤ 4096
  fail : 0 ≤ m.fail ∧ m.fail < 9223372036854775808
structure RT.Ok (T : RT) : Prop where
  len : T.l.length ≤ 32
  med : ∀ m ∈ T.l, m.Ok
  loose : ∀ p ∈ T.loose, p.1 < T.l.length ∧ p.2 < (T.d p.1).new.length
  many : T.loose.length ≤ 10000
structure RefD (w : World) (Y : RLay) (T : RT) : Prop where
  bank : w.heap[Y.q]? = some (.cells (rbank Y T).toArray 41 (0, 0))
  len : Y.D.length = T.l.length
  lst : w.ownsRow 0 61 1 Y.Lv Y.D.length (rptrs Y.D)
  loo : w.ownsRow 0 47 2 Y.lv T.loose.length (pvals T.loose)
  dsk : ∀ k (h : k < Y.D.length), w.heap[Y.D[k].1]? = some (.cells (rmed Y.D[k] (T.d k)).toArray 63 (0, 0))
  flu : ∀ k (h : k < Y.D.length), w.heap[Y.D[k].2.1]? = some (.cells (secs (T.d k).flu).toArray 43 (0, 0))
  new : ∀ k (h : k < Y.D.length), w.heap[Y.D[k].2.2]? = some (.cells (secs (T.d k).new).toArray 43 (0, 0))
  dd : (Y.D.map fun d => d.1).Nodup
  dn : (Y.D.flatMap fun d => [d.2.1, d.2.2]).Nodup
/-- block b is one of the bank's -/
def RLay.In (Y : RLay) (b : Nat) : Prop := b = Y.q ∨ Y.Lv.ownBlock = some b ∨ Y.lv.ownBlock = some b ∨ ∃ d ∈ Y.D, b = d.1 ∨ b = d.2.1 ∨ b = d.2.2
section
variable {w w' : World} {Y : RLay} {T : RT}
theorem RefD.lt (h : RefD w Y T) {b : Nat} (hb : Y.In b) : b < w.heap.size := by
  have key : ∀ {o : Obj} {b : Nat}, w.heap[b]? = some o → b < w.heap.size := fun h => (Array.getElem?_eq_some_iff.1 h).1
  rcases hb with rfl | hb | hb | ⟨d, hd, hb⟩
  · exact key h.bank
  · exact own_lt h.lst hb
  · exact own_lt h.loo hb
  · obtain ⟨k, hk, rfl⟩ := List.getElem_of_mem hd
    rcases hb with rfl | rfl | rfl
    · exact key (h.dsk k hk)
    · exact key (h.flu k hk)
    · exact key (h.new k hk)
theorem RefD.same (h : RefD w Y T) (hb : ∀ b, Y.In b → w'.heap[b]? = w.heap[b]?) : RefD w' Y T where
  bank := (hb _ (.inl rfl)).trans h.bank
  len := h.len
  lst := own_same h.lst fun g hg => hb g (.inr (.inl hg))
  loo := own_same h.loo fun g hg => hb g (.inr (.inr (.inl hg)))
  dsk k hk := (hb _ (.inr (.inr (.inr ⟨_, List.getElem_mem hk, .inl rfl⟩)))).trans (h.dsk k hk)
  flu k hk := (hb _ (.inr (.inr (.inr ⟨_, List.getElem_mem hk, .inr (.inl rfl)⟩)))).trans (h.flu k hk)
  new k hk := (hb _ (.inr (.inr (.inr ⟨_, List.getElem_mem hk, .inr (.inr rfl)⟩)))).trans (h.new k hk)
  dd := h.dd
  dn := h.dn
theorem RefD.kept (h : RefD w Y T) (hk : Kept w w') : RefD w' Y T := h.same fun b hb => hk.block_eq (h.lt hb)
end
section
variable {w : World}
set_option maxHeartbeats 1000000
set_option maxRecDepth 100000
theorem ref_New (w : World) : Calls Tryz.prog 6 #[] w fun e w' => ∃ Y : RLay, e = .returned (.pointer (some ⟨Y.q, 0, none⟩)) ∧ RefD w' Y RT.zero ∧ (∀ b, Y.In b → w.heap.size ≤ b) ∧ Kept w w' := by
  go_enter Tryz.func6, Tryz.ntmps6
  go_wp2
  go_ret
  refine ⟨⟨w.heap.size, [], .slice none 0 0, .slice none 0 0⟩, rfl, ⟨heap_alloc_new w _, rfl, World.ownsRow_nil _ _ _ _, World.ownsRow_nil _ _ _ _, fun k hk => absurd hk (Nat.not_lt_zero _), fun k hk => absurd hk (Nat.not_lt_zero _), fun k hk => absurd hk (Nat.not_lt_zero _), List.nodup_nil, List.nodup_nil⟩, fun b hb => ?_, (Kept.refl w).alloc _⟩
  rcases hb with rfl | hb | hb | ⟨d, hd, _⟩
  · exact Nat.le_refl _
  · cases hb
  · cases hb
  · cases hd
end
/-- a law's own one; R: the law's other blocks -/
def RK (w0 : World) (R : Nat → Prop) (W : World) (q : Nat) (T : RT) : Prop := ∃ Y : RLay, Y.q = q ∧ RefD W Y T ∧ Kept w0 W ∧ (∀ b, Y.In b → w0.heap.size ≤ b) ∧ ∀ k, R k → k < W.heap.size ∧ ¬ Y.In k
section
variable {w0 W W' : World} {R : Nat → Prop} {q : Nat} {T : RT}
theorem RK.keeps (h : RK w0 R W q T) : Kept w0 W := by obtain ⟨_, _, _, h, _⟩ := h; exact h
theorem RK.kept (h : RK w0 R W q T) (hk : Kept W W') : RK w0 R W' q T ∧ SameR R W W' := by
  obtain ⟨Y, h0, hd, hkk, ho, hr⟩ := h
  exact ⟨⟨Y, h0, hd.kept hk, hkk.trans hk, ho, fun k hk' => ⟨Nat.lt_of_lt_of_le (hr k hk').1 hk.size, (hr k hk').2⟩⟩, fun k hk' => hk.block_eq (hr k hk').1⟩
theorem RK.less {R' : Nat → Prop} (h : RK w0 R W q T) (hr : ∀ k, R' k → R k) : RK w0 R' W q T := by
  obtain ⟨Y, h0, hd, hkk, ho, hr0⟩ := h
  exact ⟨Y, h0, hd, hkk, ho, fun k hk => hr0 k (hr k hk)⟩
theorem rk_New (w0 W : World) (R : Nat → Prop) (hk : Kept w0 W) (hR : ∀ k, R k → k < W.heap.size) : Calls Tryz.prog 6 #[] W fun e w' => ∃ q, e = .returned (.pointer (some ⟨q, 0, none⟩)) ∧ RK w0 R w' q RT.zero ∧ Kept W w' :=
  (ref_New W).mono fun e w' ⟨Y, he, hd, ho, hk'⟩ => ⟨Y.q, he, ⟨Y, rfl, hd, hk.trans hk', fun b hb => Nat.le_trans hk.size (ho b hb), fun k hk2 => ⟨Nat.lt_of_lt_of_le (hR k hk2) hk'.size, fun hi => by have := ho k hi; have := hR k hk2; omega⟩⟩, hk'⟩
end
section
variable {P : Program} {ops : Array Oper} {Q : Exit → Act → World → Prop} {md : Region.Mode} {S : World → Prop} {s : Nat}
/-- two rows made in whatever order -/
theorem wpAnyE_makes2 {i j : Nat} {oi oj : Oper} {di dj mi mj n : Nat} {ei ej : TypeId} {Ci Cj : List Value} {fuel : Nat} {L0 Li Lj L2 : Array Bool} {A : Act} {w : World}
    (hoi : ops[i]? = some oi) (hoj : ops[j]? = some oj) (r0 : Region.ready md ops L0 = [i, j])
    (ei1 : L0.setIfInBounds i true = Li) (ej1 : L0.setIfInBounds j true = Lj) (ri : Region.ready md ops Li = [j]) (rj : Region.ready md ops Lj = [i])
    (eij : Li.setIfInBounds j true = L2) (eji : Lj.setIfInBounds i true = L2)
    (Mi : Makes P oi di mi n ei Ci) (Mj : Makes P oj dj mj n ej Cj) (hn : n ≤ 1000000)
    (vi : A.eval (.tmp mi) = .int .i64 (n : Int)) (vj : A.eval (.tmp mj) = .int .i64 (n : Int))
    (nd : di ≠ dj ∧ di ≠ mj ∧ dj ≠ mi) (hS : ∀ w', Kept w w' → S w')
    (H : ∀ (p q : Nat) (w3 : World), w.heap.size ≤ p → w.heap.size ≤ q → p ≠ q → w3.heap[p]? = some (.cells Ci.toArray ei (0, 0)) → w3.heap[q]? = some (.cells Cj.toArray ej (0, 0)) → Kept w w3 →
      wpAnyE P md ops Q S s fuel L2 ((A.put (some di) (.slice (some ⟨p, 0, none⟩) n n)).put (some dj) (.slice (some ⟨q, 0, none⟩) n n)) w3) :
    wpAnyE P md ops Q S s (fuel + 2) L0 A w := by
  obtain ⟨n1, n4, n6⟩ := nd
  refine wpAnyE_step r0 (by simp) fun x hx => ?_
  simp only [List.mem_cons, List.mem_nil_iff, or_false] at hx
  rcases hx with rfl | rfl
  · refine ⟨oi, hoi, Mi.g, fun K hK => Mi.wp hn vi fun w1 b1 k1 s1 => hK _ _ (fun _ => hS _ k1) ?_⟩
    rw [ei1]
    refine wpAnyE_step ri (by simp) fun y hy => ?_
    obtain rfl : y = j := by simpa using hy
    refine ⟨oj, hoj, Mj.g, fun K hK => Mj.wp hn ((put_eval A n4 _).trans vj) fun w2 b2 k2 s2 => hK _ _ (fun _ => hS _ (k1.trans k2)) ?_⟩
    rw [eij]
    exact H _ _ w2 (by omega) (by omega) (by omega) (k2.block b1) b2 (k1.trans k2)
  · refine ⟨oj, hoj, Mj.g, fun K hK => Mj.wp hn vj fun w1 b1 k1 s1 => hK _ _ (fun _ => hS _ k1) ?_⟩
    rw [ej1]
    refine wpAnyE_step rj (by simp) fun y hy => ?_
    obtain rfl : y = i := by simpa using hy
    refine ⟨oi, hoi, Mi.g, fun K hK => Mi.wp hn ((put_eval A n6 _).trans vi) fun w2 b2 k2 s2 => hK _ _ (fun _ => hS _ (k1.trans k2)) ?_⟩
    rw [eji, put_comm A n1.symm]
    exact H _ _ w2 (by omega) (by omega) (by omega) b2 (k2.block b1) (k1.trans k2)
end
theorem ty_rptrs : ElemT Tryz.prog 38 61 1 8 := by
  refine ⟨Tryz.underlying38, ?_, by decide⟩
  have h1 : (Tryz.prog.info? 61).map (fun i => (i.zero, i.size, i.bytes)) = some (some (.pointer none), 1, 8) := by kernel_rfl
  cases hi : Tryz.prog.info? 61 with
  | none => simp [hi] at h1
  | some i =>
    simp [hi] at h1
    exact ⟨i, _, rfl, h1.1, h1.2.1, h1.2.2, rfl⟩
theorem size_rptrs : (Tryz.prog.info? 38).map (·.size) = some 1 := by kernel_rfl
theorem RT.add_len (T : RT) (n : Nat) : (T.add n).l.length = T.l.length + 1 := by simp [RT.add]
theorem RT.add_old (T : RT) (n : Nat) {k : Nat} (hk : k < T.l.length) : (T.add n).d k = T.d k := by
  unfold RT.add RT.d
  rw [List.getD_eq_getElem?_getD, List.getD_eq_getElem?_getD, List.getElem?_append_left hk]
theorem RT.add_new (T : RT) (n : Nat) : (T.add n).d T.l.length = RMed.fresh n := by
  unfold RT.add RT.d
  rw [List.getD_eq_getElem?_getD, List.getElem?_append_right (Nat.le_refl _)]; simp
theorem block_ty {w : World} {a b : Nat} {cs cs' : Array Value} {t t' : TypeId} (ha : w.heap[a]? = some (.cells cs t (0, 0))) (hb : w.heap[b]? = some (.cells cs' t' (0, 0))) (ht : t ≠ t') : a ≠ b := by
  rintro rfl
  rw [ha] at hb
  injection hb with hb
  injection hb with _ hb
  exact ht hb
section
variable {w w5 w6 w7 : World} {Y : RLay} {T : RT} {n m p q : Nat} {v' : Value}
theorem RefD.more (h : RefD w Y T) (HK : Kept w w5) (hm : w.heap.size ≤ m) (hp : w.heap.size ≤ p) (hq : w.heap.size ≤ q) (hpq : p ≠ q)
    (BM : w5.heap[m]? = some (.cells #[.slice (some ⟨p, 0, none⟩) n n, .slice (some ⟨q, 0, none⟩) n n, .bool false, .int .i64 0] 63 (0, 0)))
    (BP : w5.heap[p]? = some (.cells (secs (List.replicate n zeroB)).toArray 43 (0, 0)))
    (BQ : w5.heap[q]? = some (.cells (secs (List.replicate n zeroB)).toArray 43 (0, 0)))
    (HL : w6.ownsRow 0 61 1 v' (Y.D.length + 1) (rptrs Y.D ++ [.pointer (some ⟨m, 0, none⟩)])) (HG : Grw w5 w6 Y.Lv v')
    (HW : Wrote w6 w7 Y.q ((rbank Y T).set 0 v') 41) :
    ∃ Y' : RLay, RefD w7 Y' (T.add n) ∧ Y'.q = Y.q ∧ (∀ b, Y'.In b → Y.In b ∨ w.heap.size ≤ b) ∧ But Y.In w w7 := by
  have h5 := h.kept HK
  have hv : ∀ g, v'.ownBlock = some g → Y.Lv.ownBlock = some g ∨ w5.heap.size ≤ g := fun g hg => by
    rcases HG with ⟨e, _⟩ | ⟨g', e, hge, _, _⟩
    · exact .inl (e ▸ hg)
    · rw [e] at hg; injection hg with hg; exact .inr (hg ▸ hge)
  have k6 : ∀ {b : Nat}, b < w5.heap.size → Y.Lv.ownBlock ≠ some b → w6.heap[b]? = w5.heap[b]? := fun hb hn => HG.blk hb hn
  have b6 : w6.heap[Y.q]? = w5.heap[Y.q]? := k6 (h5.lt (.inl rfl)) (own_other h5.lst h5.bank (by decide))
  have hvq : v'.ownBlock ≠ some Y.q := own_other HL (b6.trans h5.bank) (by decide)
  have fwd : ∀ {b : Nat} {cs : Array Value} {t : TypeId}, w5.heap[b]? = some (.cells cs t (0, 0)) → t ≠ 61 → t ≠ 41 → w7.heap[b]? = some (.cells cs t (0, 0)) := fun hb h1 h2 => by
    have hne : _ ≠ Y.q := block_ty hb h5.bank h2
    rw [HW.oth _ hne, k6 (Array.getElem?_eq_some_iff.1 hb).1 (own_other h5.lst hb h1)]; exact hb
  have sz5 := HK.size
  have ml : m < w5.heap.size := (Array.getElem?_eq_some_iff.1 BM).1
  have old : ∀ d ∈ Y.D, d.1 < w.heap.size ∧ d.2.1 < w.heap.size ∧ d.2.2 < w.heap.size := fun d hd => ⟨h.lt (.inr (.inr (.inr ⟨d, hd, .inl rfl⟩))), h.lt (.inr (.inr (.inr ⟨d, hd, .inr (.inl rfl)⟩))), h.lt (.inr (.inr (.inr ⟨d, hd, .inr (.inr rfl)⟩)))⟩
  have hlen := h.len
  have hget : ∀ k (hk : k < (Y.D ++ [(m, p, q)]).length), (k < Y.D.length ∧ ∃ hk', (Y.D ++ [(m, p, q)])[k] = Y.D[k]'hk') ∨ (k = Y.D.length ∧ (Y.D ++ [(m, p, q)])[k] = (m, p, q)) := fun k hk => by
    by_cases e : k < Y.D.length
    · exact .inl ⟨e, e, List.getElem_append_left e⟩
    · have : k = Y.D.length := by simp at hk; omega
      subst this
      exact .inr ⟨rfl, by simp⟩
  refine ⟨⟨Y.q, Y.D ++ [(m, p, q)], v', Y.lv⟩, ⟨?_, by simp [RT.add_len, hlen], ?_, ?_, fun k hk => ?_, fun k hk => ?_, fun k hk => ?_, ?_, ?_⟩, rfl, ?_, ?_⟩
  · rw [HW.blk]; rfl
  · have := own_same HL (W' := w7) fun g hg => HW.oth g (fun e => hvq (e ▸ hg))
    simpa [rptrs] using this
  · have hlo : Y.lv.ownBlock ≠ some Y.q := own_other h5.loo h5.bank (by decide)
    refine own_same h5.loo fun g hg => ?_
    have hgq : g ≠ Y.q := fun e => hlo (e ▸ hg)
    rw [HW.oth g hgq]
    refine k6 (own_lt h5.loo hg) ?_
    rcases h5.loo.2 with ⟨e, _⟩ | ⟨g', cap, cur, e, _, hh, _⟩
    · rw [e] at hg; cases hg
    · rw [e] at hg
      simp only [Value.ownBlock, Option.some.injEq] at hg
      subst hg
      exact own_other h5.lst hh (by decide)
  · rcases hget k hk with ⟨e, hk', e2⟩ | ⟨e, e2⟩
    · show w7.heap[(Y.D ++ [(m, p, q)])[k].1]? = some (.cells (rmed (Y.D ++ [(m, p, q)])[k] _).toArray _ _)
      rw [e2, RT.add_old T n (by omega)]; exact fwd (h5.dsk k e) (by decide) (by decide)
    · show w7.heap[(Y.D ++ [(m, p, q)])[k].1]? = some (.cells (rmed (Y.D ++ [(m, p, q)])[k] _).toArray _ _)
      rw [e2, e, hlen, RT.add_new, fwd BM (by decide) (by decide)]
      simp [rmed, RMed.fresh]
  · rcases hget k hk with ⟨e, hk', e2⟩ | ⟨e, e2⟩
    · show w7.heap[(Y.D ++ [(m, p, q)])[k].2.1]? = _
      rw [e2, RT.add_old T n (by omega)]; exact fwd (h5.flu k e) (by decide) (by decide)
    · show w7.heap[(Y.D ++ [(m, p, q)])[k].2.1]? = _
      rw [e2, e, hlen, RT.add_new, fwd BP (by decide) (by decide)]; rfl
  · rcases hget k hk with ⟨e, hk', e2⟩ | ⟨e, e2⟩
    · show w7.heap[(Y.D ++ [(m, p, q)])[k].2.2]? = _
      rw [e2, RT.add_old T n (by omega)]; exact fwd (h5.new k e) (by decide) (by decide)
    · show w7.heap[(Y.D ++ [(m, p, q)])[k].2.2]? = _
      rw [e2, e, hlen, RT.add_new, fwd BQ (by decide) (by decide)]; rfl
  · rw [List.map_append, List.nodup_append]
    refine ⟨h.dd, by simp, fun a ha b hb => ?_⟩
    obtain ⟨d, hd, rfl⟩ := List.mem_map.1 ha
    have := (old d hd).1
    simp at hb
    omega
  · rw [List.flatMap_append, List.nodup_append]
    refine ⟨h.dn, by simp [hpq], fun a ha b hb => ?_⟩
    obtain ⟨d, hd, ha⟩ := List.mem_flatMap.1 ha
    have := old d hd
    simp at ha hb
    omega
  · rintro b (hb | hb | hb | ⟨d, hd, hb⟩)
    · exact .inl (.inl hb)
    · rcases hv b hb with hb' | hb'
      · exact .inl (.inr (.inl hb'))
      · exact .inr (by omega)
    · exact .inl (.inr (.inr (.inl hb)))
    · rcases List.mem_append.1 hd with hd | hd
      · exact .inl (.inr (.inr (.inr ⟨d, hd, hb⟩)))
      · simp at hd; subst hd
        right
        rcases hb with rfl | rfl | rfl
        · exact hm
        · exact hp
        · exact hq
  · have hG6 : But Y.In w5 w6 := by
      rcases HG with ⟨_, hb⟩ | ⟨_, _, _, _, hk⟩
      · exact hb.mono fun i hi => .inr (.inl hi)
      · exact But.kept hk
    exact ((But.kept (S := Y.In) HK).trans hG6).trans (But.wrote (S := Y.In) HW (.inl rfl))
end
section
variable {w : World} {Y : RLay} {T : RT}
set_option maxHeartbeats 1000000
set_option maxRecDepth 100000
theorem ref_Add (h : RefD w Y T) (hl : T.l.length < 32) (n : Nat) (hn1 : 1 ≤ n) (hn2 : n ≤ 4096) :
    Calls Tryz.prog 7 #[.pointer (some ⟨Y.q, 0, none⟩), .int .i64 (n : Int)] w fun e w' =>
      e = .returned (.tuple #[.int .i64 (T.l.length : Int), .int .i64 0]) ∧ ∃ Y' : RLay, RefD w' Y' (T.add n) ∧ Y'.q = Y.q ∧ (∀ b, Y'.In b → Y.In b ∨ w.heap.size ≤ b) ∧ But Y.In w w' := by
  obtain ⟨ao, cap, hli⟩ : ∃ ao cap, Y.Lv = .slice ao Y.D.length cap := by
    rcases h.lst.2 with ⟨e, h0⟩ | ⟨g, cap, cur, e, _⟩
    · exact ⟨none, 0, by rw [e, h0]⟩
    · exact ⟨_, cap, e⟩
  have b0 : w.cell? ⟨Y.q, 0, none⟩ = some (.slice ao Y.D.length cap) := by
    rw [cell_of_row _ _ _ _ _ _ h.bank]; simp [rbank, hli]
  have hDl : Y.D.length < 32 := by rw [h.len]; exact hl
  have hTl := h.len
  have H := Lib.hid h
  have HLI := Lib.hid hli
  have HTL := Lib.hid hTl
  clear h hli hTl hl
  rw [← HTL.out]
  generalize hdl : Y.D.length = dl at *
  have HDL := Lib.hid hdl; clear hdl
  go_enter Tryz.func7, Tryz.ntmps7
  go_upto_region 5 with fail
  have hS : w.drew.cell? ⟨Y.q, 0, none⟩ = some (.slice ao dl cap) := b0
  refine wp_region_calm ?_
  refine wp_region_E (fun W => W.cell? ⟨Y.q, 0, none⟩ = some (.slice ao dl cap)) 15 (by kernel_rfl) ?_
  refine wpAnyE_take (i := 0) (v := ?_) (listed' := #[true, false, false, false, false, false, false, false, false, false, false, false, false, false, false, false]) (by rfl) (by kernel_rfl) (by kernel_rfl) calm_put hS (by rfl) ?_ ?_
  rotate_left
  · intro W hW; clear hW; go_simp; try (with_reducible rfl)
  simp only [Act.put, List.getElem_toArray, List.getElem_cons_succ, List.getElem_cons_zero, List.setIfInBounds_toArray, List.set_cons_zero, List.set_cons_succ]
  refine wpAnyE_take (i := 1) (v := ?_) (listed' := #[true, true, false, false, false, false, false, false, false, false, false, false, false, false, false, false]) (by rfl) (by kernel_rfl) (by kernel_rfl) calm_put hS (by rfl) ?_ ?_
  rotate_left
  · intro W hW; clear hW; go_simp; try (with_reducible rfl)
  simp only [Act.put, List.getElem_toArray, List.getElem_cons_succ, List.getElem_cons_zero, List.setIfInBounds_toArray, List.set_cons_zero, List.set_cons_succ]
  refine wpAnyE_take (i := 2) (v := ?_) (listed' := #[true, true, true, false, false, false, false, false, false, false, false, false, false, false, false, false]) (by rfl) (by kernel_rfl) (by kernel_rfl) calm_put hS (by rfl) ?_ ?_
  rotate_left
  · intro W hW; clear hW; go_simp; try (with_reducible rfl)
  simp only [Act.put, List.getElem_toArray, List.getElem_cons_succ, List.getElem_cons_zero, List.setIfInBounds_toArray, List.set_cons_zero, List.set_cons_succ]
  refine wpAnyE_take (i := 3) (v := ?_) (listed' := #[true, true, true, true, false, false, false, false, false, false, false, false, false, false, false, false]) (by rfl) (by kernel_rfl) (by kernel_rfl) calm_put hS (by rfl) ?_ ?_
  rotate_left
  · intro W hW; clear hW; go_simp; try (with_reducible rfl)
  simp only [Act.put, List.getElem_toArray, List.getElem_cons_succ, List.getElem_cons_zero, List.setIfInBounds_toArray, List.set_cons_zero, List.set_cons_succ]
  refine wpAnyE_take (i := 4) (v := ?_) (listed' := #[true, true, true, true, true, false, false, false, false, false, false, false, false, false, false, false]) (by rfl) (by kernel_rfl) (by kernel_rfl) calm_put hS (by rfl) ?_ ?_
  rotate_left
  · intro W hW; have c0 := hW; go_simp; try (with_reducible rfl)
  simp only [Act.put, List.getElem_toArray, List.getElem_cons_succ, List.getElem_cons_zero, List.setIfInBounds_toArray, List.set_cons_zero, List.set_cons_succ]
  refine wpAnyE_take (i := 5) (v := ?_) (listed' := #[true, true, true, true, true, true, false, false, false, false, false, false, false, false, false, false]) (by rfl) (by kernel_rfl) (by kernel_rfl) calm_put hS (by rfl) ?_ ?_
  rotate_left
  · intro W hW; clear hW; go_simp; try (with_reducible rfl)
  simp only [Act.put, List.getElem_toArray, List.getElem_cons_succ, List.getElem_cons_zero, List.setIfInBounds_toArray, List.set_cons_zero, List.set_cons_succ]
  refine wpAnyE_take (i := 7) (v := ?_) (listed' := #[true, true, true, true, true, true, false, true, false, false, false, false, false, false, false, false]) (by rfl) (by kernel_rfl) (by kernel_rfl) calm_put hS (by rfl) ?_ ?_
  rotate_left
  · intro W hW; clear hW; go_simp; try (with_reducible rfl)
  simp only [Act.put, List.getElem_toArray, List.getElem_cons_succ, List.getElem_cons_zero, List.setIfInBounds_toArray, List.set_cons_zero, List.set_cons_succ]
  refine wpAnyE_makes2 (i := 6) (j := 8) (di := 24) (dj := 26) (mi := 23) (mj := 25) (n := n) (Li := #[true, true, true, true, true, true, true, true, false, false, false, false, false, false, false, false]) (Lj := #[true, true, true, true, true, true, false, true, true, false, false, false, false, false, false, false]) (L2 := #[true, true, true, true, true, true, true, true, true, false, false, false, false, false, false, false]) rfl rfl (by kernel_rfl) rfl rfl (by kernel_rfl) (by kernel_rfl) rfl rfl (makes_secs rfl rfl rfl hn2) (makes_secs rfl rfl rfl hn2) (by omega) rfl rfl (by decide) (fun w' hk => hk.cell' hS) ?_
  intro p q w3 hp hq hpq bp bq hk3
  simp only [Act.put, List.getElem_toArray, List.getElem_cons_succ, List.getElem_cons_zero, List.setIfInBounds_toArray, List.set_cons_zero, List.set_cons_succ]
  have hS3 : w3.cell? ⟨Y.q, 0, none⟩ = some (.slice ao dl cap) := hk3.cell' hS
  obtain ⟨A, hA⟩ : ∃ A, A = Obj.cells #[Value.slice (some ⟨p, 0, none⟩) n n, .slice (some ⟨q, 0, none⟩) n n, .bool false, .int .i64 0] 63 := ⟨_, rfl⟩
  obtain ⟨B, hB⟩ : ∃ B, B = Obj.cells #[Value.pointer (some ⟨w3.heap.size, 0, none⟩)] 61 := ⟨_, rfl⟩
  obtain ⟨w5, hw5⟩ : ∃ w5, w5 = (w3.alloc A).alloc B := ⟨_, rfl⟩
  have hk5 : Kept w3 w5 := by rw [hw5]; exact ((Kept.refl w3).alloc _).alloc _
  have bm : w5.heap[w3.heap.size]? = some A := by rw [hw5]; exact ((Kept.refl (w3.alloc A)).alloc B).block (heap_alloc_new w3 A)
  have bb : w5.heap[w3.heap.size + 1]? = some B := by rw [hw5]; have := heap_alloc_new (w3.alloc A) B; rwa [World.size_alloc] at this
  rw [hB] at bb
  rw [hA] at bm
  subst hA hB
  have hk3' : Kept w w3 := ((Kept.refl w).drew).trans hk3
  have hsz3 := hk3'.size
  have h5 := H.out.kept (hk3'.trans hk5)
  obtain ⟨v', w6, hrun, hown, hgrw⟩ := own_append ty_rptrs (b := w3.heap.size + 1) h5.lst (by rw [HDL.out]; omega) (by decide) [.pointer (some ⟨w3.heap.size, 0, none⟩)] rfl (fun j u hu => by
    match j with
    | 0 => simp at hu; subst hu; exact one_cell bb
    | j + 1 => simp at hu) (by intro u hu; simp at hu; subst hu; rfl) 38
  have h6q : Y.Lv.ownBlock ≠ some Y.q := own_other h5.lst h5.bank (by decide)
  have hq6 : w6.heap[Y.q]? = w5.heap[Y.q]? := hgrw.blk (h5.lt (.inl rfl)) h6q
  have hS6 : w6.cell? ⟨Y.q, 0, none⟩ = some (.slice ao dl cap) := (World.cell?_of_block (a := ⟨Y.q, 0, none⟩) hq6).trans (hk5.cell' hS3)
  have HB6 := Lib.hid (hq6.trans h5.bank)
  obtain ⟨bo, cap', hvf⟩ : ∃ bo cap', v' = .slice bo (dl + 1) cap' := by
    rcases hown.2 with ⟨_, h0⟩ | ⟨g, c, cur, e, _⟩
    · omega
    · exact ⟨_, c, by rw [e, HDL.out]⟩
  have BP := Lib.hid (hk5.block bp); have BQ := Lib.hid (hk5.block bq); have BM := Lib.hid bm
  have HOWN := Lib.hid hown; have HGRW := Lib.hid hgrw; have HVF := Lib.hid hvf
  have HK := Lib.hid (hk3'.trans hk5)
  clear bp bq bm bb hk3 hk3' hk5 b0 h5 h6q hq6 hown hgrw hvf
  change w.heap.size ≤ p at hp
  change w.heap.size ≤ q at hq
  refine wpAnyE_take (i := 9) (v := ?_) (listed' := #[true, true, true, true, true, true, true, true, true, true, false, false, false, false, false, false]) (by rfl) (by kernel_rfl) (by kernel_rfl) calm_put hS3 (by rfl) ?_ ?_
  rotate_left
  · intro W hW; clear hW; go_simp; try (with_reducible rfl)
  simp only [Act.put, List.getElem_toArray, List.getElem_cons_succ, List.getElem_cons_zero, List.setIfInBounds_toArray, List.set_cons_zero, List.set_cons_succ]
  refine wpAnyE_one (i := 10) (listed' := #[true, true, true, true, true, true, true, true, true, true, true, false, false, false, false, false]) (by rfl) (by kernel_rfl) (by kernel_rfl) (by rfl) (fun K hK => ?_)
  simp only [Act.put, List.getElem_toArray, List.getElem_cons_succ, List.getElem_cons_zero, List.setIfInBounds_toArray, List.set_cons_zero, List.set_cons_succ]
  go_wp2
  refine hK _ _ (fun _ => ((Kept.refl _).alloc _).cell' hS3) ?_; clear hK K
  refine wpAnyE_one (i := 11) (listed' := #[true, true, true, true, true, true, true, true, true, true, true, true, false, false, false, false]) (by rfl) (by kernel_rfl) (by kernel_rfl) (by rfl) (fun K hK => ?_)
  simp only [Act.put, List.getElem_toArray, List.getElem_cons_succ, List.getElem_cons_zero, List.setIfInBounds_toArray, List.set_cons_zero, List.set_cons_succ]
  go_wp2
  refine hK _ _ (fun _ => (((Kept.refl _).alloc _).alloc _).cell' hS3) ?_; clear hK K
  rw [← hw5]
  refine wpAnyE_one (i := 12) (listed' := #[true, true, true, true, true, true, true, true, true, true, true, true, true, false, false, false]) (by rfl) (by kernel_rfl) (by kernel_rfl) (by rfl) (fun K hK => ?_)
  simp only [Act.put, List.getElem_toArray, List.getElem_cons_succ, List.getElem_cons_zero, List.setIfInBounds_toArray, List.set_cons_zero, List.set_cons_succ]
  refine wp_append_run rfl rfl rfl (by rw [HLI.out] at hrun; exact hrun) ?_
  refine hK _ _ (fun _ => hS6) ?_; clear hK K
  simp only [Act.put, List.getElem_toArray, List.getElem_cons_succ, List.getElem_cons_zero, List.setIfInBounds_toArray, List.set_cons_zero, List.set_cons_succ]
  refine wpAnyE_one (i := 13) (listed' := #[true, true, true, true, true, true, true, true, true, true, true, true, true, true, false, false]) (by rfl) (by kernel_rfl) (by kernel_rfl) (by rfl) (fun K hK => ?_)
  simp only [Act.put, List.getElem_toArray, List.getElem_cons_succ, List.getElem_cons_zero, List.setIfInBounds_toArray, List.set_cons_zero, List.set_cons_succ]
  go_wp2
  refine hK _ _ (fun _ => hS6) ?_; clear hK K
  refine wpAnyE_take (i := 14) (v := ?_) (listed' := #[true, true, true, true, true, true, true, true, true, true, true, true, true, true, true, false]) (by rfl) (by kernel_rfl) (by kernel_rfl) calm_put hS6 (by rfl) ?_ ?_
  rotate_left
  · intro W hW; clear hW; go_simp; try (with_reducible rfl)
  simp only [Act.put, List.getElem_toArray, List.getElem_cons_succ, List.getElem_cons_zero, List.setIfInBounds_toArray, List.set_cons_zero, List.set_cons_succ]
  refine wpAnyE_one (i := 15) (listed' := #[true, true, true, true, true, true, true, true, true, true, true, true, true, true, true, true]) (by rfl) (by kernel_rfl) (by kernel_rfl) (by rfl) (fun K hK => ?_)
  simp only [Act.put, List.getElem_toArray, List.getElem_cons_succ, List.getElem_cons_zero, List.setIfInBounds_toArray, List.set_cons_zero, List.set_cons_succ]
  refine wp_set_cell _ _ rfl size_rptrs Y.q 0 rfl v' rfl (by rw [HVF.out]; rfl) (by rw [HVF.out]; rfl) _ _ HB6.out (by simp [rbank]) ?_
  intro w7 hw7
  refine hK _ _ (fun h => absurd rfl h) ?_; clear hK K
  simp only [Act.put, List.getElem_toArray, List.getElem_cons_succ, List.getElem_cons_zero, List.setIfInBounds_toArray, List.set_cons_zero, List.set_cons_succ]
  refine wpAnyE_done (by kernel_rfl) ?_ _
  refine calm_normal ?_
  have c7 : w7.cell? ⟨Y.q, 0, none⟩ = some (.slice bo (dl + 1) cap') := by
    rw [cell_of_row _ _ _ _ _ _ hw7.blk, ← HVF.out]; simp [rbank]
  have HW7 := Lib.hid hw7
  clear hw7 hS hS3 hS6 hrun
  go_wp2
  go_ret2
  exact ⟨rfl, H.out.more HK.out hsz3 hp hq hpq BM.out BP.out BQ.out HOWN.out HGRW.out HW7.out⟩
end
section
variable {w0 W : World} {R : Nat → Prop} {q : Nat} {T : RT}
theorem rk_Add (h : RK w0 R W q T) (hl : T.l.length < 32) (n : Nat) (hn1 : 1 ≤ n) (hn2 : n ≤ 4096) :
    Calls Tryz.prog 7 #[.pointer (some ⟨q, 0, none⟩), .int .i64 (n : Int)] W fun e w' => e = .returned (.tuple #[.int .i64 (T.l.length : Int), .int .i64 0]) ∧ RK w0 R w' q (T.add n) ∧ SameR R W w' := by
  obtain ⟨Y, rfl, hd, hk, ho, hr⟩ := h
  refine (ref_Add hd hl n hn1 hn2).mono ?_
  rintro e w' ⟨he, Y', hd', h0, hin, hb⟩
  refine ⟨he, ⟨Y', h0, hd', But.to_kept hk hb ho, fun b hb' => ?_, fun k hk' => ⟨Nat.lt_of_lt_of_le (hr k hk').1 hb.size, fun hi => ?_⟩⟩, fun k hk' => hb.block k (hr k hk').1 (hr k hk').2⟩
  · rcases hin b hb' with h' | h'
    · exact ho b h'
    · exact Nat.le_trans hk.size h'
  · rcases hin k hi with h' | h'
    · exact (hr k hk').2 h'
    · have := (hr k hk').1; omega
end
end Go.Proofs.YtglplhmclfekfaaGreat
/- The document's bank: may, place, Read. -/
namespace Go.Proofs.YtglplhmclfekfaaGreat
open Go.RowKit
set_option linter.unusedVariables false
set_option linter.unusedSimpArgs false

def RT.mayE (T : RT) (d : Int) : Int := if d < 0 ∨ (T.l.length : Int) ≤ d then 8 else if (T.d d.toNat).dead then 7 else if T.down then 6 else 0
def RT.placeE (T : RT) (d a : Int) : Int := if T.mayE d ≠ 0 then T.mayE d else if a < 0 ∨ ((T.d d.toNat).new.length : Int) ≤ a then 3 else 0
theorem RT.mayE_in {T : RT} {d : Int} (h : T.mayE d = 0) : ∃ k : Nat, d = (k : Int) ∧ k < T.l.length := by
  unfold RT.mayE at h
  by_cases h0 : d < 0 ∨ (T.l.length : Int) ≤ d
  · rw [if_pos h0] at h; cases h
  · exact ⟨d.toNat, by omega, by omega⟩
section
variable {w : World} {Y : RLay} {T : RT}
theorem RefD.lform (h : RefD w Y T) : ∃ ao cap, Y.Lv = .slice ao T.l.length cap ∧ ∀ k (hk : k < Y.D.length), ∃ g, ao = some ⟨g, 0, none⟩ ∧ w.cell? ⟨g, k, none⟩ = some (.pointer (some ⟨Y.D[k].1, 0, none⟩)) := by
  have hl := h.len
  rcases owns_form h.lst with ⟨e, h0, _⟩ | ⟨g, cap, e, _, _, _, hc⟩
  · exact ⟨none, 0, by rw [e, ← hl, h0], fun k hk => by omega⟩
  · refine ⟨_, cap, by rw [e, hl], fun k hk => ⟨g, rfl, ?_⟩⟩
    have := hc k (by simp [rptrs]; exact hk)
    rw [Nat.zero_add] at this
    rw [this]; simp [rptrs]
theorem RefD.b0 (h : RefD w Y T) : w.cell? ⟨Y.q, 0, none⟩ = some Y.Lv := cell_of_row _ _ 0 _ _ _ h.bank
theorem RefD.b1 (h : RefD w Y T) : w.cell? ⟨Y.q, 1, none⟩ = some Y.lv := cell_of_row _ _ 1 _ _ _ h.bank
theorem RefD.b2 (h : RefD w Y T) : w.cell? ⟨Y.q, 2, none⟩ = some (.bool T.down) := cell_of_row _ _ 2 _ _ _ h.bank
theorem RefD.b3 (h : RefD w Y T) : w.cell? ⟨Y.q, 3, none⟩ = some (.int .i64 T.n) := cell_of_row _ _ 3 _ _ _ h.bank
theorem RefD.b4 (h : RefD w Y T) : w.cell? ⟨Y.q, 4, none⟩ = some (.int .i64 T.armed) := cell_of_row _ _ 4 _ _ _ h.bank
theorem RefD.d1 (h : RefD w Y T) {k : Nat} (hk : k < Y.D.length) : w.cell? ⟨Y.D[k].1, 1, none⟩ = some (.slice (some ⟨Y.D[k].2.2, 0, none⟩) (T.d k).new.length (T.d k).new.length) := cell_of_row _ _ 1 _ _ _ (h.dsk k hk)
theorem RefD.d2 (h : RefD w Y T) {k : Nat} (hk : k < Y.D.length) : w.cell? ⟨Y.D[k].1, 2, none⟩ = some (.bool (T.d k).dead) := cell_of_row _ _ 2 _ _ _ (h.dsk k hk)
theorem RefD.d3 (h : RefD w Y T) {k : Nat} (hk : k < Y.D.length) : w.cell? ⟨Y.D[k].1, 3, none⟩ = some (.int .i64 (T.d k).fail) := cell_of_row _ _ 3 _ _ _ (h.dsk k hk)
set_option maxHeartbeats 1000000
set_option maxRecDepth 100000
theorem ref_may (h : RefD w Y T) (hl32 : T.l.length ≤ 32) (d : Int) : Calls Tryz.prog 83 #[.pointer (some ⟨Y.q, 0, none⟩), .int .i64 d] w fun e w' => e = .returned (.int .i64 (T.mayE d)) ∧ w = w' := by
  obtain ⟨ao, cap, hL, hrow⟩ := h.lform
  have b0 := h.b0
  rw [hL] at b0
  by_cases h0 : d < 0 ∨ (T.l.length : Int) ≤ d
  · have he : T.mayE d = 8 := by unfold RT.mayE; rw [if_pos h0]
    rw [he]
    have HR := Lib.hid hrow; clear hrow he h hL
    rcases h0 with h0 | h0
    · go_enter Tryz.func83, Tryz.ntmps83
      go_wp2
      go_ret
      exact ⟨rfl, rfl⟩
    · have hd0 : 0 ≤ d := by omega
      go_enter Tryz.func83, Tryz.ntmps83
      go_wp2
      go_ret
      exact ⟨rfl, rfl⟩
  · obtain ⟨k, rfl, hk⟩ : ∃ k : Nat, d = (k : Int) ∧ k < T.l.length := ⟨d.toNat, by omega, by omega⟩
    have hkD : k < Y.D.length := by rw [h.len]; exact hk
    obtain ⟨g, rfl, cr⟩ := hrow k hkD
    have cd := h.d2 hkD
    have cu := h.b2
    have he : T.mayE (k : Int) = if (T.d k).dead then 7 else if T.down then 6 else 0 := by unfold RT.mayE; rw [if_neg h0, Int.toNat_natCast]
    rw [he]
    clear h he h0 hrow hL
    generalize T.l.length = n at *
    generalize Y.D[k].1 = bd at *
    have hdd : (T.d k).dead = true ∨ (T.d k).dead = false := by cases (T.d k).dead <;> simp
    have huu : T.down = true ∨ T.down = false := by cases T.down <;> simp
    rcases hdd with hdd | hdd
    · rw [hdd] at cd ⊢
      rw [if_pos rfl]
      clear hdd huu cu
      go_enter Tryz.func83, Tryz.ntmps83
      go_wp2
      go_ret
      exact ⟨rfl, rfl⟩
    · rw [hdd] at cd ⊢
      rw [if_neg Bool.false_ne_true]
      rcases huu with huu | huu
      all_goals
        rw [huu] at cu ⊢
        clear hdd huu
        go_enter Tryz.func83, Tryz.ntmps83
        go_wp2
        go_ret
        exact ⟨rfl, rfl⟩
theorem ref_place (h : RefD w Y T) (hl32 : T.l.length ≤ 32) (hsz : ∀ k, k < T.l.length → (T.d k).new.length ≤ 4096) (d a : Int) : Calls Tryz.prog 51 #[.pointer (some ⟨Y.q, 0, none⟩), .agg #[.int .i64 d, .int .i64 a]] w fun e w' => e = .returned (.int .i64 (T.placeE d a)) ∧ Kept w w' := by
  by_cases hm : T.mayE d = 0
  · obtain ⟨k, rfl, hk⟩ := RT.mayE_in hm
    have hkD : k < Y.D.length := by rw [h.len]; exact hk
    have he : T.placeE (k : Int) a = if a < 0 ∨ ((T.d k).new.length : Int) ≤ a then 3 else 0 := by unfold RT.placeE; rw [if_neg (by simpa using hm), Int.toNat_natCast]
    rw [he]
    obtain ⟨ao, cap, hL, hrow⟩ := h.lform
    obtain ⟨g, rfl, cr⟩ := hrow k hkD
    have b0 := h.b0
    rw [hL] at b0
    have c1 := h.d1 hkD
    have HM := Lib.hid fun w1 (hk1 : Kept w w1) => ref_may (h.kept hk1) hl32 (k : Int)
    rw [hm] at HM
    have hn := hsz k hk
    clear h he hrow hL hm hsz
    generalize (T.d k).new.length = z at *
    generalize T.l.length = n at *
    generalize Y.D[k].1 = bd at *
    generalize Y.D[k].2.2 = bn at *
    have hac : a < 0 ∨ (0 ≤ a ∧ (z : Int) ≤ a) ∨ (0 ≤ a ∧ a < (z : Int)) := by omega
    obtain ⟨r, hr⟩ : ∃ r : Int, (if a < 0 ∨ (z : Int) ≤ a then (3 : Int) else 0) = r := ⟨_, rfl⟩
    rw [hr]
    have HRR := Lib.hid hr; clear hr
    go_enter Tryz.func51, Tryz.ntmps51
    go_wp2_with (refine stop_at (o := ⟨some 3, _, _, _, _, _⟩) ?_)
    refine Stop.mk ?_
    refine wpList_box_row rfl _ _ rfl [.int .i64 (k : Int), .int .i64 a] rfl ?_
    intro w1 hz hs hk1
    have p0 : w1.cell? ⟨w.heap.size, 0, none⟩ = some (.int .i64 (k : Int)) := cell_of_row _ _ 0 _ _ _ hz.out
    have p1 : w1.cell? ⟨w.heap.size, 1, none⟩ = some (.int .i64 a) := cell_of_row _ _ 1 _ _ _ hz.out
    have HK := Lib.hid hk1
    replace b0 := hk1.cell' b0
    replace cr := hk1.cell' cr
    replace c1 := hk1.cell' c1
    generalize w.heap.size = X at *
    clear hz hs hk1
    go_wp2_with fail
    refine Calls.mono (HM.out _ HK.out) ?_
    rintro e w' ⟨rfl, rfl⟩
    go_upto_region 4 with fail
    have hS : Kept w1 w1.drew := (Kept.refl _).drew
    rcases hac with hac | ⟨ha0, hac⟩ | ⟨ha0, hac⟩
    · have hres := HRR.out
      rw [if_pos (.inl hac)] at hres
      subst hres
      clear HRR
      refine wp_region_calm ?_
      refine wp_region_E (fun W => Kept w1 W) 100 (by kernel_rfl) ?_
      refine wpAnyE_take (i := 0) (v := ?_) (listed' := #[true, false, false, false, false, false, false, false, false, false, false, false, false, false, false, false, false, false, false, false]) (by rfl) (by kernel_rfl) (by kernel_rfl) calm_put hS (by rfl) ?_ ?_
      rotate_left
      · intro W hW; clear hW; go_simp; try (with_reducible rfl)
      simp only [Act.put, List.getElem_toArray, List.getElem_cons_succ, List.getElem_cons_zero, List.setIfInBounds_toArray, List.set_cons_zero, List.set_cons_succ]
      refine wpAnyE_take (i := 1) (v := ?_) (listed' := #[true, true, false, false, false, false, false, false, false, false, false, false, false, false, false, false, false, false, false, false]) (by rfl) (by kernel_rfl) (by kernel_rfl) calm_put hS (by rfl) ?_ ?_
      rotate_left
      · intro W hW; have b0' := hW.cell' b0; have cr' := hW.cell' cr; have c1' := hW.cell' c1; have p0' := hW.cell' p0; have p1' := hW.cell' p1; go_simp; try (with_reducible rfl)
      simp only [Act.put, List.getElem_toArray, List.getElem_cons_succ, List.getElem_cons_zero, List.setIfInBounds_toArray, List.set_cons_zero, List.set_cons_succ]
      refine wpAnyE_take (i := 2) (v := .bool true) (listed' := #[true, true, true, false, false, false, false, false, false, false, false, false, false, false, false, false, false, false, false, false]) (by rfl) (by kernel_rfl) (by kernel_rfl) calm_put hS (by rfl) ?_ ?_
      · intro W hW; clear hW; go_simp; first | done | (with_reducible rfl) | (simp; omega) | omega
      simp only [Act.put, List.getElem_toArray, List.getElem_cons_succ, List.getElem_cons_zero, List.setIfInBounds_toArray, List.set_cons_zero, List.set_cons_succ]
      refine wpAnyE_take (i := 3) (v := ?_) (listed' := #[true, true, true, true, false, false, false, false, false, false, false, false, false, false, false, false, false, false, false, false]) (by rfl) (by kernel_rfl) (by kernel_rfl) calm_put hS (by rfl) ?_ ?_
      rotate_left
      · intro W hW; clear hW; go_simp; try (with_reducible rfl)
      simp only [Act.put, List.getElem_toArray, List.getElem_cons_succ, List.getElem_cons_zero, List.setIfInBounds_toArray, List.set_cons_zero, List.set_cons_succ]
      refine wpAnyE_skip (i := 4) (listed' := #[true, true, true, true, true, false, false, false, false, false, false, false, false, false, false, false, false, false, false, false]) (by rfl) (by kernel_rfl) (by kernel_rfl) calm_put hS (by rfl) ?_
      simp only [Act.put, List.getElem_toArray, List.getElem_cons_succ, List.getElem_cons_zero, List.setIfInBounds_toArray, List.set_cons_zero, List.set_cons_succ]
      refine wpAnyE_skip (i := 5) (listed' := #[true, true, true, true, true, true, false, false, false, false, false, false, false, false, false, false, false, false, false, false]) (by rfl) (by kernel_rfl) (by kernel_rfl) calm_put hS (by rfl) ?_
      simp only [Act.put, List.getElem_toArray, List.getElem_cons_succ, List.getElem_cons_zero, List.setIfInBounds_toArray, List.set_cons_zero, List.set_cons_succ]
      refine wpAnyE_skip (i := 6) (listed' := #[true, true, true, true, true, true, true, false, false, false, false, false, false, false, false, false, false, false, false, false]) (by rfl) (by kernel_rfl) (by kernel_rfl) calm_put hS (by rfl) ?_
      simp only [Act.put, List.getElem_toArray, List.getElem_cons_succ, List.getElem_cons_zero, List.setIfInBounds_toArray, List.set_cons_zero, List.set_cons_succ]
      refine wpAnyE_skip (i := 7) (listed' := #[true, true, true, true, true, true, true, true, false, false, false, false, false, false, false, false, false, false, false, false]) (by rfl) (by kernel_rfl) (by kernel_rfl) calm_put hS (by rfl) ?_
      simp only [Act.put, List.getElem_toArray, List.getElem_cons_succ, List.getElem_cons_zero, List.setIfInBounds_toArray, List.set_cons_zero, List.set_cons_succ]
      refine wpAnyE_skip (i := 8) (listed' := #[true, true, true, true, true, true, true, true, true, false, false, false, false, false, false, false, false, false, false, false]) (by rfl) (by kernel_rfl) (by kernel_rfl) calm_put hS (by rfl) ?_
      simp only [Act.put, List.getElem_toArray, List.getElem_cons_succ, List.getElem_cons_zero, List.setIfInBounds_toArray, List.set_cons_zero, List.set_cons_succ]
      refine wpAnyE_skip (i := 9) (listed' := #[true, true, true, true, true, true, true, true, true, true, false, false, false, false, false, false, false, false, false, false]) (by rfl) (by kernel_rfl) (by kernel_rfl) calm_put hS (by rfl) ?_
      simp only [Act.put, List.getElem_toArray, List.getElem_cons_succ, List.getElem_cons_zero, List.setIfInBounds_toArray, List.set_cons_zero, List.set_cons_succ]
      refine wpAnyE_skip (i := 10) (listed' := #[true, true, true, true, true, true, true, true, true, true, true, false, false, false, false, false, false, false, false, false]) (by rfl) (by kernel_rfl) (by kernel_rfl) calm_put hS (by rfl) ?_
      simp only [Act.put, List.getElem_toArray, List.getElem_cons_succ, List.getElem_cons_zero, List.setIfInBounds_toArray, List.set_cons_zero, List.set_cons_succ]
      refine wpAnyE_skip (i := 11) (listed' := #[true, true, true, true, true, true, true, true, true, true, true, true, false, false, false, false, false, false, false, false]) (by rfl) (by kernel_rfl) (by kernel_rfl) calm_put hS (by rfl) ?_
      simp only [Act.put, List.getElem_toArray, List.getElem_cons_succ, List.getElem_cons_zero, List.setIfInBounds_toArray, List.set_cons_zero, List.set_cons_succ]
      refine wpAnyE_skip (i := 12) (listed' := #[true, true, true, true, true, true, true, true, true, true, true, true, true, false, false, false, false, false, false, false]) (by rfl) (by kernel_rfl) (by kernel_rfl) calm_put hS (by rfl) ?_
      simp only [Act.put, List.getElem_toArray, List.getElem_cons_succ, List.getElem_cons_zero, List.setIfInBounds_toArray, List.set_cons_zero, List.set_cons_succ]
      refine wpAnyE_skip (i := 13) (listed' := #[true, true, true, true, true, true, true, true, true, true, true, true, true, true, false, false, false, false, false, false]) (by rfl) (by kernel_rfl) (by kernel_rfl) calm_put hS (by rfl) ?_
      simp only [Act.put, List.getElem_toArray, List.getElem_cons_succ, List.getElem_cons_zero, List.setIfInBounds_toArray, List.set_cons_zero, List.set_cons_succ]
      refine wpAnyE_skip (i := 14) (listed' := #[true, true, true, true, true, true, true, true, true, true, true, true, true, true, true, false, false, false, false, false]) (by rfl) (by kernel_rfl) (by kernel_rfl) calm_put hS (by rfl) ?_
      simp only [Act.put, List.getElem_toArray, List.getElem_cons_succ, List.getElem_cons_zero, List.setIfInBounds_toArray, List.set_cons_zero, List.set_cons_succ]
      refine wpAnyE_skip (i := 15) (listed' := #[true, true, true, true, true, true, true, true, true, true, true, true, true, true, true, true, false, false, false, false]) (by rfl) (by kernel_rfl) (by kernel_rfl) calm_put hS (by rfl) ?_
      simp only [Act.put, List.getElem_toArray, List.getElem_cons_succ, List.getElem_cons_zero, List.setIfInBounds_toArray, List.set_cons_zero, List.set_cons_succ]
      refine wpAnyE_skip (i := 16) (listed' := #[true, true, true, true, true, true, true, true, true, true, true, true, true, true, true, true, true, false, false, false]) (by rfl) (by kernel_rfl) (by kernel_rfl) calm_put hS (by rfl) ?_
      simp only [Act.put, List.getElem_toArray, List.getElem_cons_succ, List.getElem_cons_zero, List.setIfInBounds_toArray, List.set_cons_zero, List.set_cons_succ]
      refine wpAnyE_skip (i := 17) (listed' := #[true, true, true, true, true, true, true, true, true, true, true, true, true, true, true, true, true, true, false, false]) (by rfl) (by kernel_rfl) (by kernel_rfl) calm_put hS (by rfl) ?_
      simp only [Act.put, List.getElem_toArray, List.getElem_cons_succ, List.getElem_cons_zero, List.setIfInBounds_toArray, List.set_cons_zero, List.set_cons_succ]
      refine wpAnyE_skip (i := 18) (listed' := #[true, true, true, true, true, true, true, true, true, true, true, true, true, true, true, true, true, true, true, false]) (by rfl) (by kernel_rfl) (by kernel_rfl) calm_put hS (by rfl) ?_
      simp only [Act.put, List.getElem_toArray, List.getElem_cons_succ, List.getElem_cons_zero, List.setIfInBounds_toArray, List.set_cons_zero, List.set_cons_succ]
      refine wpAnyE_take (i := 19) (v := ?_) (listed' := #[true, true, true, true, true, true, true, true, true, true, true, true, true, true, true, true, true, true, true, true]) (by rfl) (by kernel_rfl) (by kernel_rfl) calm_put hS (by rfl) ?_ ?_
      rotate_left
      · intro W hW; clear hW; go_simp; try (with_reducible rfl)
      simp only [Act.put, List.getElem_toArray, List.getElem_cons_succ, List.getElem_cons_zero, List.setIfInBounds_toArray, List.set_cons_zero, List.set_cons_succ]
      refine wpAnyE_done (by kernel_rfl) ?_ _
      refine calm_normal ?_
      have HK2 := Lib.hid (HK.out.trans hS)
      clear hS
      go_wp2
      go_ret
      exact ⟨rfl, HK2.out⟩
    · have hres := HRR.out
      rw [if_pos (.inr hac)] at hres
      subst hres
      clear HRR
      refine wp_region_calm ?_
      refine wp_region_E (fun W => Kept w1 W) 100 (by kernel_rfl) ?_
      refine wpAnyE_take (i := 0) (v := ?_) (listed' := #[true, false, false, false, false, false, false, false, false, false, false, false, false, false, false, false, false, false, false, false]) (by rfl) (by kernel_rfl) (by kernel_rfl) calm_put hS (by rfl) ?_ ?_
      rotate_left
      · intro W hW; clear hW; go_simp; try (with_reducible rfl)
      simp only [Act.put, List.getElem_toArray, List.getElem_cons_succ, List.getElem_cons_zero, List.setIfInBounds_toArray, List.set_cons_zero, List.set_cons_succ]
      refine wpAnyE_take (i := 1) (v := ?_) (listed' := #[true, true, false, false, false, false, false, false, false, false, false, false, false, false, false, false, false, false, false, false]) (by rfl) (by kernel_rfl) (by kernel_rfl) calm_put hS (by rfl) ?_ ?_
      rotate_left
      · intro W hW; have b0' := hW.cell' b0; have cr' := hW.cell' cr; have c1' := hW.cell' c1; have p0' := hW.cell' p0; have p1' := hW.cell' p1; go_simp; try (with_reducible rfl)
      simp only [Act.put, List.getElem_toArray, List.getElem_cons_succ, List.getElem_cons_zero, List.setIfInBounds_toArray, List.set_cons_zero, List.set_cons_succ]
      refine wpAnyE_take (i := 2) (v := .bool false) (listed' := #[true, true, true, false, false, false, false, false, false, false, false, false, false, false, false, false, false, false, false, false]) (by rfl) (by kernel_rfl) (by kernel_rfl) calm_put hS (by rfl) ?_ ?_
      · intro W hW; clear hW; go_simp; first | done | (with_reducible rfl) | (simp; omega) | omega
      simp only [Act.put, List.getElem_toArray, List.getElem_cons_succ, List.getElem_cons_zero, List.setIfInBounds_toArray, List.set_cons_zero, List.set_cons_succ]
      refine wpAnyE_take (i := 3) (v := ?_) (listed' := #[true, true, true, true, false, false, false, false, false, false, false, false, false, false, false, false, false, false, false, false]) (by rfl) (by kernel_rfl) (by kernel_rfl) calm_put hS (by rfl) ?_ ?_
      rotate_left
      · intro W hW; clear hW; go_simp; try (with_reducible rfl)
      simp only [Act.put, List.getElem_toArray, List.getElem_cons_succ, List.getElem_cons_zero, List.setIfInBounds_toArray, List.set_cons_zero, List.set_cons_succ]
      refine wpAnyE_take (i := 4) (v := ?_) (listed' := #[true, true, true, true, true, false, false, false, false, false, false, false, false, false, false, false, false, false, false, false]) (by rfl) (by kernel_rfl) (by kernel_rfl) calm_put hS (by rfl) ?_ ?_
      rotate_left
      · intro W hW; clear hW; go_simp; try (with_reducible rfl)
      simp only [Act.put, List.getElem_toArray, List.getElem_cons_succ, List.getElem_cons_zero, List.setIfInBounds_toArray, List.set_cons_zero, List.set_cons_succ]
      refine wpAnyE_take (i := 5) (v := ?_) (listed' := #[true, true, true, true, true, true, false, false, false, false, false, false, false, false, false, false, false, false, false, false]) (by rfl) (by kernel_rfl) (by kernel_rfl) calm_put hS (by rfl) ?_ ?_
      rotate_left
      · intro W hW; have b0' := hW.cell' b0; have cr' := hW.cell' cr; have c1' := hW.cell' c1; have p0' := hW.cell' p0; have p1' := hW.cell' p1; go_simp; try (with_reducible rfl)
      simp only [Act.put, List.getElem_toArray, List.getElem_cons_succ, List.getElem_cons_zero, List.setIfInBounds_toArray, List.set_cons_zero, List.set_cons_succ]
      refine wpAnyE_take (i := 6) (v := ?_) (listed' := #[true, true, true, true, true, true, true, false, false, false, false, false, false, false, false, false, false, false, false, false]) (by rfl) (by kernel_rfl) (by kernel_rfl) calm_put hS (by rfl) ?_ ?_
      rotate_left
      · intro W hW; clear hW; go_simp; try (with_reducible rfl)
      simp only [Act.put, List.getElem_toArray, List.getElem_cons_succ, List.getElem_cons_zero, List.setIfInBounds_toArray, List.set_cons_zero, List.set_cons_succ]
      refine wpAnyE_take (i := 7) (v := ?_) (listed' := #[true, true, true, true, true, true, true, true, false, false, false, false, false, false, false, false, false, false, false, false]) (by rfl) (by kernel_rfl) (by kernel_rfl) calm_put hS (by rfl) ?_ ?_
      rotate_left
      · intro W hW; clear hW; go_simp; try (with_reducible rfl)
      simp only [Act.put, List.getElem_toArray, List.getElem_cons_succ, List.getElem_cons_zero, List.setIfInBounds_toArray, List.set_cons_zero, List.set_cons_succ]
      refine wpAnyE_take (i := 8) (v := ?_) (listed' := #[true, true, true, true, true, true, true, true, true, false, false, false, false, false, false, false, false, false, false, false]) (by rfl) (by kernel_rfl) (by kernel_rfl) calm_put hS (by rfl) ?_ ?_
      rotate_left
      · intro W hW; clear hW; go_simp; try (with_reducible rfl)
      simp only [Act.put, List.getElem_toArray, List.getElem_cons_succ, List.getElem_cons_zero, List.setIfInBounds_toArray, List.set_cons_zero, List.set_cons_succ]
      refine wpAnyE_take (i := 9) (v := ?_) (listed' := #[true, true, true, true, true, true, true, true, true, true, false, false, false, false, false, false, false, false, false, false]) (by rfl) (by kernel_rfl) (by kernel_rfl) calm_put hS (by rfl) ?_ ?_
      rotate_left
      · intro W hW; have b0' := hW.cell' b0; have cr' := hW.cell' cr; have c1' := hW.cell' c1; have p0' := hW.cell' p0; have p1' := hW.cell' p1; go_simp; try (with_reducible rfl)
      simp only [Act.put, List.getElem_toArray, List.getElem_cons_succ, List.getElem_cons_zero, List.setIfInBounds_toArray, List.set_cons_zero, List.set_cons_succ]
      refine wpAnyE_take (i := 10) (v := ?_) (listed' := #[true, true, true, true, true, true, true, true, true, true, true, false, false, false, false, false, false, false, false, false]) (by rfl) (by kernel_rfl) (by kernel_rfl) calm_put hS (by rfl) ?_ ?_
      rotate_left
      · intro W hW; clear hW; go_simp; try (with_reducible rfl)
      simp only [Act.put, List.getElem_toArray, List.getElem_cons_succ, List.getElem_cons_zero, List.setIfInBounds_toArray, List.set_cons_zero, List.set_cons_succ]
      refine wpAnyE_take (i := 11) (v := ?_) (listed' := #[true, true, true, true, true, true, true, true, true, true, true, true, false, false, false, false, false, false, false, false]) (by rfl) (by kernel_rfl) (by kernel_rfl) calm_put hS (by rfl) ?_ ?_
      rotate_left
      · intro W hW; have b0' := hW.cell' b0; have cr' := hW.cell' cr; have c1' := hW.cell' c1; have p0' := hW.cell' p0; have p1' := hW.cell' p1; go_simp; try (with_reducible rfl)
      simp only [Act.put, List.getElem_toArray, List.getElem_cons_succ, List.getElem_cons_zero, List.setIfInBounds_toArray, List.set_cons_zero, List.set_cons_succ]
      refine wpAnyE_take (i := 12) (v := ?_) (listed' := #[true, true, true, true, true, true, true, true, true, true, true, true, true, false, false, false, false, false, false, false]) (by rfl) (by kernel_rfl) (by kernel_rfl) calm_put hS (by rfl) ?_ ?_
      rotate_left
      · intro W hW; clear hW; go_simp; try (with_reducible rfl)
      simp only [Act.put, List.getElem_toArray, List.getElem_cons_succ, List.getElem_cons_zero, List.setIfInBounds_toArray, List.set_cons_zero, List.set_cons_succ]
      refine wpAnyE_take (i := 13) (v := ?_) (listed' := #[true, true, true, true, true, true, true, true, true, true, true, true, true, true, false, false, false, false, false, false]) (by rfl) (by kernel_rfl) (by kernel_rfl) calm_put hS (by rfl) ?_ ?_
      rotate_left
      · intro W hW; have b0' := hW.cell' b0; have cr' := hW.cell' cr; have c1' := hW.cell' c1; have p0' := hW.cell' p0; have p1' := hW.cell' p1; go_simp; try (with_reducible rfl)
      simp only [Act.put, List.getElem_toArray, List.getElem_cons_succ, List.getElem_cons_zero, List.setIfInBounds_toArray, List.set_cons_zero, List.set_cons_succ]
      refine wpAnyE_take (i := 14) (v := ?_) (listed' := #[true, true, true, true, true, true, true, true, true, true, true, true, true, true, true, false, false, false, false, false]) (by rfl) (by kernel_rfl) (by kernel_rfl) calm_put hS (by rfl) ?_ ?_
      rotate_left
      · intro W hW; clear hW; go_simp; try (with_reducible rfl)
      simp only [Act.put, List.getElem_toArray, List.getElem_cons_succ, List.getElem_cons_zero, List.setIfInBounds_toArray, List.set_cons_zero, List.set_cons_succ]
      refine wpAnyE_take (i := 15) (v := ?_) (listed' := #[true, true, true, true, true, true, true, true, true, true, true, true, true, true, true, true, false, false, false, false]) (by rfl) (by kernel_rfl) (by kernel_rfl) calm_put hS (by rfl) ?_ ?_
      rotate_left
      · intro W hW; clear hW; go_simp; try (with_reducible rfl)
      simp only [Act.put, List.getElem_toArray, List.getElem_cons_succ, List.getElem_cons_zero, List.setIfInBounds_toArray, List.set_cons_zero, List.set_cons_succ]
      refine wpAnyE_take (i := 16) (v := ?_) (listed' := #[true, true, true, true, true, true, true, true, true, true, true, true, true, true, true, true, true, false, false, false]) (by rfl) (by kernel_rfl) (by kernel_rfl) calm_put hS (by rfl) ?_ ?_
      rotate_left
      · intro W hW; have b0' := hW.cell' b0; have cr' := hW.cell' cr; have c1' := hW.cell' c1; have p0' := hW.cell' p0; have p1' := hW.cell' p1; go_simp; try (with_reducible rfl)
      simp only [Act.put, List.getElem_toArray, List.getElem_cons_succ, List.getElem_cons_zero, List.setIfInBounds_toArray, List.set_cons_zero, List.set_cons_succ]
      refine wpAnyE_take (i := 17) (v := ?_) (listed' := #[true, true, true, true, true, true, true, true, true, true, true, true, true, true, true, true, true, true, false, false]) (by rfl) (by kernel_rfl) (by kernel_rfl) calm_put hS (by rfl) ?_ ?_
      rotate_left
      · intro W hW; clear hW; go_simp; try (with_reducible rfl)
      simp only [Act.put, List.getElem_toArray, List.getElem_cons_succ, List.getElem_cons_zero, List.setIfInBounds_toArray, List.set_cons_zero, List.set_cons_succ]
      refine wpAnyE_take (i := 18) (v := .bool true) (listed' := #[true, true, true, true, true, true, true, true, true, true, true, true, true, true, true, true, true, true, true, false]) (by rfl) (by kernel_rfl) (by kernel_rfl) calm_put hS (by rfl) ?_ ?_
      · intro W hW; clear hW; go_simp; first | done | (with_reducible rfl) | (simp; omega) | omega
      simp only [Act.put, List.getElem_toArray, List.getElem_cons_succ, List.getElem_cons_zero, List.setIfInBounds_toArray, List.set_cons_zero, List.set_cons_succ]
      refine wpAnyE_take (i := 19) (v := ?_) (listed' := #[true, true, true, true, true, true, true, true, true, true, true, true, true, true, true, true, true, true, true, true]) (by rfl) (by kernel_rfl) (by kernel_rfl) calm_put hS (by rfl) ?_ ?_
      rotate_left
      · intro W hW; clear hW; go_simp; try (with_reducible rfl)
      simp only [Act.put, List.getElem_toArray, List.getElem_cons_succ, List.getElem_cons_zero, List.setIfInBounds_toArray, List.set_cons_zero, List.set_cons_succ]
      refine wpAnyE_done (by kernel_rfl) ?_ _
      refine calm_normal ?_
      have HK2 := Lib.hid (HK.out.trans hS)
      clear hS
      go_wp2
      go_ret
      exact ⟨rfl, HK2.out⟩
    · have hres := HRR.out
      rw [if_neg (by omega)] at hres
      subst hres
      clear HRR
      refine wp_region_calm ?_
      refine wp_region_E (fun W => Kept w1 W) 100 (by kernel_rfl) ?_
      refine wpAnyE_take (i := 0) (v := ?_) (listed' := #[true, false, false, false, false, false, false, false, false, false, false, false, false, false, false, false, false, false, false, false]) (by rfl) (by kernel_rfl) (by kernel_rfl) calm_put hS (by rfl) ?_ ?_
      rotate_left
      · intro W hW; clear hW; go_simp; try (with_reducible rfl)
      simp only [Act.put, List.getElem_toArray, List.getElem_cons_succ, List.getElem_cons_zero, List.setIfInBounds_toArray, List.set_cons_zero, List.set_cons_succ]
      refine wpAnyE_take (i := 1) (v := ?_) (listed' := #[true, true, false, false, false, false, false, false, false, false, false, false, false, false, false, false, false, false, false, false]) (by rfl) (by kernel_rfl) (by kernel_rfl) calm_put hS (by rfl) ?_ ?_
      rotate_left
      · intro W hW; have b0' := hW.cell' b0; have cr' := hW.cell' cr; have c1' := hW.cell' c1; have p0' := hW.cell' p0; have p1' := hW.cell' p1; go_simp; try (with_reducible rfl)
      simp only [Act.put, List.getElem_toArray, List.getElem_cons_succ, List.getElem_cons_zero, List.setIfInBounds_toArray, List.set_cons_zero, List.set_cons_succ]
      refine wpAnyE_take (i := 2) (v := .bool false) (listed' := #[true, true, true, false, false, false, false, false, false, false, false, false, false, false, false, false, false, false, false, false]) (by rfl) (by kernel_rfl) (by kernel_rfl) calm_put hS (by rfl) ?_ ?_
      · intro W hW; clear hW; go_simp; first | done | (with_reducible rfl) | (simp; omega) | omega
      simp only [Act.put, List.getElem_toArray, List.getElem_cons_succ, List.getElem_cons_zero, List.setIfInBounds_toArray, List.set_cons_zero, List.set_cons_succ]
      refine wpAnyE_take (i := 3) (v := ?_) (listed' := #[true, true, true, true, false, false, false, false, false, false, false, false, false, false, false, false, false, false, false, false]) (by rfl) (by kernel_rfl) (by kernel_rfl) calm_put hS (by rfl) ?_ ?_
      rotate_left
      · intro W hW; clear hW; go_simp; try (with_reducible rfl)
      simp only [Act.put, List.getElem_toArray, List.getElem_cons_succ, List.getElem_cons_zero, List.setIfInBounds_toArray, List.set_cons_zero, List.set_cons_succ]
      refine wpAnyE_take (i := 4) (v := ?_) (listed' := #[true, true, true, true, true, false, false, false, false, false, false, false, false, false, false, false, false, false, false, false]) (by rfl) (by kernel_rfl) (by kernel_rfl) calm_put hS (by rfl) ?_ ?_
      rotate_left
      · intro W hW; clear hW; go_simp; try (with_reducible rfl)
      simp only [Act.put, List.getElem_toArray, List.getElem_cons_succ, List.getElem_cons_zero, List.setIfInBounds_toArray, List.set_cons_zero, List.set_cons_succ]
      refine wpAnyE_take (i := 5) (v := ?_) (listed' := #[true, true, true, true, true, true, false, false, false, false, false, false, false, false, false, false, false, false, false, false]) (by rfl) (by kernel_rfl) (by kernel_rfl) calm_put hS (by rfl) ?_ ?_
      rotate_left
      · intro W hW; have b0' := hW.cell' b0; have cr' := hW.cell' cr; have c1' := hW.cell' c1; have p0' := hW.cell' p0; have p1' := hW.cell' p1; go_simp; try (with_reducible rfl)
      simp only [Act.put, List.getElem_toArray, List.getElem_cons_succ, List.getElem_cons_zero, List.setIfInBounds_toArray, List.set_cons_zero, List.set_cons_succ]
      refine wpAnyE_take (i := 6) (v := ?_) (listed' := #[true, true, true, true, true, true, true, false, false, false, false, false, false, false, false, false, false, false, false, false]) (by rfl) (by kernel_rfl) (by kernel_rfl) calm_put hS (by rfl) ?_ ?_
      rotate_left
      · intro W hW; clear hW; go_simp; try (with_reducible rfl)
      simp only [Act.put, List.getElem_toArray, List.getElem_cons_succ, List.getElem_cons_zero, List.setIfInBounds_toArray, List.set_cons_zero, List.set_cons_succ]
      refine wpAnyE_take (i := 7) (v := ?_) (listed' := #[true, true, true, true, true, true, true, true, false, false, false, false, false, false, false, false, false, false, false, false]) (by rfl) (by kernel_rfl) (by kernel_rfl) calm_put hS (by rfl) ?_ ?_
      rotate_left
      · intro W hW; clear hW; go_simp; try (with_reducible rfl)
      simp only [Act.put, List.getElem_toArray, List.getElem_cons_succ, List.getElem_cons_zero, List.setIfInBounds_toArray, List.set_cons_zero, List.set_cons_succ]
      refine wpAnyE_take (i := 8) (v := ?_) (listed' := #[true, true, true, true, true, true, true, true, true, false, false, false, false, false, false, false, false, false, false, false]) (by rfl) (by kernel_rfl) (by kernel_rfl) calm_put hS (by rfl) ?_ ?_
      rotate_left
      · intro W hW; clear hW; go_simp; try (with_reducible rfl)
      simp only [Act.put, List.getElem_toArray, List.getElem_cons_succ, List.getElem_cons_zero, List.setIfInBounds_toArray, List.set_cons_zero, List.set_cons_succ]
      refine wpAnyE_take (i := 9) (v := ?_) (listed' := #[true, true, true, true, true, true, true, true, true, true, false, false, false, false, false, false, false, false, false, false]) (by rfl) (by kernel_rfl) (by kernel_rfl) calm_put hS (by rfl) ?_ ?_
      rotate_left
      · intro W hW; have b0' := hW.cell' b0; have cr' := hW.cell' cr; have c1' := hW.cell' c1; have p0' := hW.cell' p0; have p1' := hW.cell' p1; go_simp; try (with_reducible rfl)
      simp only [Act.put, List.getElem_toArray, List.getElem_cons_succ, List.getElem_cons_zero, List.setIfInBounds_toArray, List.set_cons_zero, List.set_cons_succ]
      refine wpAnyE_take (i := 10) (v := ?_) (listed' := #[true, true, true, true, true, true, true, true, true, true, true, false, false, false, false, false, false, false, false, false]) (by rfl) (by kernel_rfl) (by kernel_rfl) calm_put hS (by rfl) ?_ ?_
      rotate_left
      · intro W hW; clear hW; go_simp; try (with_reducible rfl)
      simp only [Act.put, List.getElem_toArray, List.getElem_cons_succ, List.getElem_cons_zero, List.setIfInBounds_toArray, List.set_cons_zero, List.set_cons_succ]
      refine wpAnyE_take (i := 11) (v := ?_) (listed' := #[true, true, true, true, true, true, true, true, true, true, true, true, false, false, false, false, false, false, false, false]) (by rfl) (by kernel_rfl) (by kernel_rfl) calm_put hS (by rfl) ?_ ?_
      rotate_left
      · intro W hW; have b0' := hW.cell' b0; have cr' := hW.cell' cr; have c1' := hW.cell' c1; have p0' := hW.cell' p0; have p1' := hW.cell' p1; go_simp; try (with_reducible rfl)
      simp only [Act.put, List.getElem_toArray, List.getElem_cons_succ, List.getElem_cons_zero, List.setIfInBounds_toArray, List.set_cons_zero, List.set_cons_succ]
      refine wpAnyE_take (i := 12) (v := ?_) (listed' := #[true, true, true, true, true, true, true, true, true, true, true, true, true, false, false, false, false, false, false, false]) (by rfl) (by kernel_rfl) (by kernel_rfl) calm_put hS (by rfl) ?_ ?_
      rotate_left
      · intro W hW; clear hW; go_simp; try (with_reducible rfl)
      simp only [Act.put, List.getElem_toArray, List.getElem_cons_succ, List.getElem_cons_zero, List.setIfInBounds_toArray, List.set_cons_zero, List.set_cons_succ]
      refine wpAnyE_take (i := 13) (v := ?_) (listed' := #[true, true, true, true, true, true, true, true, true, true, true, true, true, true, false, false, false, false, false, false]) (by rfl) (by kernel_rfl) (by kernel_rfl) calm_put hS (by rfl) ?_ ?_
      rotate_left
      · intro W hW; have b0' := hW.cell' b0; have cr' := hW.cell' cr; have c1' := hW.cell' c1; have p0' := hW.cell' p0; have p1' := hW.cell' p1; go_simp; try (with_reducible rfl)
      simp only [Act.put, List.getElem_toArray, List.getElem_cons_succ, List.getElem_cons_zero, List.setIfInBounds_toArray, List.set_cons_zero, List.set_cons_succ]
      refine wpAnyE_take (i := 14) (v := ?_) (listed' := #[true, true, true, true, true, true, true, true, true, true, true, true, true, true, true, false, false, false, false, false]) (by rfl) (by kernel_rfl) (by kernel_rfl) calm_put hS (by rfl) ?_ ?_
      rotate_left
      · intro W hW; clear hW; go_simp; try (with_reducible rfl)
      simp only [Act.put, List.getElem_toArray, List.getElem_cons_succ, List.getElem_cons_zero, List.setIfInBounds_toArray, List.set_cons_zero, List.set_cons_succ]
      refine wpAnyE_take (i := 15) (v := ?_) (listed' := #[true, true, true, true, true, true, true, true, true, true, true, true, true, true, true, true, false, false, false, false]) (by rfl) (by kernel_rfl) (by kernel_rfl) calm_put hS (by rfl) ?_ ?_
      rotate_left
      · intro W hW; clear hW; go_simp; try (with_reducible rfl)
      simp only [Act.put, List.getElem_toArray, List.getElem_cons_succ, List.getElem_cons_zero, List.setIfInBounds_toArray, List.set_cons_zero, List.set_cons_succ]
      refine wpAnyE_take (i := 16) (v := ?_) (listed' := #[true, true, true, true, true, true, true, true, true, true, true, true, true, true, true, true, true, false, false, false]) (by rfl) (by kernel_rfl) (by kernel_rfl) calm_put hS (by rfl) ?_ ?_
      rotate_left
      · intro W hW; have b0' := hW.cell' b0; have cr' := hW.cell' cr; have c1' := hW.cell' c1; have p0' := hW.cell' p0; have p1' := hW.cell' p1; go_simp; try (with_reducible rfl)
      simp only [Act.put, List.getElem_toArray, List.getElem_cons_succ, List.getElem_cons_zero, List.setIfInBounds_toArray, List.set_cons_zero, List.set_cons_succ]
      refine wpAnyE_take (i := 17) (v := ?_) (listed' := #[true, true, true, true, true, true, true, true, true, true, true, true, true, true, true, true, true, true, false, false]) (by rfl) (by kernel_rfl) (by kernel_rfl) calm_put hS (by rfl) ?_ ?_
      rotate_left
      · intro W hW; clear hW; go_simp; try (with_reducible rfl)
      simp only [Act.put, List.getElem_toArray, List.getElem_cons_succ, List.getElem_cons_zero, List.setIfInBounds_toArray, List.set_cons_zero, List.set_cons_succ]
      refine wpAnyE_take (i := 18) (v := .bool false) (listed' := #[true, true, true, true, true, true, true, true, true, true, true, true, true, true, true, true, true, true, true, false]) (by rfl) (by kernel_rfl) (by kernel_rfl) calm_put hS (by rfl) ?_ ?_
      · intro W hW; clear hW; go_simp; first | done | (with_reducible rfl) | (simp; omega) | omega
      simp only [Act.put, List.getElem_toArray, List.getElem_cons_succ, List.getElem_cons_zero, List.setIfInBounds_toArray, List.set_cons_zero, List.set_cons_succ]
      refine wpAnyE_take (i := 19) (v := ?_) (listed' := #[true, true, true, true, true, true, true, true, true, true, true, true, true, true, true, true, true, true, true, true]) (by rfl) (by kernel_rfl) (by kernel_rfl) calm_put hS (by rfl) ?_ ?_
      rotate_left
      · intro W hW; clear hW; go_simp; try (with_reducible rfl)
      simp only [Act.put, List.getElem_toArray, List.getElem_cons_succ, List.getElem_cons_zero, List.setIfInBounds_toArray, List.set_cons_zero, List.set_cons_succ]
      refine wpAnyE_done (by kernel_rfl) ?_ _
      refine calm_normal ?_
      have HK2 := Lib.hid (HK.out.trans hS)
      clear hS
      go_wp2
      go_ret
      exact ⟨rfl, HK2.out⟩
  · have he : T.placeE d a = T.mayE d := by unfold RT.placeE; rw [if_pos hm]
    rw [he]
    have HM := Lib.hid fun w1 (hk1 : Kept w w1) => ref_may (h.kept hk1) hl32 d
    have hmb : (T.mayE d == 0) = false := by simpa using hm
    clear h he
    generalize T.mayE d = m at *
    go_enter Tryz.func51, Tryz.ntmps51
    go_wp2_with (refine stop_at (o := ⟨some 3, _, _, _, _, _⟩) ?_)
    refine Stop.mk ?_
    refine wpList_box_row rfl _ _ rfl [.int .i64 d, .int .i64 a] rfl ?_
    intro w1 hz hs hk1
    have p0 : w1.cell? ⟨w.heap.size, 0, none⟩ = some (.int .i64 d) := cell_of_row _ _ 0 _ _ _ hz.out
    have HK := Lib.hid hk1
    generalize w.heap.size = X at *
    clear hz hs hk1
    go_wp2_with fail
    refine Calls.mono (HM.out _ HK.out) ?_
    rintro e w' ⟨rfl, rfl⟩
    go_wp2
    go_ret
    exact ⟨rfl, HK.out⟩
end
end Go.Proofs.YtglplhmclfekfaaGreat
/- The document's bank: Write where nobody fails and nothing is armed (gen_rwrite.py). -/
namespace Go.Proofs.YtglplhmclfekfaaGreat
open Go.RowKit
set_option linter.unusedVariables false
set_option linter.unusedSimpArgs false

theorem nodup_pair {D : List (Nat × Nat × Nat)} (h : (D.flatMap fun d => [d.2.1, d.2.2]).Nodup) {i j : Nat} (hi : i < D.length) (hj : j < D.length) : D[i].2.1 ≠ D[j].2.2 ∧ (i ≠ j → D[i].2.2 ≠ D[j].2.2) := by
  have hl : (D.flatMap fun d => [d.2.1, d.2.2]).length = D.length * 2 := by
    clear h hi hj
    induction D with
    | nil => rfl
    | cons x D ih => rw [List.flatMap_cons, List.length_append, ih, List.length_cons]; simp; omega
  have a1 : ∀ k (hk : k < D.length), (D.flatMap fun d => [d.2.1, d.2.2])[k * 2]? = some D[k].2.1 := fun k hk => by
    have := flatMap_at D (fun d => [d.2.1, d.2.2]) 2 (fun _ _ => rfl) k 0 hk (by decide)
    simpa using this
  have a2 : ∀ k (hk : k < D.length), (D.flatMap fun d => [d.2.1, d.2.2])[k * 2 + 1]? = some D[k].2.2 := fun k hk => by
    have := flatMap_at D (fun d => [d.2.1, d.2.2]) 2 (fun _ _ => rfl) k 1 hk (by decide)
    simpa using this
  constructor
  · intro e
    have := (List.getElem?_inj (i := i * 2) (j := j * 2 + 1) (by omega) h).1 (by rw [a1 i hi, a2 j hj, e])
    omega
  · intro hij e
    have := (List.getElem?_inj (i := i * 2 + 1) (j := j * 2 + 1) (by omega) h).1 (by rw [a2 i hi, a2 j hj, e])
    omega
theorem RT.d_up {T : RT} {k : Nat} (m : RMed) (h : k < T.l.length) (j : Nat) : (T.up k m).d j = if j = k then m else T.d j := by
  unfold RT.d RT.up
  simp only [List.getD_eq_getElem?_getD, List.getElem?_set]
  by_cases e : k = j
  · subst e; simp [h]
  · simp [e, Ne.symm e]
/-- a write that is carried out -/
def RT.put (T : RT) (d a : Nat) (s : List Int) : RT :=
  { T.up d { T.d d with new := (T.d d).new.set a s } with n := T.n + 1, loose := if (d, a) ∈ T.loose then T.loose else T.loose ++ [(d, a)] }
section
variable {w w1 : World} {Y : RLay} {T : RT}
theorem own_ne {w : World} {base e size n base' e' size' n' : Nat} {v v' : Value} {xs xs' : List Value} (h : w.ownsRow base e size v n xs) (h' : w.ownsRow base' e' size' v' n' xs') (he : e' ≠ e) {g : Nat} (hg : v'.ownBlock = some g) : v.ownBlock ≠ some g := by
  rcases h'.2 with ⟨rfl, _⟩ | ⟨g', cap, cur, rfl, _, hh, _⟩
  · cases hg
  · simp only [Value.ownBlock, Option.some.injEq] at hg
    subst hg
    exact own_other h hh he
theorem RefD.put_bank (h : RefD w Y T) {lv' : Value} {T' : RT} (hl : T'.l = T.l) (hw : Wrote w w1 Y.q (rbank { Y with lv := lv' } T') 41) (hloo : w.ownsRow 0 47 2 lv' T'.loose.length (pvals T'.loose)) : RefD w1 { Y with lv := lv' } T' := by
  have hd : ∀ k, T'.d k = T.d k := fun k => by unfold RT.d; rw [hl]
  have n1 : Y.Lv.ownBlock ≠ some Y.q := own_other h.lst h.bank (by decide)
  have n2 : lv'.ownBlock ≠ some Y.q := own_other hloo h.bank (by decide)
  refine ⟨hw.blk, by rw [hl]; exact h.len, own_same h.lst fun g hg => hw.oth g (fun e => n1 (e ▸ hg)), own_same hloo fun g hg => hw.oth g (fun e => n2 (e ▸ hg)), fun k hk => ?_, fun k hk => ?_, fun k hk => ?_, h.dd, h.dn⟩
  · show w1.heap[Y.D[k].1]? = some (.cells (rmed Y.D[k] (T'.d k)).toArray _ _)
    rw [hd, hw.oth _ (block_ty (h.dsk k hk) h.bank (by decide))]; exact h.dsk k hk
  · show w1.heap[Y.D[k].2.1]? = _
    rw [hd, hw.oth _ (block_ty (h.flu k hk) h.bank (by decide))]; exact h.flu k hk
  · show w1.heap[Y.D[k].2.2]? = _
    rw [hd, hw.oth _ (block_ty (h.new k hk) h.bank (by decide))]; exact h.new k hk
theorem RefD.put_loose {w9 w10 : World} (h : RefD w Y T) {v' : Value} {L : List (Nat × Nat)} (hg : Grw w w9 Y.lv v') (hown : w9.ownsRow 0 47 2 v' L.length (pvals L))
    (hw : Wrote w9 w10 Y.q (rbank { Y with lv := v' } { T with loose := L }) 41) : RefD w10 { Y with lv := v' } { T with loose := L } := by
  have k9 : ∀ {b : Nat} {cs : Array Value} {t : TypeId}, w.heap[b]? = some (.cells cs t (0, 0)) → t ≠ 47 → w9.heap[b]? = some (.cells cs t (0, 0)) := fun hb ht => (hg.blk (Array.getElem?_eq_some_iff.1 hb).1 (own_other h.loo hb ht)).trans hb
  have b9 := k9 h.bank (by decide)
  have l9 : w9.ownsRow 0 61 1 Y.Lv Y.D.length (rptrs Y.D) := own_same h.lst fun g hgl => hg.blk (own_lt h.lst hgl) (own_ne h.loo h.lst (by decide) hgl)
  have n1 : Y.Lv.ownBlock ≠ some Y.q := own_other l9 b9 (by decide)
  have n2 : v'.ownBlock ≠ some Y.q := own_other hown b9 (by decide)
  have fwd : ∀ {b : Nat} {cs : Array Value} {t : TypeId}, w.heap[b]? = some (.cells cs t (0, 0)) → t ≠ 47 → t ≠ 41 → w10.heap[b]? = some (.cells cs t (0, 0)) := fun hb ht ht2 => by
    rw [hw.oth _ (block_ty (k9 hb ht) b9 ht2)]; exact k9 hb ht
  exact ⟨hw.blk, h.len, own_same l9 fun g hgl => hw.oth g (fun e => n1 (e ▸ hgl)), own_same hown fun g hgl => hw.oth g (fun e => n2 (e ▸ hgl)), fun k hk => fwd (h.dsk k hk) (by decide) (by decide), fun k hk => fwd (h.flu k hk) (by decide) (by decide), fun k hk => fwd (h.new k hk) (by decide) (by decide), h.dd, h.dn⟩
theorem RefD.put_new (h : RefD w Y T) {k : Nat} (hk : k < Y.D.length) {l : List (List Int)} (hll : l.length = (T.d k).new.length) (hw : Wrote w w1 Y.D[k].2.2 (secs l) 43) : RefD w1 Y (T.up k { T.d k with new := l }) := by
  have hkT : k < T.l.length := by rw [← h.len]; exact hk
  have bn := h.new k hk
  have hup : ∀ j, (T.up k { T.d k with new := l }).d j = if j = k then { T.d k with new := l } else T.d j := fun j => RT.d_up _ hkT j
  refine ⟨?_, by simp [RT.up]; exact h.len, own_same h.lst fun g hg => hw.oth g (fun e => (own_other h.lst bn (by decide)) (e ▸ hg)), own_same h.loo fun g hg => hw.oth g (fun e => (own_other h.loo bn (by decide)) (e ▸ hg)), fun j hj => ?_, fun j hj => ?_, fun j hj => ?_, h.dd, h.dn⟩
  · rw [hw.oth _ (block_ty h.bank bn (by decide))]; exact h.bank
  · rw [hw.oth _ (block_ty (h.dsk j hj) bn (by decide)), hup, h.dsk j hj]
    by_cases e : j = k
    · subst e; rw [if_pos rfl]; simp [rmed, hll]
    · rw [if_neg e]
  · rw [hw.oth _ (nodup_pair h.dn hj hk).1, hup, h.flu j hj]
    by_cases e : j = k
    · subst e; rw [if_pos rfl]
    · rw [if_neg e]
  · by_cases e : j = k
    · subst e; rw [hup, if_pos rfl]; exact hw.blk
    · rw [hw.oth _ ((nodup_pair h.dn hj hk).2 e), hup, if_neg e]; exact h.new j hj
theorem RefD.pl (h : RefD w Y T) : ∃ ao cap, Y.lv = .slice ao T.loose.length cap ∧ ∀ i (hi : i < T.loose.length), ∃ g, ao = some ⟨g, 0, none⟩ ∧ Cells w g (i * 2) [.int .i64 (T.loose[i].1 : Int), .int .i64 (T.loose[i].2 : Int)] := by
  rcases owns_form h.loo with ⟨e, h0, _⟩ | ⟨g, cap, e, _, _, _, hc⟩
  · exact ⟨none, 0, by rw [e, h0], fun k hk => by omega⟩
  · refine ⟨_, cap, e, fun i hi => ⟨g, rfl, fun j hj => ?_⟩⟩
    have hpl : (pvals T.loose).length = T.loose.length * 2 := h.loo.1
    have hj2 : j < 2 := hj
    have := hc (i * 2 + j) (by omega)
    rw [Nat.zero_add] at this
    rw [this]
    have hat := flatMap_at T.loose (fun p => [Value.int .i64 (p.1 : Int), .int .i64 (p.2 : Int)]) 2 (fun _ _ => rfl) i j hi hj2
    have hlt : i * 2 + j < (pvals T.loose).length := by omega
    have : (pvals T.loose)[i * 2 + j]? = some ((pvals T.loose)[i * 2 + j]) := List.getElem?_eq_getElem hlt
    unfold pvals at this ⊢
    rw [hat] at this
    rw [List.getElem?_eq_getElem hj] at this
    exact this.symm
end
theorem ty_places : ElemT Tryz.prog 39 47 2 16 := by
  refine ⟨Tryz.underlying39, ?_, by decide⟩
  have h1 : (Tryz.prog.info? 47).map (fun i => (i.zero, i.size, i.bytes)) = some (some (.agg #[.int .i64 0, .int .i64 0]), 2, 16) := by kernel_rfl
  cases hi : Tryz.prog.info? 47 with
  | none => simp [hi] at h1
  | some i =>
    simp [hi] at h1
    exact ⟨i, _, rfl, h1.1, h1.2.1, h1.2.2, rfl⟩
theorem size_places : (Tryz.prog.info? 39).map (·.size) = some 1 := by kernel_rfl
theorem pvals_snoc (L : List (Nat × Nat)) (p : Nat × Nat) : pvals (L ++ [p]) = pvals L ++ [.int .i64 (p.1 : Int), .int .i64 (p.2 : Int)] := by simp [pvals]
theorem exec_load_plcO {W : World} {a : Act} {o : Oper} (x : Operand) (ho : o.op = .load 47 x) (b off : Nat) (hx : a.eval x = .pointer (some ⟨b, off, none⟩)) (xs : List Value) (hl : xs.length = 2) (hc : Cells W b off xs) :
    (execOp a.eval o).run Tryz.prog W = .ok (.value (.agg xs.toArray)) W := by
  obtain ⟨⟨d, hd1, hd2⟩, hs⟩ := ty_plc
  unfold execOp
  simp only [ho, hx, Instr.loadAt, Instr.sureAddr, Sem.run_bind, Sem.run_pure, Result.andThen_ok, run_loadVar_mid W b off 47 xs d (rangeAt_of_cells hc) hd1 hd2 (by rw [hs, hl])]
theorem exec_eq_plcB {W : World} {a : Act} {o : Oper} (x y : Operand) {t' : TypeId} (ho : o.op = .binOp .eql 47 x y t') (p q r s : Int) (b : Bool) (hb : (p == r && q == s) = b) (hx : a.eval x = .agg #[.int .i64 p, .int .i64 q]) (hy : a.eval y = .agg #[.int .i64 r, .int .i64 s]) :
    (execOp a.eval o).run Tryz.prog W = .ok (.value (.bool b)) W := by rw [← hb]; exact exec_eq_plc x y ho p q r s hx hy
/-- nobody fails, nothing is armed -/
structure RT.Calm (T : RT) : Prop where
  ok : T.Ok
  up : T.down = false
  arm : T.armed = 0
  dead : ∀ k, k < T.l.length → (T.d k).dead = false
  fail : ∀ k, k < T.l.length → (T.d k).fail = 0
  n : 0 ≤ T.n ∧ T.n < 1000000000
section
variable {w : World} {Y : RLay} {T : RT}
set_option maxHeartbeats 2000000
set_option maxRecDepth 100000
theorem ref_Write_calm (h : RefD w Y T) (c : T.Calm) {d a : Nat} (hd : d < T.l.length) (ha : a < (T.d d).new.length) (hmany : T.loose.length < 9000) {s : List Int} (hs : s.length = 64) :
    Calls Tryz.prog 35 #[.pointer (some ⟨Y.q, 0, none⟩), .agg #[.int .i64 (d : Int), .int .i64 (a : Int)], .agg (u8s s).toArray] w fun e w' => e = .returned (.int .i64 0) ∧
      ∃ Y' : RLay, RefD w' Y' (T.put d a s) ∧ Y'.q = Y.q ∧ (∀ b, Y'.In b → Y.In b ∨ w.heap.size ≤ b) ∧ But Y.In w w' := by
  have hdD : d < Y.D.length := by rw [h.len]; exact hd
  have hl32 := c.ok.len
  have hsz : ∀ k, k < T.l.length → (T.d k).new.length ≤ 4096 := fun k hk => by
    unfold RT.d; rw [List.getD_eq_getElem?_getD, List.getElem?_eq_getElem hk]; exact (c.ok.med _ (List.getElem_mem hk)).len
  have okd : (T.d d).Ok := by
    unfold RT.d; rw [List.getD_eq_getElem?_getD, List.getElem?_eq_getElem hd]; exact c.ok.med _ (List.getElem_mem hd)
  have hpl : T.placeE (d : Int) (a : Int) = 0 := by
    have hm : T.mayE (d : Int) = 0 := by unfold RT.mayE; rw [if_neg (by omega), Int.toNat_natCast, c.dead d hd, if_neg (by decide), c.up, if_neg (by decide)]
    unfold RT.placeE; rw [hm, if_neg (by decide), Int.toNat_natCast, if_neg (by omega)]
  obtain ⟨n0, n1⟩ := c.n
  have H := Lib.hid h; have HC := Lib.hid c; have HS := Lib.hid hs; have HSZ := Lib.hid hsz; have HOK := Lib.hid okd; have HPL := Lib.hid hpl; have HAL := Lib.hid ha; have HDD := Lib.hid hdD; have HMANY := Lib.hid hmany
  have hup := c.up
  have HIN : Hid (∀ b, Y.In b → b < w.heap.size) := Lib.hid fun b hb => h.lt hb
  clear h c hs hsz okd hpl ha hmany
  go_enter Tryz.func35, Tryz.ntmps35
  go_wp2_with (refine stop_at (o := ⟨some 4, _, _, _, _, _⟩) ?_)
  refine Stop.mk ?_
  refine wpList_box_row rfl _ _ rfl [.int .i64 (d : Int), .int .i64 (a : Int)] rfl ?_
  intro w1 hz hs1 hk1
  have HX1 := hz
  have HK1 := Lib.hid hk1
  have HXs : Hid (w.heap.size < w1.heap.size) := Lib.hid hs1
  generalize hXe : w.heap.size = X at HX1 HXs
  have HXe := Lib.hid hXe
  clear hz hs1 hk1 hXe
  go_wp2_with (refine stop_at (o := ⟨some 5, _, _, _, _, _⟩) ?_)
  refine Stop.mk ?_
  refine wpList_box_row rfl _ _ rfl (u8s s) rfl ?_
  intro w2 hz hs2 hk2
  have HX2 := Lib.hid (hk2.block HX1.out)
  have HZ2 := hz
  have HK2 := Lib.hid (HK1.out.trans hk2)
  have HZs : Hid (w1.heap.size < w2.heap.size ∧ X < w1.heap.size) := Lib.hid ⟨hs2, HXs.out⟩
  generalize w1.heap.size = Z at *
  clear hz hs2 hk2 HX1 HK1 HXs
  have H2 := Lib.hid (H.out.kept HK2.out)
  have HXq : Hid (X ≠ Y.q ∧ Z ≠ Y.q) := Lib.hid ⟨block_ty HX2.out H2.out.bank (by decide), block_ty HZ2.out H2.out.bank (by decide)⟩
  have b2 := H2.out.b2
  have b3 := H2.out.b3
  rw [hup] at b2
  go_wp2_with (refine stop_at (o := ⟨none, .store _ _ _, _, _, _, _⟩) ?_)
  refine Stop.mk ?_
  refine wpList_set_cell rfl _ _ rfl size_int Y.q 3 rfl (.int .i64 (T.n + 1)) rfl rfl rfl _ _ H2.out.bank (by simp [rbank]) ?_
  intro w3 hw3
  have H3 : Hid (RefD w3 Y { T with n := T.n + 1 }) := Lib.hid (H2.out.put_bank (lv' := Y.lv) (T' := { T with n := T.n + 1 }) rfl hw3 H2.out.loo)
  have HX3 := Lib.hid ((hw3.oth X HXq.out.1).trans HX2.out)
  have HZ3 := Lib.hid ((hw3.oth Z HXq.out.2).trans HZ2.out)
  have HB3 : Hid (But Y.In w w3) := Lib.hid ((But.kept HK2.out).trans (But.wrote hw3 (.inl rfl)))
  have hsz3 : Hid (w2.heap.size = w3.heap.size) := Lib.hid hw3.size.symm
  clear hw3 HX2 HZ2 b2 b3 H2 HK2 H
  obtain ⟨ao, cap, hL, hrow⟩ := H3.out.lform
  obtain ⟨g, rfl, _⟩ := hrow d hdD
  have b0 := H3.out.b0
  rw [hL] at b0
  have HROW := Lib.hid hrow
  have HLF := Lib.hid hL
  clear hrow hL hup
  have hlen' : ({ T with n := T.n + 1 } : RT).l.length = T.l.length := rfl
  rw [hlen'] at b0
  clear hlen'
  have HT : Hid (∀ k, ({ T with n := T.n + 1 } : RT).d k = T.d k) := Lib.hid fun _ => rfl
  generalize hTl : T.l.length = m at *
  have HTL := Lib.hid hTl; clear hTl
  go_upto_block 0 with fail
  go_cut [] (fun wc => Hid (wc = w3))
  case first =>
    go_wp2
    go_loop [7] (fun i => ∃ k : Nat, k ≤ m ∧ i = .int .i64 k) (fun i => m - (intOf i).toNat)
    case atStart => exact ⟨0, Nat.zero_le _, rfl⟩
    case round =>
      obtain ⟨k, hk, rfl⟩ := hrel
      by_cases hlt : k < m
      · have hkD : k < Y.D.length := by rw [H3.out.len]; show k < T.l.length; rw [HTL.out]; exact hlt
        obtain ⟨g', hg, cr⟩ := HROW.out k hkD
        injection hg with hg
        injection hg with hg
        subst hg
        have cf := H3.out.d3 hkD
        rw [HT.out, HC.out.fail k (by rw [HTL.out]; exact hlt)] at cf
        generalize Y.D[k].1 = bd at *
        go_wp2
        go_round
        case rel => exact ⟨k + 1, hlt, by go_num⟩
        case measure => simp [intOf]; omega
      · have hkm : m ≤ k := by omega
        go_wp2
        go_meet
        case rel => exact Lib.hid rfl
  case rest =>
    obtain rfl := hcut.out
    have b4 := H3.out.b4
    rw [show ({ T with n := T.n + 1 } : RT).armed = 0 from HC.out.arm] at b4
    obtain ⟨p0, p1⟩ := Pl.of HX3.out
    have HP := Lib.hid (ref_place H3.out (by show T.l.length ≤ 32; rw [HTL.out]; exact hl32) (fun k hk => HSZ.out k (by rw [← HTL.out]; exact hk)) (d : Int) (a : Int))
    rw [show ({ T with n := T.n + 1 } : RT).placeE (d : Int) (a : Int) = 0 from HPL.out] at HP
    go_wp2_with fail
    refine Calls.mono HP.out ?_
    rintro e w4 ⟨rfl, hk4⟩
    have H4 := Lib.hid (H3.out.kept hk4)
    have HX4 := Lib.hid (hk4.block HX3.out)
    have HZ4 := Lib.hid (hk4.block HZ3.out)
    have HB4 := Lib.hid (HB3.out.trans (But.kept hk4))
    replace b0 := hk4.cell' b0
    obtain ⟨g', hg, cr⟩ := HROW.out d hdD
    injection hg with hg
    injection hg with hg
    subst hg
    replace cr := hk4.cell' cr
    have cn := H4.out.d1 hdD
    rw [HT.out] at cn
    clear hk4 H3 HX3 HZ3 HB3 b4 p0 p1 HP hcut
    have hal := HAL.out
    have hal2 : (T.d d).new.length ≤ 4096 := HSZ.out d hd
    have HNB : Hid (w4.heap[Y.D[d].2.2]? = some (.cells (secs (T.d d).new).toArray 43 (0, 0))) := Lib.hid (H4.out.new d hdD)
    have HJ : Hid (splice (secs (T.d d).new) (a * 64) (u8s s) = secs ((T.d d).new.set a s)) := Lib.hid (splice_flat _ (fun x hx => (HOK.out.new.2 x hx).1) a hal s HS.out)
    have HQ : Hid ((secs (T.d d).new).length = (T.d d).new.length * 64) := Lib.hid (secs_length _ (fun x hx => (HOK.out.new.2 x hx).1))
    have HPN := Lib.hid fun (w5 : World) (hw : Wrote w4.drew w5 Y.D[d].2.2 (secs ((T.d d).new.set a s)) 43) => (H4.out.kept (Kept.refl w4).drew).put_new hdD (l := (T.d d).new.set a s) (by rw [List.length_set]; rfl) hw
    have HBN := Lib.hid fun (w5 : World) (hw : Wrote w4.drew w5 Y.D[d].2.2 (secs ((T.d d).new.set a s)) 43) => (HB4.out.trans (But.kept (Kept.refl w4).drew)).trans (But.wrote hw (.inr (.inr (.inr ⟨_, List.getElem_mem hdD, .inr (.inr rfl)⟩))))
    have HXn : Hid (X ≠ Y.D[d].2.2) := Lib.hid (block_ty HX4.out HNB.out (by decide))
    generalize hbn : Y.D[d].2.2 = bn at *
    generalize hbd : Y.D[d].1 = bd at *
    generalize hzl : (T.d d).new.length = zl at *
    clear hbn hbd hzl
    obtain ⟨p0, p1⟩ := Pl.of HX4.out
    go_upto_region 18 with fail
    have hS : Kept w4 w4.drew := (Kept.refl _).drew
    refine wp_region_calm ?_
    refine wp_region_E (fun W => Kept w4 W) 15 (by kernel_rfl) ?_
    refine wpAnyE_take (i := 0) (v := ?_) (listed' := #[true, false, false, false, false, false, false, false, false, false, false, false, false, false, false, false]) (by rfl) (by kernel_rfl) (by kernel_rfl) calm_put hS (by rfl) ?_ ?_
    rotate_left
    · intro W hW; clear hW; go_simp; try (with_reducible rfl)
    simp only [Act.put, List.getElem_toArray, List.getElem_cons_succ, List.getElem_cons_zero, List.setIfInBounds_toArray, List.set_cons_zero, List.set_cons_succ]
    refine wpAnyE_take (i := 1) (v := ?_) (listed' := #[true, true, false, false, false, false, false, false, false, false, false, false, false, false, false, false]) (by rfl) (by kernel_rfl) (by kernel_rfl) calm_put hS (by rfl) ?_ ?_
    rotate_left
    · intro W hW; clear hW; go_simp; try (with_reducible rfl)
    simp only [Act.put, List.getElem_toArray, List.getElem_cons_succ, List.getElem_cons_zero, List.setIfInBounds_toArray, List.set_cons_zero, List.set_cons_succ]
    refine wpAnyE_take (i := 2) (v := ?_) (listed' := #[true, true, true, false, false, false, false, false, false, false, false, false, false, false, false, false]) (by rfl) (by kernel_rfl) (by kernel_rfl) calm_put hS (by rfl) ?_ ?_
    rotate_left
    · intro W hW; clear hW; go_simp; try (with_reducible rfl)
    simp only [Act.put, List.getElem_toArray, List.getElem_cons_succ, List.getElem_cons_zero, List.setIfInBounds_toArray, List.set_cons_zero, List.set_cons_succ]
    refine wpAnyE_take (i := 3) (v := ?_) (listed' := #[true, true, true, true, false, false, false, false, false, false, false, false, false, false, false, false]) (by rfl) (by kernel_rfl) (by kernel_rfl) calm_put hS (by rfl) ?_ ?_
    rotate_left
    · intro W hW; have b0' := hW.cell' b0; have cr' := hW.cell' cr; have cn' := hW.cell' cn; have p0' := hW.cell' p0; have p1' := hW.cell' p1; go_simp; try (with_reducible rfl)
    simp only [Act.put, List.getElem_toArray, List.getElem_cons_succ, List.getElem_cons_zero, List.setIfInBounds_toArray, List.set_cons_zero, List.set_cons_succ]
    refine wpAnyE_take (i := 4) (v := ?_) (listed' := #[true, true, true, true, true, false, false, false, false, false, false, false, false, false, false, false]) (by rfl) (by kernel_rfl) (by kernel_rfl) calm_put hS (by rfl) ?_ ?_
    rotate_left
    · intro W hW; clear hW; go_simp; try (with_reducible rfl)
    simp only [Act.put, List.getElem_toArray, List.getElem_cons_succ, List.getElem_cons_zero, List.setIfInBounds_toArray, List.set_cons_zero, List.set_cons_succ]
    refine wpAnyE_take (i := 5) (v := ?_) (listed' := #[true, true, true, true, true, true, false, false, false, false, false, false, false, false, false, false]) (by rfl) (by kernel_rfl) (by kernel_rfl) calm_put hS (by rfl) ?_ ?_
    rotate_left
    · intro W hW; have b0' := hW.cell' b0; have cr' := hW.cell' cr; have cn' := hW.cell' cn; have p0' := hW.cell' p0; have p1' := hW.cell' p1; go_simp; try (with_reducible rfl)
    simp only [Act.put, List.getElem_toArray, List.getElem_cons_succ, List.getElem_cons_zero, List.setIfInBounds_toArray, List.set_cons_zero, List.set_cons_succ]
    refine wpAnyE_take (i := 6) (v := ?_) (listed' := #[true, true, true, true, true, true, true, false, false, false, false, false, false, false, false, false]) (by rfl) (by kernel_rfl) (by kernel_rfl) calm_put hS (by rfl) ?_ ?_
    rotate_left
    · intro W hW; clear hW; go_simp; try (with_reducible rfl)
    simp only [Act.put, List.getElem_toArray, List.getElem_cons_succ, List.getElem_cons_zero, List.setIfInBounds_toArray, List.set_cons_zero, List.set_cons_succ]
    refine wpAnyE_take (i := 7) (v := ?_) (listed' := #[true, true, true, true, true, true, true, true, false, false, false, false, false, false, false, false]) (by rfl) (by kernel_rfl) (by kernel_rfl) calm_put hS (by rfl) ?_ ?_
    rotate_left
    · intro W hW; have b0' := hW.cell' b0; have cr' := hW.cell' cr; have cn' := hW.cell' cn; have p0' := hW.cell' p0; have p1' := hW.cell' p1; go_simp; try (with_reducible rfl)
    simp only [Act.put, List.getElem_toArray, List.getElem_cons_succ, List.getElem_cons_zero, List.setIfInBounds_toArray, List.set_cons_zero, List.set_cons_succ]
    refine wpAnyE_take (i := 8) (v := ?_) (listed' := #[true, true, true, true, true, true, true, true, true, false, false, false, false, false, false, false]) (by rfl) (by kernel_rfl) (by kernel_rfl) calm_put hS (by rfl) ?_ ?_
    rotate_left
    · intro W hW; clear hW; go_simp; try (with_reducible rfl)
    simp only [Act.put, List.getElem_toArray, List.getElem_cons_succ, List.getElem_cons_zero, List.setIfInBounds_toArray, List.set_cons_zero, List.set_cons_succ]
    refine wpAnyE_take (i := 9) (v := ?_) (listed' := #[true, true, true, true, true, true, true, true, true, true, false, false, false, false, false, false]) (by rfl) (by kernel_rfl) (by kernel_rfl) calm_put hS (by rfl) ?_ ?_
    rotate_left
    · intro W hW; clear hW; go_simp; try (with_reducible rfl)
    simp only [Act.put, List.getElem_toArray, List.getElem_cons_succ, List.getElem_cons_zero, List.setIfInBounds_toArray, List.set_cons_zero, List.set_cons_succ]
    refine wpAnyE_take (i := 10) (v := ?_) (listed' := #[true, true, true, true, true, true, true, true, true, true, true, false, false, false, false, false]) (by rfl) (by kernel_rfl) (by kernel_rfl) calm_put hS (by rfl) ?_ ?_
    rotate_left
    · intro W hW; have b0' := hW.cell' b0; have cr' := hW.cell' cr; have cn' := hW.cell' cn; have p0' := hW.cell' p0; have p1' := hW.cell' p1; go_simp; try (with_reducible rfl)
    simp only [Act.put, List.getElem_toArray, List.getElem_cons_succ, List.getElem_cons_zero, List.setIfInBounds_toArray, List.set_cons_zero, List.set_cons_succ]
    refine wpAnyE_take (i := 11) (v := ?_) (listed' := #[true, true, true, true, true, true, true, true, true, true, true, true, false, false, false, false]) (by rfl) (by kernel_rfl) (by kernel_rfl) calm_put hS (by rfl) ?_ ?_
    rotate_left
    · intro W hW; clear hW; go_simp; try (with_reducible rfl)
    simp only [Act.put, List.getElem_toArray, List.getElem_cons_succ, List.getElem_cons_zero, List.setIfInBounds_toArray, List.set_cons_zero, List.set_cons_succ]
    refine wpAnyE_take (i := 12) (v := ?_) (listed' := #[true, true, true, true, true, true, true, true, true, true, true, true, true, false, false, false]) (by rfl) (by kernel_rfl) (by kernel_rfl) calm_put hS (by rfl) ?_ ?_
    rotate_left
    · intro W hW; have b0' := hW.cell' b0; have cr' := hW.cell' cr; have cn' := hW.cell' cn; have p0' := hW.cell' p0; have p1' := hW.cell' p1; go_simp; try (with_reducible rfl)
    simp only [Act.put, List.getElem_toArray, List.getElem_cons_succ, List.getElem_cons_zero, List.setIfInBounds_toArray, List.set_cons_zero, List.set_cons_succ]
    refine wpAnyE_take (i := 13) (v := .agg (u8s s).toArray) (listed' := #[true, true, true, true, true, true, true, true, true, true, true, true, true, true, false, false]) (by rfl) (by kernel_rfl) (by kernel_rfl) calm_put hS (by rfl) ?_ ?_
    · intro W hW; have b0' := hW.cell' b0; have cr' := hW.cell' cr; have cn' := hW.cell' cn; have p0' := hW.cell' p0; have p1' := hW.cell' p1; exact exec_load_sec _ rfl Z rfl s HS.out (Cells.of_block (hW.block HZ4.out))
    simp only [Act.put, List.getElem_toArray, List.getElem_cons_succ, List.getElem_cons_zero, List.setIfInBounds_toArray, List.set_cons_zero, List.set_cons_succ]
    refine wpAnyE_take (i := 14) (v := ?_) (listed' := #[true, true, true, true, true, true, true, true, true, true, true, true, true, true, true, false]) (by rfl) (by kernel_rfl) (by kernel_rfl) calm_put hS (by rfl) ?_ ?_
    rotate_left
    · intro W hW; clear hW; go_simp; try (with_reducible rfl)
    simp only [Act.put, List.getElem_toArray, List.getElem_cons_succ, List.getElem_cons_zero, List.setIfInBounds_toArray, List.set_cons_zero, List.set_cons_succ]
    refine wpAnyE_one (i := 15) (listed' := #[true, true, true, true, true, true, true, true, true, true, true, true, true, true, true, true]) (by rfl) (by kernel_rfl) (by kernel_rfl) (by rfl) (fun K hK => ?_)
    simp only [Act.put, List.getElem_toArray, List.getElem_cons_succ, List.getElem_cons_zero, List.setIfInBounds_toArray, List.set_cons_zero, List.set_cons_succ]
    refine wp_store_agg _ _ rfl ty_sec bn (a * 64) rfl (u8s s) rfl (by rw [u8s_length, HS.out]) (u8s_one _) _ _ (hS.block HNB.out) (by rw [HQ.out]; omega) ?_
    intro w5 hw5
    rw [HJ.out] at hw5
    refine hK _ _ (fun h => absurd rfl h) ?_; clear hK K
    refine wpAnyE_done (by kernel_rfl) ?_ _
    refine calm_normal ?_
    have H5 := Lib.hid (HPN.out w5 hw5)
    have HB5 := Lib.hid (HBN.out w5 hw5)
    have HX5 := Lib.hid ((hw5.oth X HXn.out).trans ((Kept.refl w4).drew.block HX4.out))
    clear hS p0 p1 cr cn b0 hw5 HPN HBN HXn HNB HJ HQ H4 HX4 HZ4 HB4 hal hal2
    obtain ⟨lo, lc, hlv, hrowl⟩ := H5.out.pl
    have c1 := H5.out.b1
    rw [hlv] at c1
    have HROWL := Lib.hid hrowl
    have HLV := Lib.hid hlv
    clear hrowl hlv
    have hT1 : ∀ m' : RMed, (({ T with n := T.n + 1 } : RT).up d m').loose = T.loose := fun _ => rfl
    have HLL : Hid (∀ i (hi : i < T.loose.length), ∃ g, lo = some ⟨g, 0, none⟩ ∧ Cells w5 g (i * 2) [.int .i64 (T.loose[i].1 : Int), .int .i64 (T.loose[i].2 : Int)]) := HROWL
    obtain ⟨ll, hll⟩ : ∃ ll, T.loose.length = ll := ⟨_, rfl⟩
    have HLVF : Hid (Y.lv = .slice lo ll lc) := Lib.hid (by rw [← hll]; exact HLV.out)
    replace c1 : w5.cell? ⟨Y.q, 1, none⟩ = some (.slice lo ll lc) := by rw [← hll]; exact c1
    clear HROWL HLV hT1
    have HPUT : Hid (∀ L, (if (d, a) ∈ T.loose then T.loose else T.loose ++ [(d, a)]) = L → T.put d a s = { (({ T with n := T.n + 1 } : RT).up d { ({ T with n := T.n + 1 } : RT).d d with new := (T.d d).new.set a s }) with loose := L }) := Lib.hid fun L hL => by unfold RT.put; rw [hL]; rfl
    have hmany : ll < 9000 := by rw [← hll]; exact HMANY.out
    have HLLN := Lib.hid hll; clear hll
    go_wp2
    go_loopw [9] (fun i wr => ∃ k : Nat, k ≤ ll ∧ i = .int .i64 k ∧ Hid (Kept w5 wr) ∧ Hid (∀ j, j < k → T.loose[j]? ≠ some (d, a))) (fun i _ => ll - (intOf i).toNat)
    case atStart => exact ⟨0, Nat.zero_le _, rfl, Lib.hid (Kept.refl _), Lib.hid fun j hj => absurd hj (Nat.not_lt_zero _)⟩
    case round =>
      obtain ⟨k, hk, rfl, HKW, HNO⟩ := hrel
      have c1' := HKW.out.cell' c1
      by_cases hlt : k < ll
      · have hkl : k < T.loose.length := by rw [HLLN.out]; exact hlt
        obtain ⟨lg, rfl, hcl⟩ := HLL.out k hkl
        have HCL := Lib.hid (Cells.kept hcl HKW.out)
        have hget : T.loose[k]? = some T.loose[k] := List.getElem?_eq_getElem hkl
        have HGET := Lib.hid hget
        have heq : (((T.loose[k].1 : Int) == (d : Int)) && ((T.loose[k].2 : Int) == (a : Int))) = true ∨ (((T.loose[k].1 : Int) == (d : Int)) && ((T.loose[k].2 : Int) == (a : Int))) = false := by cases (((T.loose[k].1 : Int) == (d : Int)) && ((T.loose[k].2 : Int) == (a : Int))) <;> simp
        have HKEY : Hid ((((T.loose[k].1 : Int) == (d : Int)) && ((T.loose[k].2 : Int) == (a : Int))) = true ↔ T.loose[k] = (d, a)) := Lib.hid (by
          simp only [Bool.and_eq_true, beq_iff_eq]
          constructor
          · rintro ⟨e1, e2⟩; exact Prod.ext (by omega) (by omega)
          · intro e; rw [e]; exact ⟨rfl, rfl⟩)
        clear hcl hget
        generalize T.loose[k] = pk at *
        have HXW := Lib.hid (HKW.out.block HX5.out)
        go_upto_region 22 with fail
        have hS : Kept wr wr.drew := (Kept.refl _).drew
        rcases heq with heq | heq
        · have HEQ := Lib.hid heq
          refine wp_region_calm ?_
          refine wp_region_E (fun W => Kept wr W) 100 (by kernel_rfl) ?_
          refine wpAnyE_take (i := 0) (v := ?_) (listed' := #[true, false, false, false, false, false, false, false, false]) (by rfl) (by kernel_rfl) (by kernel_rfl) calm_put hS (by rfl) ?_ ?_
          rotate_left
          · intro W hW; clear hW; go_simp; try (with_reducible rfl)
          simp only [Act.put, List.getElem_toArray, List.getElem_cons_succ, List.getElem_cons_zero, List.setIfInBounds_toArray, List.set_cons_zero, List.set_cons_succ]
          refine wpAnyE_take (i := 1) (v := ?_) (listed' := #[true, true, false, false, false, false, false, false, false]) (by rfl) (by kernel_rfl) (by kernel_rfl) calm_put hS (by rfl) ?_ ?_
          rotate_left
          · intro W hW; clear hW; go_simp; try (with_reducible rfl)
          simp only [Act.put, List.getElem_toArray, List.getElem_cons_succ, List.getElem_cons_zero, List.setIfInBounds_toArray, List.set_cons_zero, List.set_cons_succ]
          refine wpAnyE_take (i := 2) (v := ?_) (listed' := #[true, true, true, false, false, false, false, false, false]) (by rfl) (by kernel_rfl) (by kernel_rfl) calm_put hS (by rfl) ?_ ?_
          rotate_left
          · intro W hW; clear hW; go_simp; try (with_reducible rfl)
          simp only [Act.put, List.getElem_toArray, List.getElem_cons_succ, List.getElem_cons_zero, List.setIfInBounds_toArray, List.set_cons_zero, List.set_cons_succ]
          refine wpAnyE_take (i := 3) (v := ?_) (listed' := #[true, true, true, true, false, false, false, false, false]) (by rfl) (by kernel_rfl) (by kernel_rfl) calm_put hS (by rfl) ?_ ?_
          rotate_left
          · intro W hW; have c1'' := hW.cell' c1'; go_simp; try (with_reducible rfl)
          simp only [Act.put, List.getElem_toArray, List.getElem_cons_succ, List.getElem_cons_zero, List.setIfInBounds_toArray, List.set_cons_zero, List.set_cons_succ]
          refine wpAnyE_take (i := 4) (v := ?_) (listed' := #[true, true, true, true, true, false, false, false, false]) (by rfl) (by kernel_rfl) (by kernel_rfl) calm_put hS (by rfl) ?_ ?_
          rotate_left
          · intro W hW; clear hW; go_simp; try (with_reducible rfl)
          simp only [Act.put, List.getElem_toArray, List.getElem_cons_succ, List.getElem_cons_zero, List.setIfInBounds_toArray, List.set_cons_zero, List.set_cons_succ]
          refine wpAnyE_take (i := 5) (v := ?_) (listed' := #[true, true, true, true, true, true, false, false, false]) (by rfl) (by kernel_rfl) (by kernel_rfl) calm_put hS (by rfl) ?_ ?_
          rotate_left
          · intro W hW; clear hW; go_simp; try (with_reducible rfl)
          simp only [Act.put, List.getElem_toArray, List.getElem_cons_succ, List.getElem_cons_zero, List.setIfInBounds_toArray, List.set_cons_zero, List.set_cons_succ]
          refine wpAnyE_take (i := 6) (v := .agg #[.int .i64 (pk.1 : Int), .int .i64 (pk.2 : Int)]) (listed' := #[true, true, true, true, true, true, true, false, false]) (by rfl) (by kernel_rfl) (by kernel_rfl) calm_put hS (by rfl) ?_ ?_
          · intro W hW; have c1'' := hW.cell' c1'; exact exec_load_plcO _ rfl lg (k * 2) rfl [.int .i64 (pk.1 : Int), .int .i64 (pk.2 : Int)] rfl (Cells.kept HCL.out hW)
          simp only [Act.put, List.getElem_toArray, List.getElem_cons_succ, List.getElem_cons_zero, List.setIfInBounds_toArray, List.set_cons_zero, List.set_cons_succ]
          refine wpAnyE_take (i := 7) (v := .agg #[.int .i64 (d : Int), .int .i64 (a : Int)]) (listed' := #[true, true, true, true, true, true, true, true, false]) (by rfl) (by kernel_rfl) (by kernel_rfl) calm_put hS (by rfl) ?_ ?_
          · intro W hW; have c1'' := hW.cell' c1'; exact exec_load_plc _ rfl X rfl [.int .i64 (d : Int), .int .i64 (a : Int)] rfl (Cells.of_block (hW.block HXW.out))
          simp only [Act.put, List.getElem_toArray, List.getElem_cons_succ, List.getElem_cons_zero, List.setIfInBounds_toArray, List.set_cons_zero, List.set_cons_succ]
          refine wpAnyE_take (i := 8) (v := .bool true) (listed' := #[true, true, true, true, true, true, true, true, true]) (by rfl) (by kernel_rfl) (by kernel_rfl) calm_put hS (by rfl) ?_ ?_
          · intro W hW; clear hW; exact exec_eq_plcB _ _ rfl _ _ _ _ true HEQ.out rfl rfl
          simp only [Act.put, List.getElem_toArray, List.getElem_cons_succ, List.getElem_cons_zero, List.setIfInBounds_toArray, List.set_cons_zero, List.set_cons_succ]
          refine wpAnyE_done (by kernel_rfl) ?_ _
          refine calm_normal ?_
          have hmem : (d, a) ∈ T.loose := by
            rw [HKEY.out.1 HEQ.out] at HGET
            exact List.mem_of_getElem? HGET.out
          have HFIN := Lib.hid (HPUT.out _ (if_pos hmem))
          have HK2 := Lib.hid (HKW.out.trans hS)
          clear heq hmem hS
          go_wp2
          go_ret
          exact ⟨rfl, Y, by rw [HFIN.out]; exact H5.out.kept HK2.out, rfl, fun b hb => .inl hb, HB5.out.trans (But.kept HK2.out)⟩
        · have HEQ := Lib.hid heq
          refine wp_region_calm ?_
          refine wp_region_E (fun W => Kept wr W) 100 (by kernel_rfl) ?_
          refine wpAnyE_take (i := 0) (v := ?_) (listed' := #[true, false, false, false, false, false, false, false, false]) (by rfl) (by kernel_rfl) (by kernel_rfl) calm_put hS (by rfl) ?_ ?_
          rotate_left
          · intro W hW; clear hW; go_simp; try (with_reducible rfl)
          simp only [Act.put, List.getElem_toArray, List.getElem_cons_succ, List.getElem_cons_zero, List.setIfInBounds_toArray, List.set_cons_zero, List.set_cons_succ]
          refine wpAnyE_take (i := 1) (v := ?_) (listed' := #[true, true, false, false, false, false, false, false, false]) (by rfl) (by kernel_rfl) (by kernel_rfl) calm_put hS (by rfl) ?_ ?_
          rotate_left
          · intro W hW; clear hW; go_simp; try (with_reducible rfl)
          simp only [Act.put, List.getElem_toArray, List.getElem_cons_succ, List.getElem_cons_zero, List.setIfInBounds_toArray, List.set_cons_zero, List.set_cons_succ]
          refine wpAnyE_take (i := 2) (v := ?_) (listed' := #[true, true, true, false, false, false, false, false, false]) (by rfl) (by kernel_rfl) (by kernel_rfl) calm_put hS (by rfl) ?_ ?_
          rotate_left
          · intro W hW; clear hW; go_simp; try (with_reducible rfl)
          simp only [Act.put, List.getElem_toArray, List.getElem_cons_succ, List.getElem_cons_zero, List.setIfInBounds_toArray, List.set_cons_zero, List.set_cons_succ]
          refine wpAnyE_take (i := 3) (v := ?_) (listed' := #[true, true, true, true, false, false, false, false, false]) (by rfl) (by kernel_rfl) (by kernel_rfl) calm_put hS (by rfl) ?_ ?_
          rotate_left
          · intro W hW; have c1'' := hW.cell' c1'; go_simp; try (with_reducible rfl)
          simp only [Act.put, List.getElem_toArray, List.getElem_cons_succ, List.getElem_cons_zero, List.setIfInBounds_toArray, List.set_cons_zero, List.set_cons_succ]
          refine wpAnyE_take (i := 4) (v := ?_) (listed' := #[true, true, true, true, true, false, false, false, false]) (by rfl) (by kernel_rfl) (by kernel_rfl) calm_put hS (by rfl) ?_ ?_
          rotate_left
          · intro W hW; clear hW; go_simp; try (with_reducible rfl)
          simp only [Act.put, List.getElem_toArray, List.getElem_cons_succ, List.getElem_cons_zero, List.setIfInBounds_toArray, List.set_cons_zero, List.set_cons_succ]
          refine wpAnyE_take (i := 5) (v := ?_) (listed' := #[true, true, true, true, true, true, false, false, false]) (by rfl) (by kernel_rfl) (by kernel_rfl) calm_put hS (by rfl) ?_ ?_
          rotate_left
          · intro W hW; clear hW; go_simp; try (with_reducible rfl)
          simp only [Act.put, List.getElem_toArray, List.getElem_cons_succ, List.getElem_cons_zero, List.setIfInBounds_toArray, List.set_cons_zero, List.set_cons_succ]
          refine wpAnyE_take (i := 6) (v := .agg #[.int .i64 (pk.1 : Int), .int .i64 (pk.2 : Int)]) (listed' := #[true, true, true, true, true, true, true, false, false]) (by rfl) (by kernel_rfl) (by kernel_rfl) calm_put hS (by rfl) ?_ ?_
          · intro W hW; have c1'' := hW.cell' c1'; exact exec_load_plcO _ rfl lg (k * 2) rfl [.int .i64 (pk.1 : Int), .int .i64 (pk.2 : Int)] rfl (Cells.kept HCL.out hW)
          simp only [Act.put, List.getElem_toArray, List.getElem_cons_succ, List.getElem_cons_zero, List.setIfInBounds_toArray, List.set_cons_zero, List.set_cons_succ]
          refine wpAnyE_take (i := 7) (v := .agg #[.int .i64 (d : Int), .int .i64 (a : Int)]) (listed' := #[true, true, true, true, true, true, true, true, false]) (by rfl) (by kernel_rfl) (by kernel_rfl) calm_put hS (by rfl) ?_ ?_
          · intro W hW; have c1'' := hW.cell' c1'; exact exec_load_plc _ rfl X rfl [.int .i64 (d : Int), .int .i64 (a : Int)] rfl (Cells.of_block (hW.block HXW.out))
          simp only [Act.put, List.getElem_toArray, List.getElem_cons_succ, List.getElem_cons_zero, List.setIfInBounds_toArray, List.set_cons_zero, List.set_cons_succ]
          refine wpAnyE_take (i := 8) (v := .bool false) (listed' := #[true, true, true, true, true, true, true, true, true]) (by rfl) (by kernel_rfl) (by kernel_rfl) calm_put hS (by rfl) ?_ ?_
          · intro W hW; clear hW; exact exec_eq_plcB _ _ rfl _ _ _ _ false HEQ.out rfl rfl
          simp only [Act.put, List.getElem_toArray, List.getElem_cons_succ, List.getElem_cons_zero, List.setIfInBounds_toArray, List.set_cons_zero, List.set_cons_succ]
          refine wpAnyE_done (by kernel_rfl) ?_ _
          refine calm_normal ?_
          have HK2 := Lib.hid (HKW.out.trans hS)
          have HNO2 : Hid (∀ j, j < k + 1 → T.loose[j]? ≠ some (d, a)) := Lib.hid fun j hj => by
            by_cases e : j = k
            · rw [e, HGET.out]
              intro e2
              injection e2 with e2
              have := HKEY.out.2 e2
              rw [HEQ.out] at this; cases this
            · exact HNO.out j (by omega)
          clear heq hS
          go_wp2
          go_roundw
          case rel => exact ⟨k + 1, hlt, by go_num, HK2, HNO2⟩
          case measure => simp [intOf]; omega
      · have hkl : ll ≤ k := by omega
        have hnm : (d, a) ∉ T.loose := fun hm => by
          obtain ⟨j, hj, e⟩ := List.getElem_of_mem hm
          exact HNO.out j (by rw [HLLN.out] at hj; omega) (by rw [List.getElem?_eq_getElem hj, e])
        have HFIN := Lib.hid (HPUT.out _ (if_neg hnm))
        have H6 := Lib.hid (H5.out.kept (HKW.out.trans (Kept.refl wr).drew))
        have HX6 := Lib.hid (((HKW.out.trans (Kept.refl wr).drew)).block HX5.out)
        have HB6 := Lib.hid (HB5.out.trans (But.kept (HKW.out.trans (Kept.refl wr).drew)))
        clear hnm HNO
        go_upto_region 24 with fail
        have hS : wr.drew.cell? ⟨Y.q, 1, none⟩ = some (.slice lo ll lc) ∧ Pl wr.drew X (d : Int) (a : Int) := ⟨(Kept.refl _).drew.cell' c1', Pl.of HX6.out⟩
        obtain ⟨B, hB⟩ : ∃ B, B = Obj.cells #[Value.int .i64 (d : Int), .int .i64 (a : Int)] 47 := ⟨_, rfl⟩
        obtain ⟨w8, hw8⟩ : ∃ w8, w8 = (wr.alloc B).drew := ⟨_, rfl⟩
        have hk8 : Kept wr.drew w8 := by rw [hw8]; show Kept wr.drew (wr.drew.alloc B); exact (Kept.refl _).alloc _
        have bb : w8.heap[wr.drew.heap.size]? = some B := by rw [hw8]; exact heap_alloc_new wr.drew B
        rw [hB] at bb
        subst hB
        have h8 := H6.out.kept hk8
        obtain ⟨v', w9, hrun, hown, hgrw⟩ := own_append ty_places (b := wr.drew.heap.size) h8.loo (by show T.loose.length < 20000; rw [HLLN.out]; omega) (by decide) [.int .i64 (d : Int), .int .i64 (a : Int)] rfl (fun j u hu => by
          match j with
          | 0 => simp at hu; subst hu; exact cell_of_row _ _ 0 _ _ _ bb
          | 1 => simp at hu; subst hu; exact cell_of_row _ _ 1 _ _ _ bb
          | j + 2 => simp at hu) (one_plc _ _) 39
        have hnq : Y.lv.ownBlock ≠ some Y.q := own_other h8.loo h8.bank (by decide)
        have hq9 : w9.heap[Y.q]? = w8.heap[Y.q]? := hgrw.blk (h8.lt (.inl rfl)) hnq
        have hS8 : w8.cell? ⟨Y.q, 1, none⟩ = some (.slice lo ll lc) ∧ Pl w8 X (d : Int) (a : Int) := ⟨hk8.cell' hS.1, hS.2.kept hk8⟩
        have hxn : Y.lv.ownBlock ≠ some X := fun e => by
          have h1 : Y.In X := .inr (.inr (.inl e))
          have h2 := HIN.out X h1
          have h3 := HXe.out
          omega
        have hS9 : w9.cell? ⟨Y.q, 1, none⟩ = some (.slice lo ll lc) ∧ Pl w9 X (d : Int) (a : Int) := ⟨(World.cell?_of_block (a := ⟨Y.q, 1, none⟩) hq9).trans hS8.1, hS8.2.same (hgrw.blk (Array.getElem?_eq_some_iff.1 (hk8.block HX6.out)).1 hxn)⟩
        obtain ⟨bo, cap', hvf⟩ : ∃ bo cap', v' = .slice bo (T.loose.length + 1) cap' := by
          rcases hown.2 with ⟨_, h0⟩ | ⟨g, c, cur, e, _⟩
          · cases h0
          · exact ⟨_, c, e⟩
        have HB9 := Lib.hid (hq9.trans h8.bank)
        have H8 := Lib.hid h8
        have HOWN := Lib.hid hown; have HGRW := Lib.hid hgrw; have HVF := Lib.hid hvf; have HK8 := Lib.hid hk8
        clear bb h8 hnq hq9 hxn hown hgrw hvf hk8
        refine wp_region_calm ?_
        refine wp_region_E (fun W => W.cell? ⟨Y.q, 1, none⟩ = some (.slice lo ll lc) ∧ Pl W X (d : Int) (a : Int)) 10 (by kernel_rfl) ?_
        refine wpAnyE_take (i := 0) (v := ?_) (listed' := #[true, false, false, false, false, false, false, false, false, false, false]) (by rfl) (by kernel_rfl) (by kernel_rfl) calm_put hS (by rfl) ?_ ?_
        rotate_left
        · intro W hW; clear hW; go_simp; try (with_reducible rfl)
        simp only [Act.put, List.getElem_toArray, List.getElem_cons_succ, List.getElem_cons_zero, List.setIfInBounds_toArray, List.set_cons_zero, List.set_cons_succ]
        refine wpAnyE_take (i := 1) (v := ?_) (listed' := #[true, true, false, false, false, false, false, false, false, false, false]) (by rfl) (by kernel_rfl) (by kernel_rfl) calm_put hS (by rfl) ?_ ?_
        rotate_left
        · intro W hW; clear hW; go_simp; try (with_reducible rfl)
        simp only [Act.put, List.getElem_toArray, List.getElem_cons_succ, List.getElem_cons_zero, List.setIfInBounds_toArray, List.set_cons_zero, List.set_cons_succ]
        refine wpAnyE_take (i := 2) (v := ?_) (listed' := #[true, true, true, false, false, false, false, false, false, false, false]) (by rfl) (by kernel_rfl) (by kernel_rfl) calm_put hS (by rfl) ?_ ?_
        rotate_left
        · intro W hW; clear hW; go_simp; try (with_reducible rfl)
        simp only [Act.put, List.getElem_toArray, List.getElem_cons_succ, List.getElem_cons_zero, List.setIfInBounds_toArray, List.set_cons_zero, List.set_cons_succ]
        refine wpAnyE_take (i := 3) (v := ?_) (listed' := #[true, true, true, true, false, false, false, false, false, false, false]) (by rfl) (by kernel_rfl) (by kernel_rfl) calm_put hS (by rfl) ?_ ?_
        rotate_left
        · intro W hW; clear hW; go_simp; try (with_reducible rfl)
        simp only [Act.put, List.getElem_toArray, List.getElem_cons_succ, List.getElem_cons_zero, List.setIfInBounds_toArray, List.set_cons_zero, List.set_cons_succ]
        refine wpAnyE_take (i := 4) (v := ?_) (listed' := #[true, true, true, true, true, false, false, false, false, false, false]) (by rfl) (by kernel_rfl) (by kernel_rfl) calm_put hS (by rfl) ?_ ?_
        rotate_left
        · intro W hW; obtain ⟨c1'', p0, p1⟩ := hW; go_simp; try (with_reducible rfl)
        simp only [Act.put, List.getElem_toArray, List.getElem_cons_succ, List.getElem_cons_zero, List.setIfInBounds_toArray, List.set_cons_zero, List.set_cons_succ]
        refine wpAnyE_take (i := 5) (v := ?_) (listed' := #[true, true, true, true, true, true, false, false, false, false, false]) (by rfl) (by kernel_rfl) (by kernel_rfl) calm_put hS (by rfl) ?_ ?_
        rotate_left
        · intro W hW; obtain ⟨c1'', p0, p1⟩ := hW; go_simp; try (with_reducible rfl)
        simp only [Act.put, List.getElem_toArray, List.getElem_cons_succ, List.getElem_cons_zero, List.setIfInBounds_toArray, List.set_cons_zero, List.set_cons_succ]
        refine wpAnyE_one (i := 6) (listed' := #[true, true, true, true, true, true, true, false, false, false, false]) (by rfl) (by kernel_rfl) (by kernel_rfl) (by rfl) (fun K hK => ?_)
        simp only [Act.put, List.getElem_toArray, List.getElem_cons_succ, List.getElem_cons_zero, List.setIfInBounds_toArray, List.set_cons_zero, List.set_cons_succ]
        go_wp2
        rw [← hw8]
        have hS := hS8
        refine hK _ _ (fun _ => hS) ?_; clear hK K
        refine wpAnyE_one (i := 7) (listed' := #[true, true, true, true, true, true, true, true, false, false, false]) (by rfl) (by kernel_rfl) (by kernel_rfl) (by rfl) (fun K hK => ?_)
        simp only [Act.put, List.getElem_toArray, List.getElem_cons_succ, List.getElem_cons_zero, List.setIfInBounds_toArray, List.set_cons_zero, List.set_cons_succ]
        refine wp_append_run rfl rfl rfl (by rw [HLVF.out] at hrun; exact hrun) ?_
        have hS := hS9
        refine hK _ _ (fun _ => hS) ?_; clear hK K
        refine wpAnyE_one (i := 8) (listed' := #[true, true, true, true, true, true, true, true, true, false, false]) (by rfl) (by kernel_rfl) (by kernel_rfl) (by rfl) (fun K hK => ?_)
        simp only [Act.put, List.getElem_toArray, List.getElem_cons_succ, List.getElem_cons_zero, List.setIfInBounds_toArray, List.set_cons_zero, List.set_cons_succ]
        go_wp2
        refine hK _ _ (fun _ => hS9) ?_; clear hK K
        refine wpAnyE_take (i := 9) (v := ?_) (listed' := #[true, true, true, true, true, true, true, true, true, true, false]) (by rfl) (by kernel_rfl) (by kernel_rfl) calm_put hS (by rfl) ?_ ?_
        rotate_left
        · intro W hW; clear hW; go_simp; try (with_reducible rfl)
        simp only [Act.put, List.getElem_toArray, List.getElem_cons_succ, List.getElem_cons_zero, List.setIfInBounds_toArray, List.set_cons_zero, List.set_cons_succ]
        refine wpAnyE_one (i := 10) (listed' := #[true, true, true, true, true, true, true, true, true, true, true]) (by rfl) (by kernel_rfl) (by kernel_rfl) (by rfl) (fun K hK => ?_)
        simp only [Act.put, List.getElem_toArray, List.getElem_cons_succ, List.getElem_cons_zero, List.setIfInBounds_toArray, List.set_cons_zero, List.set_cons_succ]
        refine wp_set_cell _ _ rfl size_places Y.q 1 rfl v' rfl (by rw [HVF.out]; rfl) (by rw [HVF.out]; rfl) _ _ HB9.out (by simp [rbank]) ?_
        intro w10 hw10
        refine hK _ _ (fun h => absurd rfl h) ?_; clear hK K
        refine wpAnyE_done (by kernel_rfl) ?_ _
        refine calm_normal ?_
        have hsz8 := HK8.out.size
        have hszr := HB6.out.size
        have HFF : Hid (RefD w10 { Y with lv := v' } (T.put d a s)) := Lib.hid (by
          rw [HFIN.out]
          exact H8.out.put_loose HGRW.out (by rw [pvals_snoc, List.length_append]; exact HOWN.out) hw10)
        have HIN2 : Hid (∀ b, ({ Y with lv := v' } : RLay).In b → Y.In b ∨ w.heap.size ≤ b) := Lib.hid (by
          rintro b (hb | hb | hb | hb)
          · exact .inl (.inl hb)
          · exact .inl (.inr (.inl hb))
          · rcases HGRW.out with ⟨e, _⟩ | ⟨g', e, hge, _, _⟩
            · exact .inl (.inr (.inr (.inl (e ▸ hb))))
            · rw [e] at hb; injection hb with hb; exact .inr (by omega)
          · exact .inl (.inr (.inr (.inr hb))))
        have HBF : Hid (But Y.In w w10) := Lib.hid (by
          have hG6 : But Y.In w8 w9 := by
            rcases HGRW.out with ⟨_, hb⟩ | ⟨_, _, _, _, hk⟩
            · exact hb.mono fun i hi => .inr (.inr (.inl hi))
            · exact But.kept hk
          exact ((HB6.out.trans (But.kept HK8.out)).trans hG6).trans (But.wrote hw10 (.inl rfl)))
        clear hw10 hrun hS hS8 hS9
        go_wp2
        go_ret
        exact ⟨rfl, { Y with lv := v' }, HFF.out, rfl, HIN2.out, HBF.out⟩
end
end Go.Proofs.YtglplhmclfekfaaGreat
/- The document's bank in plain Lean: its calls, and that they are the bank's own, read as the document's. -/
namespace Go.Proofs.YtglplhmclfekfaaGreat
open Go.RowKit
set_option linter.unusedVariables false
set_option linter.unusedSimpArgs false

theorem list_ext_getD {α : Type} {l l' : List α} {d : α} (hl : l.length = l'.length) (h : ∀ a, a < l.length → l.getD a d = l'.getD a d) : l = l' := by
  refine List.ext_getElem hl fun i h1 h2 => ?_
  have := h i h1
  rw [List.getD_eq_getElem?_getD, List.getD_eq_getElem?_getD, List.getElem?_eq_getElem h1, List.getElem?_eq_getElem h2] at this
  exact this
theorem Med.ext_at {m m' : Med} (h : m.Ok) (h' : m'.Ok) (hl : m.sin.length = m'.sin.length) (hf : ∀ a, m.flu.getD a [] = m'.flu.getD a []) (hn : ∀ a, m.new.getD a [] = m'.new.getD a []) (hs : ∀ a, m.sin.getD a 0 = m'.sin.getD a 0) (hd : m.dead = m'.dead) (hx : m.fail = m'.fail) : m = m' := by
  obtain ⟨f, n, s, d, x⟩ := m
  obtain ⟨f', n', s', d', x'⟩ := m'
  simp only at hl hf hn hs hd hx
  have e1 : f = f' := list_ext_getD (by rw [h.flu.1, h'.flu.1]; exact hl) fun a _ => hf a
  have e2 : n = n' := list_ext_getD (by rw [h.new.1, h'.new.1]; exact hl) fun a _ => hn a
  have e3 : s = s' := list_ext_getD hl fun a _ => hs a
  subst e1 e2 e3 hd hx
  rfl
theorem BankT.order_congr {T T' : BankT} (hl : T.l.length = T'.l.length) (hs : ∀ k, (T.d k).sin = (T'.d k).sin) : T.order = T'.order := by
  have h1 : T.since = T'.since := by funext p; unfold BankT.since; rw [hs]
  have h2 : ∀ (m m' : Med) (k j : Nat), m.sin = m'.sin → m.looseTo k j = m'.looseTo k j := fun m m' k j h => by
    induction j with
    | zero => rfl
    | succ j ih => unfold Med.looseTo; rw [ih, h]
  have h3 : ∀ n, T.looseTo n = T'.looseTo n := fun n => by
    induction n with
    | zero => rfl
    | succ n ih => unfold BankT.looseTo; rw [ih, hs, h2 _ _ _ _ (hs n)]
  unfold BankT.order
  rw [h1, h3, hl]
theorem BankT.order_is {T : BankT} (h : T.Inv) {l : List (Nat × Nat)} (hn : l.Nodup) (hm : ∀ p, p ∈ l ↔ p ∈ T.order) (hs : l.Pairwise (fun a b => T.since a ≤ T.since b)) : l = T.order :=
  BankT.order_eq h (((List.perm_ext_iff_of_nodup hn T.nodup_order).2 hm).trans (sortBy_perm _ _)) hs
def ones : Int := 18446744073709551615
theorem bit_ones (i : Nat) : bitOf ones i = true := by
  unfold bitOf ones
  have : (18446744073709551615 : Int).toNat = 2 ^ 64 - 1 := by decide
  rw [this, Nat.testBit_two_pow_sub_one]
  exact decide_eq_true (Nat.mod_lt _ (by decide))
theorem bit_nought (i : Nat) : bitOf 0 i = false := by unfold bitOf; simp
def allM (keep : Bool) : Int := if keep then ones else 0
theorem bit_all (keep : Bool) (i : Nat) : bitOf (allM keep) i = keep := by cases keep; exact bit_nought i; exact bit_ones i
/-- all of a disk that is loose is so no more -/
def BankT.all (T : BankT) (k : Nat) (keep : Bool) : BankT := T.up k ((T.d k).settleTo keep (T.d k).sin.length)
section
variable {T : BankT} {k : Nat}
theorem BankT.flush_all : T.flush k = T.all k true := rfl
theorem BankT.fell_all (hk : k < T.l.length) : T.fell k = (T.up k (T.d k).kill).all k false := by
  unfold BankT.fell BankT.all
  rw [BankT.d_up _ hk, if_pos rfl, BankT.up_up]; rfl
theorem BankT.all_calmer (h : T.Ok) (hk : k < T.l.length) (keep : Bool) : T.Calmer (T.all k keep) ∧ (T.all k keep).Ok :=
  ⟨BankT.Calmer.up hk (Med.settleTo_len _ _ _) (fun a => Med.settleTo_sin (h.d hk) keep (Nat.le_refl _) a), h.up k ((h.d hk).settleTo keep (Nat.le_refl _))⟩
theorem BankT.all_inv (h : T.Inv) (hk : k < T.l.length) (keep : Bool) : (T.all k keep).Inv := (BankT.all_calmer h.ok hk keep).1.inv h (BankT.all_calmer h.ok hk keep).2 h.wr h.ar h.msk
theorem BankT.all_since (h : T.Ok) (hk : k < T.l.length) (keep : Bool) (p : Nat × Nat) : (T.all k keep).since p = if p.1 = k ∧ p.2 < (T.d k).sin.length ∧ 0 < T.since p then 0 else T.since p := by
  unfold BankT.since BankT.all
  rw [BankT.d_up _ hk]
  by_cases e : p.1 = k
  · rw [if_pos e, (Med.settleTo_at (h.d hk) keep p.2 (Nat.le_refl _)).2.2, e]
    simp
  · rw [if_neg e, if_neg (fun h => e h.1)]
theorem BankT.order_all (h : T.Inv) (hk : k < T.l.length) (keep : Bool) : (T.all k keep).order = T.order.filter fun p => decide (p.1 ≠ k) := by
  refine (BankT.order_is (BankT.all_inv h hk keep) (T.nodup_order.sublist List.filter_sublist) (fun p => ?_) ?_).symm
  · rw [List.mem_filter, decide_eq_true_iff, BankT.mem_order, BankT.mem_order, BankT.all_since h.ok hk]
    have hc := (BankT.all_calmer h.ok hk keep).1
    unfold BankT.Has
    rw [hc.len, hc.lens]
    constructor
    · rintro ⟨⟨h1, h2⟩, h3⟩
      exact ⟨h1, by rw [if_neg (fun h => h3 h.1)]; exact h2⟩
    · rintro ⟨h1, h2⟩
      split at h2
      · omega
      · rename_i hn
        refine ⟨⟨h1, h2⟩, fun e => hn ⟨e, ?_, h2⟩⟩
        rw [← e]; exact h1.2
  · refine ((sortBy_sorted T.since _).sublist List.filter_sublist : (T.order.filter _).Pairwise _).imp_of_mem ?_
    intro a b ha hb hab
    have ha2 := (List.mem_filter.1 ha).2
    have hb2 := (List.mem_filter.1 hb).2
    rw [decide_eq_true_iff] at ha2 hb2
    rw [BankT.all_since h.ok hk, BankT.all_since h.ok hk, if_neg (fun h => ha2 h.1), if_neg (fun h => hb2 h.1)]
    exact hab
theorem BankT.all_eq (h : T.Inv) (hk : k < T.l.length) (keep : Bool) : T.all k keep = BankT.settleL (allM keep) (T.order.filter fun p => decide (p.1 = k)) 0 T := by
  have hin : ∀ p ∈ T.order.filter (fun p => decide (p.1 = k)), T.Has p := fun p hp => ((T.mem_order p).1 (List.mem_filter.1 hp).1).1
  have hnd : (T.order.filter fun p => decide (p.1 = k)).Nodup := T.nodup_order.sublist List.filter_sublist
  have hok2 := BankT.Ok.settleL (allM keep) (i := 0) h.ok hin
  have hlen := BankT.settleL_len (allM keep) (T.order.filter fun p => decide (p.1 = k)) 0 T
  obtain ⟨r1, r2, r3, r4, r5⟩ := BankT.settleL_rest (allM keep) (T.order.filter fun p => decide (p.1 = k)) 0 T
  have hall := BankT.all_calmer h.ok hk keep
  have hd : ∀ c, c < T.l.length → (T.all k keep).d c = (BankT.settleL (allM keep) (T.order.filter fun p => decide (p.1 = k)) 0 T).d c := by
    intro c hc
    obtain ⟨d1, d2, d3⟩ := BankT.settleL_dead (allM keep) (T.order.filter fun p => decide (p.1 = k)) 0 T c hin
    have hat := fun a => BankT.settleL_at (allM keep) c a (L := T.order.filter fun p => decide (p.1 = k)) (i := 0) h.ok hin hnd
    have o1 : ((T.all k keep).d c).Ok := hall.2.d (by rw [hall.1.len]; exact hc)
    have o2 : ((BankT.settleL (allM keep) (T.order.filter fun p => decide (p.1 = k)) 0 T).d c).Ok := hok2.d (by rw [hlen]; exact hc)
    have key : ∀ a, ((T.all k keep).d c).flu.getD a [] = ((BankT.settleL (allM keep) (T.order.filter fun p => decide (p.1 = k)) 0 T).d c).flu.getD a [] ∧ ((T.all k keep).d c).new.getD a [] = ((BankT.settleL (allM keep) (T.order.filter fun p => decide (p.1 = k)) 0 T).d c).new.getD a [] ∧ ((T.all k keep).d c).sin.getD a 0 = ((BankT.settleL (allM keep) (T.order.filter fun p => decide (p.1 = k)) 0 T).d c).sin.getD a 0 := by
      intro a
      obtain ⟨n1, n2⟩ := hat a
      unfold BankT.all
      rw [BankT.d_up _ hk]
      by_cases e : c = k
      · subst e
        rw [if_pos rfl]
        obtain ⟨s1, s2, s3⟩ := Med.settleTo_at (h.ok.d hk) keep a (Nat.le_refl _)
        rw [s1, s2, s3]
        by_cases hm : a < (T.d c).sin.length ∧ 0 < (T.d c).sin.getD a 0
        · have hmem : (c, a) ∈ T.order.filter (fun p => decide (p.1 = c)) := by
            rw [List.mem_filter, T.mem_order]
            exact ⟨⟨⟨hk, hm.1⟩, hm.2⟩, by simp⟩
          obtain ⟨j, hj, ej⟩ := List.getElem_of_mem hmem
          obtain ⟨m1, m2, m3⟩ := n2 j hj ej
          rw [m1, m2, m3, bit_all]
          cases keep <;> simp only [hm.1, hm.2, true_and, if_true, Bool.false_eq_true, if_false, and_true, and_self, reduceCtorEq]
        · have hnm : (c, a) ∉ T.order.filter (fun p => decide (p.1 = c)) := fun hmem => by
            rw [List.mem_filter, T.mem_order] at hmem
            exact hm ⟨hmem.1.1.2, hmem.1.2⟩
          obtain ⟨m1, m2, m3⟩ := n1 hnm
          rw [m1, m2, m3, if_neg (fun h => hm ⟨h.1, h.2.1⟩), if_neg (fun h => hm ⟨h.1, h.2.1⟩), if_neg hm]
          exact ⟨rfl, rfl, rfl⟩
      · rw [if_neg e]
        have hnm : (c, a) ∉ T.order.filter (fun p => decide (p.1 = k)) := fun hmem => by
          rw [List.mem_filter, decide_eq_true_iff] at hmem
          exact e hmem.2
        obtain ⟨m1, m2, m3⟩ := n1 hnm
        rw [m1, m2, m3]
        exact ⟨rfl, rfl, rfl⟩
    refine Med.ext_at o1 o2 ?_ (fun a => (key a).1) (fun a => (key a).2.1) (fun a => (key a).2.2) ?_ ?_
    · rw [d3, hall.1.lens]
    · rw [d1]; unfold BankT.all; rw [BankT.d_up _ hk]; split
      · rename_i e; rw [Med.settleTo_dead, e]
      · rfl
    · rw [d2]; unfold BankT.all; rw [BankT.d_up _ hk]; split
      · rename_i e; rw [Med.settleTo_fail, e]
      · rfl
  have hl : (T.all k keep).l = (BankT.settleL (allM keep) (T.order.filter fun p => decide (p.1 = k)) 0 T).l := list_ext_getD (d := Med.zero) (by rw [hall.1.len, hlen]) fun c hc => hd c (by rw [← hall.1.len]; exact hc)
  generalize BankT.settleL (allM keep) (T.order.filter fun p => decide (p.1 = k)) 0 T = V at *
  obtain ⟨vl, v1, v2, v3, v4, v5⟩ := V
  simp only at hl r1 r2 r3 r4 r5
  subst hl r1 r2 r3 r4 r5
  rfl
end
end Go.Proofs.YtglplhmclfekfaaGreat
/- The document's bank in plain Lean, and that its calls are the bank's own, read as the document's. -/
namespace Go.Proofs.YtglplhmclfekfaaGreat
open Go.RowKit
set_option linter.unusedVariables false
set_option linter.unusedSimpArgs false

def Med.ref (m : Med) : RMed := ⟨m.flu, m.new, m.dead, m.fail⟩
def BankT.refL (T : BankT) (L : List (Nat × Nat)) : RT := ⟨T.l.map Med.ref, L, T.down, T.writes, T.armed, T.mask⟩
/-- a bank as the document has it -/
def BankT.ref (T : BankT) : RT := T.refL T.order
def RT.settle (U : RT) (p : Nat × Nat) (keep : Bool) : RT := U.up p.1 (if keep then { U.d p.1 with flu := (U.d p.1).flu.set p.2 ((U.d p.1).new.getD p.2 []) } else { U.d p.1 with new := (U.d p.1).new.set p.2 ((U.d p.1).flu.getD p.2 []) })
def RT.setL (mask : Int) : List (Nat × Nat) → Nat → RT → RT
  | [], _, U => U
  | p :: L, i, U => RT.setL mask L (i + 1) (U.settle p (bitOf mask i))
def RT.setD (k : Nat) (keep : Bool) : List (Nat × Nat) → RT → RT
  | [], U => U
  | p :: L, U => RT.setD k keep L (if p.1 = k then U.settle p keep else U)
def RT.settled (U : RT) (k : Nat) (keep : Bool) : RT := { RT.setD k keep U.loose U with loose := U.loose.filter fun p => decide (p.1 ≠ k) }
def RT.crash (U : RT) (mask : Int) : RT := if U.down then U else { RT.setL mask U.loose 0 U with loose := [], down := true, armed := 0 }
def RT.kill (U : RT) (k : Nat) : RT := U.up k { U.d k with dead := true }
def RT.fell (U : RT) (k : Nat) : RT := (U.kill k).settled k false
def RT.less (U : RT) (k : Nat) : RT := U.up k { U.d k with fail := (U.d k).fail - 1 }
def RT.tick1 (U : RT) (k : Nat) : RT := if 0 < (U.d k).fail then (if (U.d k).fail = 1 then (U.less k).fell k else U.less k) else U
def RT.tickTo (U : RT) : Nat → RT
  | 0 => { U with n := U.n + 1 }
  | j + 1 => (U.tickTo j).tick1 j
def RT.arm1 (U : RT) : RT := { U with armed := U.armed - 1 }
def RT.tick (U : RT) : RT × Bool :=
  if U.down then (U, true)
  else if 0 < (U.tickTo U.l.length).armed then (if (U.tickTo U.l.length).armed = 1 then ((U.tickTo U.l.length).arm1.crash (U.tickTo U.l.length).mask, false) else ((U.tickTo U.l.length).arm1, true))
  else (U.tickTo U.l.length, true)
def RT.putW (U : RT) (d a : Nat) (s : List Int) : RT := { U.up d { U.d d with new := (U.d d).new.set a s } with loose := if (d, a) ∈ U.loose then U.loose else U.loose ++ [(d, a)] }
def RT.write (U : RT) (d a : Int) (s : List Int) : RT × Int :=
  if U.tick.2 = false then (U.tick.1, 6) else if U.tick.1.placeE d a = 0 then (U.tick.1.putW d.toNat a.toNat s, 0) else (U.tick.1, U.tick.1.placeE d a)
section
variable {T : BankT} {k : Nat} {L : List (Nat × Nat)}
theorem ref_d (T : BankT) (L : List (Nat × Nat)) (k : Nat) : (T.refL L).d k = (T.d k).ref := by
  unfold RT.d BankT.refL BankT.d
  simp only [List.getD_eq_getElem?_getD, List.getElem?_map]
  cases T.l[k]? <;> rfl
theorem ref_len (T : BankT) (L : List (Nat × Nat)) : (T.refL L).l.length = T.l.length := by simp [BankT.refL]
theorem ref_up (T : BankT) (L : List (Nat × Nat)) (k : Nat) (m : Med) : (T.up k m).refL L = (T.refL L).up k m.ref := by
  unfold BankT.refL BankT.up RT.up
  simp only [List.map_set]
theorem ref_settle (T : BankT) (L : List (Nat × Nat)) (k a : Nat) (b : Bool) : (T.up k ((T.d k).settle a b)).refL L = (T.refL L).settle (k, a) b := by
  rw [ref_up]
  unfold RT.settle
  rw [ref_d]
  cases b <;> rfl
theorem ref_setL (mask : Int) : ∀ (P : List (Nat × Nat)) (i : Nat) (T : BankT) (L : List (Nat × Nat)), (BankT.settleL mask P i T).refL L = RT.setL mask P i (T.refL L)
  | [], _, _, _ => rfl
  | (k, a) :: P, i, T, L => by
    rw [BankT.settleL, RT.setL, ref_setL mask P, ref_settle]
theorem setD_setL (k : Nat) (keep : Bool) : ∀ (P : List (Nat × Nat)) (i : Nat) (U : RT), RT.setD k keep P U = RT.setL (allM keep) (P.filter fun p => decide (p.1 = k)) i U
  | [], _, _ => rfl
  | p :: P, i, U => by
    rw [RT.setD, List.filter_cons]
    by_cases e : p.1 = k
    · rw [if_pos e, if_pos (decide_eq_true e), RT.setL, bit_all]
      exact setD_setL k keep P (i + 1) _
    · rw [if_neg e, if_neg (by simpa using e)]
      exact setD_setL k keep P i U
theorem ref_settled (h : T.Inv) (hk : k < T.l.length) (keep : Bool) : (T.all k keep).ref = T.ref.settled k keep := by
  unfold RT.settled BankT.ref
  rw [BankT.order_all h hk]
  have h1 : RT.setD k keep (T.refL T.order).loose (T.refL T.order) = (T.all k keep).refL T.order := by
    rw [BankT.all_eq h hk, ref_setL, setD_setL k keep _ 0]; rfl
  rw [h1]; rfl
theorem ref_flush (h : T.Inv) (hk : k < T.l.length) : (T.flush k).ref = T.ref.settled k true := ref_settled h hk true
theorem BankT.order_up (hk : k < T.l.length) {m : Med} (hm : m.sin = (T.d k).sin) : (T.up k m).order = T.order :=
  BankT.order_congr (BankT.up_len _ _ _) fun c => by
    rw [BankT.d_up _ hk]
    split
    · rename_i e; rw [hm, e]
    · rfl
theorem BankT.Inv.up (h : T.Inv) (hk : k < T.l.length) {m : Med} (hm : m.sin = (T.d k).sin) (ok : m.Ok) : (T.up k m).Inv :=
  (BankT.Calmer.up hk (by rw [hm]) (fun a => .inl (by rw [hm]))).inv h (h.ok.up k ok) h.wr h.ar h.msk
theorem ref_fell (h : T.Inv) (hk : k < T.l.length) : (T.fell k).ref = T.ref.fell k := by
  have hi := h.up hk (m := (T.d k).kill) rfl (h.ok.d hk).kill
  have hk2 : k < (T.up k (T.d k).kill).l.length := by rw [BankT.up_len]; exact hk
  rw [BankT.fell_all hk, ref_settled hi hk2]
  unfold RT.fell RT.kill BankT.ref
  rw [BankT.order_up hk (m := (T.d k).kill) rfl, ref_up, ref_d]; rfl
theorem BankT.order_nil (h : T.Inv) (hs : ∀ p, T.Has p → T.since p = 0) : T.order = [] := by
  refine (BankT.order_is h List.nodup_nil (fun p => ?_) List.Pairwise.nil).symm
  rw [BankT.mem_order]
  constructor
  · intro hp; cases hp
  · rintro ⟨h1, h2⟩; rw [hs p h1] at h2; omega
theorem ref_crash (h : T.Inv) (mask : Int) : (T.crash mask).ref = T.ref.crash mask := by
  have hinv := h.crash mask
  unfold BankT.crash at hinv ⊢
  unfold RT.crash
  by_cases hd : T.down = true
  · rw [if_pos hd, if_pos (show T.ref.down = true from hd)]
  · rw [if_neg hd, if_neg (show ¬ T.ref.down = true from hd)]
    rw [if_neg hd] at hinv
    have hin : ∀ p ∈ T.order, T.Has p := fun p hp => ((T.mem_order p).1 hp).1
    have ho : ({ BankT.settleL mask T.order 0 T with down := true, armed := 0 } : BankT).order = [] := by
      refine BankT.order_nil hinv fun p hp => ?_
      show ((BankT.settleL mask T.order 0 T).d p.1).sin.getD p.2 0 = 0
      have hp2 : T.Has p := by
        obtain ⟨a, b⟩ := hp
        refine ⟨by rw [← BankT.settleL_len mask T.order 0 T]; exact a, ?_⟩
        rw [← (BankT.settleL_dead mask T.order 0 T p.1 hin).2.2]; exact b
      obtain ⟨n1, n2⟩ := BankT.settleL_at mask p.1 p.2 (L := T.order) (i := 0) h.ok hin T.nodup_order
      by_cases hm : (p.1, p.2) ∈ T.order
      · obtain ⟨j, hj, e⟩ := List.getElem_of_mem hm
        exact (n2 j hj e).2.2
      · rw [(n1 hm).2.2]
        have h0 := h.ok.d hp2.1
        have hge : 0 ≤ (T.d p.1).sin.getD p.2 0 := getD_nonneg h0.sin p.2
        have hng : ¬ 0 < (T.d p.1).sin.getD p.2 0 := fun h' => hm ((T.mem_order p).2 ⟨hp2, h'⟩)
        omega
    unfold BankT.ref
    rw [ho]
    have h1 := ref_setL mask T.order 0 T T.order
    show RT.mk ((BankT.settleL mask T.order 0 T).l.map Med.ref) [] true (BankT.settleL mask T.order 0 T).writes 0 (BankT.settleL mask T.order 0 T).mask = _
    show _ = ({ RT.setL mask T.order 0 (T.refL T.order) with loose := [], down := true, armed := 0 } : RT)
    rw [← h1]; rfl
theorem ref_less (h : T.Inv) (hk : k < T.l.length) : (T.up k (T.d k).less).ref = T.ref.less k := by
  unfold BankT.ref RT.less
  rw [BankT.order_up hk (m := (T.d k).less) rfl, ref_up, ref_d]; rfl
theorem ref_tick1 (h : T.Inv) (hk : k < T.l.length) : (T.tick1 k).ref = T.ref.tick1 k := by
  unfold BankT.tick1 RT.tick1
  have hf : (T.ref.d k).fail = (T.d k).fail := by unfold BankT.ref; rw [ref_d]; rfl
  rw [hf]
  split
  · rename_i h0
    have hi := h.up hk (m := (T.d k).less) rfl ((h.ok.d hk).less h0)
    split
    · rw [ref_fell hi (by rw [BankT.up_len]; exact hk), ref_less h hk]
    · exact ref_less h hk
  · rfl
theorem BankT.Inv.tickTo_ (h : T.Inv) {j : Nat} (hj : j ≤ T.l.length) : (T.tickTo j).Inv := by
  obtain ⟨h1, h2, h3, h4, h5, _⟩ := BankT.tickTo_calmer h.ok hj
  exact h1.inv h h2 (by rw [h3]; have := h.wr; omega) (by rw [h4]; exact h.ar) (by rw [h5]; exact h.msk)
theorem ref_tickTo (h : T.Inv) : ∀ {j : Nat}, j ≤ T.l.length → (T.tickTo j).ref = T.ref.tickTo j
  | 0, _ => by
    unfold BankT.tickTo RT.tickTo BankT.ref
    rw [show ({ T with writes := T.writes + 1 } : BankT).order = T.order from BankT.order_congr rfl fun _ => rfl]; rfl
  | j + 1, hj => by
    rw [BankT.tickTo, RT.tickTo, ref_tick1 (h.tickTo_ (by omega)) (by rw [(BankT.tickTo_calmer h.ok (j := j) (by omega)).1.len]; omega), ref_tickTo h (by omega)]
theorem ref_arm1 (T : BankT) : T.arm1.ref = T.ref.arm1 := by
  unfold BankT.ref RT.arm1
  rw [show T.arm1.order = T.order from BankT.order_congr rfl fun _ => rfl]; rfl
theorem ref_tick (h : T.Inv) : T.tick.1.ref = T.ref.tick.1 ∧ T.tick.2 = T.ref.tick.2 := by
  have hl : T.ref.l.length = T.l.length := ref_len _ _
  have ht := ref_tickTo h (Nat.le_refl T.l.length)
  have hi := h.tickTo_ (Nat.le_refl T.l.length)
  unfold BankT.tick RT.tick
  rw [hl, ← ht]
  generalize T.tickTo T.l.length = V at *
  by_cases hd : T.down = true
  · rw [if_pos hd, if_pos (show T.ref.down = true from hd)]; exact ⟨rfl, rfl⟩
  · rw [if_neg hd, if_neg (show ¬ T.ref.down = true from hd)]
    show _ ∧ _ = ((if 0 < V.armed then if V.armed = 1 then (V.ref.arm1.crash V.mask, false) else (V.ref.arm1, true) else (V.ref, true)) : RT × Bool).2
    show (_ = ((if 0 < V.armed then if V.armed = 1 then (V.ref.arm1.crash V.mask, false) else (V.ref.arm1, true) else (V.ref, true)) : RT × Bool).1) ∧ _
    by_cases h0 : 0 < V.armed
    · rw [if_pos h0, if_pos h0]
      by_cases h1 : V.armed = 1
      · rw [if_pos h1, if_pos h1]
        have hi2 : V.arm1.Inv := ⟨hi.ok, hi.clk, hi.wr, by have := hi.ar; simp only [BankT.arm1]; omega, hi.msk, hi.top, hi.uniq⟩
        exact ⟨by show (V.arm1.crash V.mask).ref = _; rw [ref_crash hi2, ref_arm1], rfl⟩
      · rw [if_neg h1, if_neg h1]
        exact ⟨ref_arm1 V, rfl⟩
    · rw [if_neg h0, if_neg h0]; exact ⟨rfl, rfl⟩
end
end Go.Proofs.YtglplhmclfekfaaGreat
/- The document's bank in plain Lean: write, read. -/
namespace Go.Proofs.YtglplhmclfekfaaGreat
open Go.RowKit
set_option linter.unusedVariables false
set_option linter.unusedSimpArgs false

section
variable {T : BankT} {k a : Nat} {s : List Int}
theorem BankT.since_nn (h : T.Inv) (p : Nat × Nat) : 0 ≤ T.since p := by
  unfold BankT.since
  by_cases e : p.1 < T.l.length
  · exact getD_nonneg (h.ok.d e).sin _
  · have : T.d p.1 = Med.zero := by unfold BankT.d; rw [List.getD_eq_getElem?_getD, List.getElem?_eq_none (by omega)]; rfl
    rw [this]; exact getD_nonneg (by simp [Med.zero]) _
theorem BankT.put_since (h : T.Inv) (hk : k < T.l.length) (ha : a < (T.d k).sin.length) (s : List Int) (p : Nat × Nat) : (T.put k a s).since p = if p = (k, a) then T.stamp k a else T.since p := by
  unfold BankT.since
  rw [BankT.put_d hk]
  by_cases e : p.1 = k
  · rw [if_pos e, (Med.put_at (h.ok.d hk) ha s _ p.2).2.2]
    by_cases e2 : p.2 = a
    · rw [if_pos e2, if_pos (Prod.ext e e2)]
    · rw [if_neg e2, if_neg (fun e3 => e2 (by rw [e3])), e]
  · rw [if_neg e, if_neg (fun e3 => e (by rw [e3]))]
theorem BankT.put_has (hk : k < T.l.length) (s : List Int) (p : Nat × Nat) : (T.put k a s).Has p ↔ T.Has p := by
  unfold BankT.Has
  rw [(T.put_rest k a s).1, BankT.put_d hk]
  by_cases e : p.1 = k
  · rw [if_pos e, e]; simp [Med.put]
  · rw [if_neg e]
theorem BankT.order_put (h : T.Inv) (hk : k < T.l.length) (ha : a < (T.d k).sin.length) (hs : s.length = 64 ∧ ∀ x ∈ s, IsByte x) : (T.put k a s).order = if (k, a) ∈ T.order then T.order else T.order ++ [(k, a)] := by
  have hi := h.put hk ha hs
  have hkn : T.Has (k, a) := ⟨hk, ha⟩
  by_cases hm : (k, a) ∈ T.order
  · rw [if_pos hm]
    have h0 := ((T.mem_order _).1 hm).2
    have hst : T.stamp k a = T.since (k, a) := by unfold BankT.stamp; rw [if_neg (show ¬ (T.d k).sin.getD a 0 = 0 from fun e => by have h1 : 0 < (T.d k).sin.getD a 0 := h0; omega)]; rfl
    have hsi : ∀ p, (T.put k a s).since p = T.since p := fun p => by
      rw [BankT.put_since h hk ha]
      split
      · rename_i e; rw [e, hst]
      · rfl
    refine (BankT.order_is hi T.nodup_order (fun p => ?_) ?_).symm
    · rw [BankT.mem_order, BankT.mem_order, BankT.put_has hk, hsi]
    · exact (sortBy_sorted T.since _ : T.order.Pairwise _).imp fun {x y} hxy => by rw [hsi, hsi]; exact hxy
  · rw [if_neg hm]
    have h0 : T.since (k, a) = 0 := by
      have h1 := BankT.since_nn h (k, a)
      have h2 : ¬ 0 < T.since (k, a) := fun h' => hm ((T.mem_order _).2 ⟨hkn, h'⟩)
      omega
    have hst : T.stamp k a = T.clock + 1 := by unfold BankT.stamp; rw [if_pos (show (T.d k).sin.getD a 0 = 0 from h0)]
    have hclk := h.clk
    have hsi : ∀ p, (T.put k a s).since p = if p = (k, a) then T.clock + 1 else T.since p := fun p => by rw [BankT.put_since h hk ha, hst]
    have hne : ∀ p ∈ T.order, p ≠ (k, a) := fun p hp e => hm (e ▸ hp)
    refine (BankT.order_is hi ?_ (fun p => ?_) ?_).symm
    · rw [List.nodup_append]
      exact ⟨T.nodup_order, by simp, fun x hx y hy => by simp at hy; rw [hy]; exact hne x hx⟩
    · rw [List.mem_append, List.mem_singleton, BankT.mem_order, BankT.mem_order, BankT.put_has hk, hsi]
      by_cases e : p = (k, a)
      · rw [if_pos e]; exact ⟨fun _ => ⟨e ▸ hkn, by omega⟩, fun _ => .inr e⟩
      · rw [if_neg e]; exact ⟨fun h => h.resolve_right e, .inl⟩
    · rw [List.pairwise_append]
      refine ⟨(sortBy_sorted T.since _ : T.order.Pairwise _).imp_of_mem fun {x y} hx hy hxy => ?_, by simp, fun x hx y hy => ?_⟩
      · rw [hsi, hsi, if_neg (hne x hx), if_neg (hne y hy)]; exact hxy
      · simp at hy
        rw [hy, hsi, hsi, if_pos rfl, if_neg (hne x hx)]
        have := h.top x
        omega
theorem ref_put (h : T.Inv) (hk : k < T.l.length) (ha : a < (T.d k).sin.length) (hs : s.length = 64 ∧ ∀ x ∈ s, IsByte x) : (T.put k a s).ref = T.ref.putW k a s := by
  have hl : (T.put k a s).l = T.l.set k ((T.d k).put a s (T.stamp k a)) := by
    unfold BankT.put BankT.stamp
    split <;> rfl
  obtain ⟨_, r2, r3, r4, r5⟩ := T.put_rest k a s
  unfold BankT.ref
  rw [BankT.order_put h hk ha hs]
  unfold RT.putW
  rw [ref_d]
  show RT.mk _ _ _ _ _ _ = RT.mk _ _ _ _ _ _
  rw [hl, r2, r3, r4, r5]
  have : (T.l.set k ((T.d k).put a s (T.stamp k a))).map Med.ref = ((T.refL T.order).up k { (T.d k).ref with new := (T.d k).ref.new.set a s }).l := by
    rw [List.map_set]; rfl
  rw [this]; rfl
theorem new_len (h : T.Ok) (d : Nat) : (T.d d).new.length = (T.d d).sin.length := by
  by_cases e : d < T.l.length
  · exact (h.d e).new.1
  · have : T.d d = Med.zero := by unfold BankT.d; rw [List.getD_eq_getElem?_getD, List.getElem?_eq_none (by omega)]; rfl
    rw [this]; rfl
theorem ref_mayE (T : BankT) (d : Int) : T.ref.mayE d = T.readyE d := by
  unfold RT.mayE BankT.readyE
  have h1 : T.ref.l.length = T.l.length := ref_len _ _
  have h2 : (T.ref.d d.toNat).dead = (T.d d.toNat).dead := by unfold BankT.ref; rw [ref_d]; rfl
  rw [h1, h2]; rfl
theorem ref_placeE (h : T.Ok) (d b : Int) : T.ref.placeE d b = T.inE d b := by
  unfold RT.placeE BankT.inE
  have h2 : (T.ref.d d.toNat).new.length = (T.d d.toNat).sin.length := by unfold BankT.ref; rw [ref_d]; exact new_len h _
  rw [ref_mayE, h2]
theorem BankT.inE_at {d b : Int} (h : T.inE d b = 0) : ∃ k a : Nat, d = (k : Int) ∧ b = (a : Int) ∧ k < T.l.length ∧ a < (T.d k).sin.length := by
  unfold BankT.inE at h
  by_cases h1 : T.readyE d = 0
  · rw [if_neg (by simp [h1])] at h
    unfold BankT.readyE at h1
    by_cases h2 : d < 0 ∨ (T.l.length : Int) ≤ d
    · rw [if_pos h2] at h1; omega
    · by_cases h3 : b < 0 ∨ ((T.d d.toNat).sin.length : Int) ≤ b
      · rw [if_pos h3] at h; omega
      · exact ⟨d.toNat, b.toNat, by omega, by omega, by omega, by omega⟩
  · rw [if_pos h1] at h; exact absurd h h1
theorem ref_write (h : T.Inv) (d b : Int) (hs : s.length = 64 ∧ ∀ x ∈ s, IsByte x) : (T.write d b s).1.ref = (T.ref.write d b s).1 ∧ (T.write d b s).2 = (T.ref.write d b s).2 := by
  obtain ⟨t1, t2⟩ := ref_tick h
  have hi := h.tick
  unfold BankT.write RT.write
  rw [← t2, ← t1, ref_placeE hi.ok]
  generalize T.tick.1 = V at *
  cases T.tick.2 with
  | false => exact ⟨rfl, rfl⟩
  | true =>
    rw [if_neg (show ¬ (true = false) by decide), if_neg (show ¬ (true = false) by decide)]
    by_cases he : V.inE d b = 0
    · rw [if_pos he, if_pos he]
      obtain ⟨k, a, rfl, rfl, hk, ha⟩ := BankT.inE_at he
      exact ⟨by show (V.put _ _ s).ref = _; rw [Int.toNat_natCast, Int.toNat_natCast, ref_put hi hk ha hs], rfl⟩
    · rw [if_neg he, if_neg he]; exact ⟨rfl, rfl⟩
/-- what is read -/
def RT.read (U : RT) (d b : Int) : List Int × Int := if U.placeE d b = 0 then ((U.d d.toNat).new.getD b.toNat [], 0) else (zeroB, U.placeE d b)
theorem ref_read (h : T.Ok) (d b : Int) : T.ref.read d b = T.read d b := by
  unfold RT.read BankT.read
  rw [ref_placeE h]
  have h2 : (T.ref.d d.toNat).new = (T.d d.toNat).new := by unfold BankT.ref; rw [ref_d]; rfl
  rw [h2]
theorem Med.Ok.ref {m : Med} (h : m.Ok) : m.ref.Ok := by
  have hn : m.new.length = m.sin.length := h.new.1
  exact ⟨by show IsSecs m.new.length m.flu; rw [hn]; exact h.flu, by show IsSecs m.new.length m.new; rw [hn]; exact h.new, by show m.new.length ≤ 4096; rw [hn]; exact h.len, h.fail⟩
theorem BankT.Inv.ref (h : T.Inv) (hm : T.order.length ≤ 10000) : T.ref.Ok := by
  refine ⟨by show T.ref.l.length ≤ 32; unfold BankT.ref; rw [ref_len]; exact h.ok.1, fun m hm => ?_, fun p hp => ?_, hm⟩
  · obtain ⟨m0, h0, rfl⟩ := List.mem_map.1 (show m ∈ T.l.map Med.ref from hm)
    exact (h.ok.2 m0 h0).ref
  · obtain ⟨h1, h2⟩ := ((T.mem_order p).1 hp).1
    refine ⟨by unfold BankT.ref; rw [ref_len]; exact h1, ?_⟩
    unfold BankT.ref; rw [ref_d]
    show p.2 < (T.d p.1).new.length
    rw [new_len h.ok]; exact h2
end
end Go.Proofs.YtglplhmclfekfaaGreat
/- The document's bank: settle (gen_rsettle.py). -/
namespace Go.Proofs.YtglplhmclfekfaaGreat
open Go.RowKit
set_option linter.unusedVariables false
set_option linter.unusedSimpArgs false

theorem exec_load_secO {W : World} {a : Act} {o : Oper} (x : Operand) (ho : o.op = .load 43 x) (b off : Nat) (hx : a.eval x = .pointer (some ⟨b, off, none⟩)) (xs : List Int) (hl : xs.length = 64) (hc : Cells W b off (u8s xs)) :
    (execOp a.eval o).run Tryz.prog W = .ok (.value (.agg (u8s xs).toArray)) W := by
  obtain ⟨⟨d, hd1, hd2⟩, hs⟩ := ty_sec
  unfold execOp
  simp only [ho, hx, Instr.loadAt, Instr.sureAddr, Sem.run_bind, Sem.run_pure, Result.andThen_ok, run_loadVar_mid W b off 43 (u8s xs) d (rangeAt_of_cells hc) hd1 hd2 (by rw [hs, u8s_length, hl])]
theorem nodup_pair1 {D : List (Nat × Nat × Nat)} (h : (D.flatMap fun d => [d.2.1, d.2.2]).Nodup) {i j : Nat} (hi : i < D.length) (hj : j < D.length) (hij : i ≠ j) : D[i].2.1 ≠ D[j].2.1 := by
  have a1 : ∀ k (hk : k < D.length), (D.flatMap fun d => [d.2.1, d.2.2])[k * 2]? = some D[k].2.1 := fun k hk => by
    have := flatMap_at D (fun d => [d.2.1, d.2.2]) 2 (fun _ _ => rfl) k 0 hk (by decide)
    simpa using this
  intro e
  have hl : (D.flatMap fun d => [d.2.1, d.2.2]).length = D.length * 2 := by
    clear h hi hj a1 e
    induction D with
    | nil => rfl
    | cons x D ih => rw [List.flatMap_cons, List.length_append, ih, List.length_cons]; simp; omega
  have := (List.getElem?_inj (i := i * 2) (j := j * 2) (by omega) h).1 (by rw [a1 i hi, a1 j hj, e])
  omega
section
variable {w w1 : World} {Y : RLay} {T : RT}
theorem RefD.d0 (h : RefD w Y T) {k : Nat} (hk : k < Y.D.length) : w.cell? ⟨Y.D[k].1, 0, none⟩ = some (.slice (some ⟨Y.D[k].2.1, 0, none⟩) (T.d k).new.length (T.d k).new.length) := cell_of_row _ _ 0 _ _ _ (h.dsk k hk)
theorem RefD.put_flu (h : RefD w Y T) {k : Nat} (hk : k < Y.D.length) {l : List (List Int)} (hw : Wrote w w1 Y.D[k].2.1 (secs l) 43) : RefD w1 Y (T.up k { T.d k with flu := l }) := by
  have hkT : k < T.l.length := by rw [← h.len]; exact hk
  have bn := h.flu k hk
  have hup : ∀ j, (T.up k { T.d k with flu := l }).d j = if j = k then { T.d k with flu := l } else T.d j := fun j => RT.d_up _ hkT j
  refine ⟨?_, by simp [RT.up]; exact h.len, own_same h.lst fun g hg => hw.oth g (fun e => (own_other h.lst bn (by decide)) (e ▸ hg)), own_same h.loo fun g hg => hw.oth g (fun e => (own_other h.loo bn (by decide)) (e ▸ hg)), fun j hj => ?_, fun j hj => ?_, fun j hj => ?_, h.dd, h.dn⟩
  · rw [hw.oth _ (block_ty h.bank bn (by decide))]; exact h.bank
  · rw [hw.oth _ (block_ty (h.dsk j hj) bn (by decide)), hup, h.dsk j hj]
    by_cases e : j = k
    · subst e; rw [if_pos rfl]; rfl
    · rw [if_neg e]
  · by_cases e : j = k
    · subst e; rw [hup, if_pos rfl]; exact hw.blk
    · rw [hw.oth _ (nodup_pair1 h.dn hj hk e), hup, if_neg e]; exact h.flu j hj
  · rw [hw.oth _ (nodup_pair h.dn hk hj).1.symm, hup, h.new j hj]
    by_cases e : j = k
    · subst e; rw [if_pos rfl]
    · rw [if_neg e]
theorem Kept.cells {w w' : World} {b off : Nat} {xs : List Value} (hk : Kept w w') (h : Cells w b off xs) : Cells w' b off xs := Cells.kept h hk
theorem RT.Ok.d {U : RT} (h : U.Ok) {k : Nat} (hk : k < U.l.length) : (U.d k).Ok := by
  unfold RT.d; rw [List.getD_eq_getElem?_getD, List.getElem?_eq_getElem hk]; exact h.med _ (List.getElem_mem hk)
theorem sec_cells {l : List (List Int)} (hl : ∀ x ∈ l, x.length = 64) {W : World} {b a : Nat} (hb : W.heap[b]? = some (.cells (secs l).toArray 43 (0, 0))) (ha : a < l.length) : Cells W b (a * 64) (u8s (l.getD a [])) := cells_sec (by simpa using Cells.of_block hb) hl ha
set_option maxHeartbeats 2000000
set_option maxRecDepth 100000
theorem rf_settle (h : RefD w Y T) (ok : T.Ok) {d a : Nat} (hd : d < T.l.length) (ha : a < (T.d d).new.length) (keep : Bool) :
    Calls Tryz.prog 81 #[.pointer (some ⟨Y.q, 0, none⟩), .agg #[.int .i64 (d : Int), .int .i64 (a : Int)], .bool keep] w fun e w' => e = .returned (.tuple #[]) ∧ RefD w' Y (T.settle (d, a) keep) ∧ But Y.In w w' := by
  have hdD : d < Y.D.length := by rw [h.len]; exact hd
  have okd := ok.d hd
  have hl32 := ok.len
  have hal2 : (T.d d).new.length ≤ 4096 := okd.len
  have H := Lib.hid h; have HOK := Lib.hid okd; have HDD := Lib.hid hdD
  clear h ok okd
  go_enter Tryz.func81, Tryz.ntmps81
  go_wp2_with (refine stop_at (o := ⟨some 4, _, _, _, _, _⟩) ?_)
  refine Stop.mk ?_
  refine wpList_box_row rfl _ _ rfl [.int .i64 (d : Int), .int .i64 (a : Int)] rfl ?_
  intro w1 hz hs1 hk1
  have HK1 := Lib.hid hk1
  generalize w.heap.size = X at hz hs1 ⊢
  have H1 := Lib.hid (H.out.kept HK1.out)
  obtain ⟨p0, p1⟩ := Pl.of hz.out
  obtain ⟨ao, cap, hL, hrow⟩ := H1.out.lform
  obtain ⟨g, rfl, cr⟩ := hrow d hdD
  have b0 := H1.out.b0
  rw [hL] at b0
  have cn := H1.out.d1 hdD
  have cf := H1.out.d0 hdD
  have HFB : Hid (w1.heap[Y.D[d].2.1]? = some (.cells (secs (T.d d).flu).toArray 43 (0, 0))) := Lib.hid (H1.out.flu d hdD)
  have HNB : Hid (w1.heap[Y.D[d].2.2]? = some (.cells (secs (T.d d).new).toArray 43 (0, 0))) := Lib.hid (H1.out.new d hdD)
  have HPN := Lib.hid fun (w2 w5 : World) (l : List (List Int)) (hk : Kept w1 w2) (hll : l.length = (T.d d).new.length) (hw : Wrote w2 w5 Y.D[d].2.2 (secs l) 43) => (⟨(H1.out.kept hk).put_new hdD hll hw, (But.kept (HK1.out.trans hk)).trans (But.wrote hw (.inr (.inr (.inr ⟨_, List.getElem_mem hdD, .inr (.inr rfl)⟩))))⟩ : RefD w5 Y _ ∧ But Y.In w w5)
  have HPF := Lib.hid fun (w2 w5 : World) (l : List (List Int)) (hk : Kept w1 w2) (hw : Wrote w2 w5 Y.D[d].2.1 (secs l) 43) => (⟨(H1.out.kept hk).put_flu hdD hw, (But.kept (HK1.out.trans hk)).trans (But.wrote hw (.inr (.inr (.inr ⟨_, List.getElem_mem hdD, .inr (.inl rfl)⟩))))⟩ : RefD w5 Y _ ∧ But Y.In w w5)
  generalize Y.D[d].2.2 = bn at *
  generalize Y.D[d].2.1 = bf at *
  generalize Y.D[d].1 = bd at *
  clear hz hs1 hk1 hL hrow H H1 HK1
  have hzl : (T.d d).flu.length = (T.d d).new.length := HOK.out.flu.1
  cases keep with
  | true =>
    have HST : Hid (T.settle (d, a) true = T.up d { T.d d with flu := (T.d d).flu.set a ((T.d d).new.getD a []) }) := Lib.hid rfl
    have hsv := (HOK.out.new.at ha).1
    obtain ⟨sv, hsve⟩ : ∃ sv, sv = (T.d d).new.getD a [] := ⟨_, rfl⟩
    rw [← hsve] at hsv HST
    have HSV := Lib.hid hsv
    have HCS := Lib.hid (sec_cells (fun x hx => (HOK.out.new.2 x hx).1) HNB.out (by rw [HOK.out.new.1]; exact ha))
    rw [← hsve] at HCS
    have HJ : Hid (splice (secs (T.d d).flu) (a * 64) (u8s sv) = secs ((T.d d).flu.set a sv)) := Lib.hid (splice_flat _ (fun x hx => (HOK.out.flu.2 x hx).1) a (by rw [hzl]; exact ha) sv hsv)
    have HQ : Hid ((secs (T.d d).flu).length = (T.d d).flu.length * 64) := Lib.hid (secs_length _ (fun x hx => (HOK.out.flu.2 x hx).1))
    have HDB := HFB
    clear hsv hsve HPN HNB
    generalize (T.d d).new.length = zl at *
    go_upto_region 1 with fail
    go_quiet (fail)
    go_upto_region 3 with fail
    have hS : Kept w1 (w1.drewN nq).drew := ((Kept.refl _).drewN _).drew
    refine wp_region_calm ?_
    refine wp_region_E (fun W => Kept w1 W) 15 (by kernel_rfl) ?_
    refine wpAnyE_take (i := 0) (v := ?_) (listed' := #[true, false, false, false, false, false, false, false, false, false, false, false, false, false, false, false]) (by rfl) (by kernel_rfl) (by kernel_rfl) calm_put hS (by rfl) ?_ ?_
    rotate_left
    · intro W hW; clear hW; go_simp; try (with_reducible rfl)
    simp only [Act.put, List.getElem_toArray, List.getElem_cons_succ, List.getElem_cons_zero, List.setIfInBounds_toArray, List.set_cons_zero, List.set_cons_succ]
    refine wpAnyE_take (i := 1) (v := ?_) (listed' := #[true, true, false, false, false, false, false, false, false, false, false, false, false, false, false, false]) (by rfl) (by kernel_rfl) (by kernel_rfl) calm_put hS (by rfl) ?_ ?_
    rotate_left
    · intro W hW; clear hW; go_simp; try (with_reducible rfl)
    simp only [Act.put, List.getElem_toArray, List.getElem_cons_succ, List.getElem_cons_zero, List.setIfInBounds_toArray, List.set_cons_zero, List.set_cons_succ]
    refine wpAnyE_take (i := 2) (v := ?_) (listed' := #[true, true, true, false, false, false, false, false, false, false, false, false, false, false, false, false]) (by rfl) (by kernel_rfl) (by kernel_rfl) calm_put hS (by rfl) ?_ ?_
    rotate_left
    · intro W hW; clear hW; go_simp; try (with_reducible rfl)
    simp only [Act.put, List.getElem_toArray, List.getElem_cons_succ, List.getElem_cons_zero, List.setIfInBounds_toArray, List.set_cons_zero, List.set_cons_succ]
    refine wpAnyE_take (i := 3) (v := ?_) (listed' := #[true, true, true, true, false, false, false, false, false, false, false, false, false, false, false, false]) (by rfl) (by kernel_rfl) (by kernel_rfl) calm_put hS (by rfl) ?_ ?_
    rotate_left
    · intro W hW; have cr' := hW.cell' cr; have cn' := hW.cell' cn; have cf' := hW.cell' cf; have p0' := hW.cell' p0; have p1' := hW.cell' p1; go_simp; try (with_reducible rfl)
    simp only [Act.put, List.getElem_toArray, List.getElem_cons_succ, List.getElem_cons_zero, List.setIfInBounds_toArray, List.set_cons_zero, List.set_cons_succ]
    refine wpAnyE_take (i := 4) (v := ?_) (listed' := #[true, true, true, true, true, false, false, false, false, false, false, false, false, false, false, false]) (by rfl) (by kernel_rfl) (by kernel_rfl) calm_put hS (by rfl) ?_ ?_
    rotate_left
    · intro W hW; clear hW; go_simp; try (with_reducible rfl)
    simp only [Act.put, List.getElem_toArray, List.getElem_cons_succ, List.getElem_cons_zero, List.setIfInBounds_toArray, List.set_cons_zero, List.set_cons_succ]
    refine wpAnyE_take (i := 5) (v := ?_) (listed' := #[true, true, true, true, true, true, false, false, false, false, false, false, false, false, false, false]) (by rfl) (by kernel_rfl) (by kernel_rfl) calm_put hS (by rfl) ?_ ?_
    rotate_left
    · intro W hW; have cr' := hW.cell' cr; have cn' := hW.cell' cn; have cf' := hW.cell' cf; have p0' := hW.cell' p0; have p1' := hW.cell' p1; go_simp; try (with_reducible rfl)
    simp only [Act.put, List.getElem_toArray, List.getElem_cons_succ, List.getElem_cons_zero, List.setIfInBounds_toArray, List.set_cons_zero, List.set_cons_succ]
    refine wpAnyE_take (i := 6) (v := ?_) (listed' := #[true, true, true, true, true, true, true, false, false, false, false, false, false, false, false, false]) (by rfl) (by kernel_rfl) (by kernel_rfl) calm_put hS (by rfl) ?_ ?_
    rotate_left
    · intro W hW; clear hW; go_simp; try (with_reducible rfl)
    simp only [Act.put, List.getElem_toArray, List.getElem_cons_succ, List.getElem_cons_zero, List.setIfInBounds_toArray, List.set_cons_zero, List.set_cons_succ]
    refine wpAnyE_take (i := 7) (v := ?_) (listed' := #[true, true, true, true, true, true, true, true, false, false, false, false, false, false, false, false]) (by rfl) (by kernel_rfl) (by kernel_rfl) calm_put hS (by rfl) ?_ ?_
    rotate_left
    · intro W hW; clear hW; go_simp; try (with_reducible rfl)
    simp only [Act.put, List.getElem_toArray, List.getElem_cons_succ, List.getElem_cons_zero, List.setIfInBounds_toArray, List.set_cons_zero, List.set_cons_succ]
    refine wpAnyE_take (i := 8) (v := ?_) (listed' := #[true, true, true, true, true, true, true, true, true, false, false, false, false, false, false, false]) (by rfl) (by kernel_rfl) (by kernel_rfl) calm_put hS (by rfl) ?_ ?_
    rotate_left
    · intro W hW; clear hW; go_simp; try (with_reducible rfl)
    simp only [Act.put, List.getElem_toArray, List.getElem_cons_succ, List.getElem_cons_zero, List.setIfInBounds_toArray, List.set_cons_zero, List.set_cons_succ]
    refine wpAnyE_take (i := 9) (v := ?_) (listed' := #[true, true, true, true, true, true, true, true, true, true, false, false, false, false, false, false]) (by rfl) (by kernel_rfl) (by kernel_rfl) calm_put hS (by rfl) ?_ ?_
    rotate_left
    · intro W hW; have cr' := hW.cell' cr; have cn' := hW.cell' cn; have cf' := hW.cell' cf; have p0' := hW.cell' p0; have p1' := hW.cell' p1; go_simp; try (with_reducible rfl)
    simp only [Act.put, List.getElem_toArray, List.getElem_cons_succ, List.getElem_cons_zero, List.setIfInBounds_toArray, List.set_cons_zero, List.set_cons_succ]
    refine wpAnyE_take (i := 10) (v := ?_) (listed' := #[true, true, true, true, true, true, true, true, true, true, true, false, false, false, false, false]) (by rfl) (by kernel_rfl) (by kernel_rfl) calm_put hS (by rfl) ?_ ?_
    rotate_left
    · intro W hW; clear hW; go_simp; try (with_reducible rfl)
    simp only [Act.put, List.getElem_toArray, List.getElem_cons_succ, List.getElem_cons_zero, List.setIfInBounds_toArray, List.set_cons_zero, List.set_cons_succ]
    refine wpAnyE_take (i := 11) (v := ?_) (listed' := #[true, true, true, true, true, true, true, true, true, true, true, true, false, false, false, false]) (by rfl) (by kernel_rfl) (by kernel_rfl) calm_put hS (by rfl) ?_ ?_
    rotate_left
    · intro W hW; have cr' := hW.cell' cr; have cn' := hW.cell' cn; have cf' := hW.cell' cf; have p0' := hW.cell' p0; have p1' := hW.cell' p1; go_simp; try (with_reducible rfl)
    simp only [Act.put, List.getElem_toArray, List.getElem_cons_succ, List.getElem_cons_zero, List.setIfInBounds_toArray, List.set_cons_zero, List.set_cons_succ]
    refine wpAnyE_take (i := 12) (v := ?_) (listed' := #[true, true, true, true, true, true, true, true, true, true, true, true, true, false, false, false]) (by rfl) (by kernel_rfl) (by kernel_rfl) calm_put hS (by rfl) ?_ ?_
    rotate_left
    · intro W hW; clear hW; go_simp; try (with_reducible rfl)
    simp only [Act.put, List.getElem_toArray, List.getElem_cons_succ, List.getElem_cons_zero, List.setIfInBounds_toArray, List.set_cons_zero, List.set_cons_succ]
    refine wpAnyE_take (i := 13) (v := .agg (u8s sv).toArray) (listed' := #[true, true, true, true, true, true, true, true, true, true, true, true, true, true, false, false]) (by rfl) (by kernel_rfl) (by kernel_rfl) calm_put hS (by rfl) ?_ ?_
    · intro W hW; have cr' := hW.cell' cr; have cn' := hW.cell' cn; have cf' := hW.cell' cf; have p0' := hW.cell' p0; have p1' := hW.cell' p1; exact exec_load_secO _ rfl bn (a * 64) rfl sv HSV.out (hW.cells HCS.out)
    simp only [Act.put, List.getElem_toArray, List.getElem_cons_succ, List.getElem_cons_zero, List.setIfInBounds_toArray, List.set_cons_zero, List.set_cons_succ]
    refine wpAnyE_take (i := 14) (v := ?_) (listed' := #[true, true, true, true, true, true, true, true, true, true, true, true, true, true, true, false]) (by rfl) (by kernel_rfl) (by kernel_rfl) calm_put hS (by rfl) ?_ ?_
    rotate_left
    · intro W hW; clear hW; go_simp; try (with_reducible rfl)
    simp only [Act.put, List.getElem_toArray, List.getElem_cons_succ, List.getElem_cons_zero, List.setIfInBounds_toArray, List.set_cons_zero, List.set_cons_succ]
    refine wpAnyE_one (i := 15) (listed' := #[true, true, true, true, true, true, true, true, true, true, true, true, true, true, true, true]) (by rfl) (by kernel_rfl) (by kernel_rfl) (by rfl) (fun K hK => ?_)
    simp only [Act.put, List.getElem_toArray, List.getElem_cons_succ, List.getElem_cons_zero, List.setIfInBounds_toArray, List.set_cons_zero, List.set_cons_succ]
    refine wp_store_agg _ _ rfl ty_sec bf (a * 64) rfl (u8s sv) rfl (by rw [u8s_length, HSV.out]) (u8s_one _) _ _ (hS.block HDB.out) (by rw [HQ.out]; omega) ?_
    intro w5 hw5
    rw [HJ.out] at hw5
    refine hK _ _ (fun h => absurd rfl h) ?_; clear hK K
    refine wpAnyE_done (by kernel_rfl) ?_ _
    refine calm_normal ?_
    have HR := Lib.hid (HPF.out _ _ _ hS hw5)
    clear hS hw5
    go_wp2
    go_end0
    exact ⟨rfl, by rw [HST.out]; exact HR.out.1, HR.out.2⟩
  | false =>
    have HST : Hid (T.settle (d, a) false = T.up d { T.d d with new := (T.d d).new.set a ((T.d d).flu.getD a []) }) := Lib.hid rfl
    have hsv := (HOK.out.flu.at ha).1
    obtain ⟨sv, hsve⟩ : ∃ sv, sv = (T.d d).flu.getD a [] := ⟨_, rfl⟩
    rw [← hsve] at hsv HST
    have HSV := Lib.hid hsv
    have HCS := Lib.hid (sec_cells (fun x hx => (HOK.out.flu.2 x hx).1) HFB.out (by rw [hzl]; exact ha))
    rw [← hsve] at HCS
    have HJ : Hid (splice (secs (T.d d).new) (a * 64) (u8s sv) = secs ((T.d d).new.set a sv)) := Lib.hid (splice_flat _ (fun x hx => (HOK.out.new.2 x hx).1) a ha sv hsv)
    have HQ : Hid ((secs (T.d d).new).length = (T.d d).new.length * 64) := Lib.hid (secs_length _ (fun x hx => (HOK.out.new.2 x hx).1))
    have HPN2 := Lib.hid fun (w2 w5 : World) (hk : Kept w1 w2) (hw : Wrote w2 w5 bn (secs ((T.d d).new.set a sv)) 43) => HPN.out w2 w5 _ hk (by rw [List.length_set]) hw
    have HDB := HNB
    clear hsv hsve HPF HPN HFB
    generalize (T.d d).new.length = zl at *
    go_upto_region 1 with fail
    go_quiet (fail)
    go_upto_region 4 with fail
    have hS : Kept w1 (w1.drewN nq).drew := ((Kept.refl _).drewN _).drew
    refine wp_region_calm ?_
    refine wp_region_E (fun W => Kept w1 W) 15 (by kernel_rfl) ?_
    refine wpAnyE_take (i := 0) (v := ?_) (listed' := #[true, false, false, false, false, false, false, false, false, false, false, false, false, false, false, false]) (by rfl) (by kernel_rfl) (by kernel_rfl) calm_put hS (by rfl) ?_ ?_
    rotate_left
    · intro W hW; clear hW; go_simp; try (with_reducible rfl)
    simp only [Act.put, List.getElem_toArray, List.getElem_cons_succ, List.getElem_cons_zero, List.setIfInBounds_toArray, List.set_cons_zero, List.set_cons_succ]
    refine wpAnyE_take (i := 1) (v := ?_) (listed' := #[true, true, false, false, false, false, false, false, false, false, false, false, false, false, false, false]) (by rfl) (by kernel_rfl) (by kernel_rfl) calm_put hS (by rfl) ?_ ?_
    rotate_left
    · intro W hW; clear hW; go_simp; try (with_reducible rfl)
    simp only [Act.put, List.getElem_toArray, List.getElem_cons_succ, List.getElem_cons_zero, List.setIfInBounds_toArray, List.set_cons_zero, List.set_cons_succ]
    refine wpAnyE_take (i := 2) (v := ?_) (listed' := #[true, true, true, false, false, false, false, false, false, false, false, false, false, false, false, false]) (by rfl) (by kernel_rfl) (by kernel_rfl) calm_put hS (by rfl) ?_ ?_
    rotate_left
    · intro W hW; clear hW; go_simp; try (with_reducible rfl)
    simp only [Act.put, List.getElem_toArray, List.getElem_cons_succ, List.getElem_cons_zero, List.setIfInBounds_toArray, List.set_cons_zero, List.set_cons_succ]
    refine wpAnyE_take (i := 3) (v := ?_) (listed' := #[true, true, true, true, false, false, false, false, false, false, false, false, false, false, false, false]) (by rfl) (by kernel_rfl) (by kernel_rfl) calm_put hS (by rfl) ?_ ?_
    rotate_left
    · intro W hW; have cr' := hW.cell' cr; have cn' := hW.cell' cn; have cf' := hW.cell' cf; have p0' := hW.cell' p0; have p1' := hW.cell' p1; go_simp; try (with_reducible rfl)
    simp only [Act.put, List.getElem_toArray, List.getElem_cons_succ, List.getElem_cons_zero, List.setIfInBounds_toArray, List.set_cons_zero, List.set_cons_succ]
    refine wpAnyE_take (i := 4) (v := ?_) (listed' := #[true, true, true, true, true, false, false, false, false, false, false, false, false, false, false, false]) (by rfl) (by kernel_rfl) (by kernel_rfl) calm_put hS (by rfl) ?_ ?_
    rotate_left
    · intro W hW; clear hW; go_simp; try (with_reducible rfl)
    simp only [Act.put, List.getElem_toArray, List.getElem_cons_succ, List.getElem_cons_zero, List.setIfInBounds_toArray, List.set_cons_zero, List.set_cons_succ]
    refine wpAnyE_take (i := 5) (v := ?_) (listed' := #[true, true, true, true, true, true, false, false, false, false, false, false, false, false, false, false]) (by rfl) (by kernel_rfl) (by kernel_rfl) calm_put hS (by rfl) ?_ ?_
    rotate_left
    · intro W hW; have cr' := hW.cell' cr; have cn' := hW.cell' cn; have cf' := hW.cell' cf; have p0' := hW.cell' p0; have p1' := hW.cell' p1; go_simp; try (with_reducible rfl)
    simp only [Act.put, List.getElem_toArray, List.getElem_cons_succ, List.getElem_cons_zero, List.setIfInBounds_toArray, List.set_cons_zero, List.set_cons_succ]
    refine wpAnyE_take (i := 6) (v := ?_) (listed' := #[true, true, true, true, true, true, true, false, false, false, false, false, false, false, false, false]) (by rfl) (by kernel_rfl) (by kernel_rfl) calm_put hS (by rfl) ?_ ?_
    rotate_left
    · intro W hW; clear hW; go_simp; try (with_reducible rfl)
    simp only [Act.put, List.getElem_toArray, List.getElem_cons_succ, List.getElem_cons_zero, List.setIfInBounds_toArray, List.set_cons_zero, List.set_cons_succ]
    refine wpAnyE_take (i := 7) (v := ?_) (listed' := #[true, true, true, true, true, true, true, true, false, false, false, false, false, false, false, false]) (by rfl) (by kernel_rfl) (by kernel_rfl) calm_put hS (by rfl) ?_ ?_
    rotate_left
    · intro W hW; clear hW; go_simp; try (with_reducible rfl)
    simp only [Act.put, List.getElem_toArray, List.getElem_cons_succ, List.getElem_cons_zero, List.setIfInBounds_toArray, List.set_cons_zero, List.set_cons_succ]
    refine wpAnyE_take (i := 8) (v := ?_) (listed' := #[true, true, true, true, true, true, true, true, true, false, false, false, false, false, false, false]) (by rfl) (by kernel_rfl) (by kernel_rfl) calm_put hS (by rfl) ?_ ?_
    rotate_left
    · intro W hW; clear hW; go_simp; try (with_reducible rfl)
    simp only [Act.put, List.getElem_toArray, List.getElem_cons_succ, List.getElem_cons_zero, List.setIfInBounds_toArray, List.set_cons_zero, List.set_cons_succ]
    refine wpAnyE_take (i := 9) (v := ?_) (listed' := #[true, true, true, true, true, true, true, true, true, true, false, false, false, false, false, false]) (by rfl) (by kernel_rfl) (by kernel_rfl) calm_put hS (by rfl) ?_ ?_
    rotate_left
    · intro W hW; have cr' := hW.cell' cr; have cn' := hW.cell' cn; have cf' := hW.cell' cf; have p0' := hW.cell' p0; have p1' := hW.cell' p1; go_simp; try (with_reducible rfl)
    simp only [Act.put, List.getElem_toArray, List.getElem_cons_succ, List.getElem_cons_zero, List.setIfInBounds_toArray, List.set_cons_zero, List.set_cons_succ]
    refine wpAnyE_take (i := 10) (v := ?_) (listed' := #[true, true, true, true, true, true, true, true, true, true, true, false, false, false, false, false]) (by rfl) (by kernel_rfl) (by kernel_rfl) calm_put hS (by rfl) ?_ ?_
    rotate_left
    · intro W hW; clear hW; go_simp; try (with_reducible rfl)
    simp only [Act.put, List.getElem_toArray, List.getElem_cons_succ, List.getElem_cons_zero, List.setIfInBounds_toArray, List.set_cons_zero, List.set_cons_succ]
    refine wpAnyE_take (i := 11) (v := ?_) (listed' := #[true, true, true, true, true, true, true, true, true, true, true, true, false, false, false, false]) (by rfl) (by kernel_rfl) (by kernel_rfl) calm_put hS (by rfl) ?_ ?_
    rotate_left
    · intro W hW; have cr' := hW.cell' cr; have cn' := hW.cell' cn; have cf' := hW.cell' cf; have p0' := hW.cell' p0; have p1' := hW.cell' p1; go_simp; try (with_reducible rfl)
    simp only [Act.put, List.getElem_toArray, List.getElem_cons_succ, List.getElem_cons_zero, List.setIfInBounds_toArray, List.set_cons_zero, List.set_cons_succ]
    refine wpAnyE_take (i := 12) (v := ?_) (listed' := #[true, true, true, true, true, true, true, true, true, true, true, true, true, false, false, false]) (by rfl) (by kernel_rfl) (by kernel_rfl) calm_put hS (by rfl) ?_ ?_
    rotate_left
    · intro W hW; clear hW; go_simp; try (with_reducible rfl)
    simp only [Act.put, List.getElem_toArray, List.getElem_cons_succ, List.getElem_cons_zero, List.setIfInBounds_toArray, List.set_cons_zero, List.set_cons_succ]
    refine wpAnyE_take (i := 13) (v := .agg (u8s sv).toArray) (listed' := #[true, true, true, true, true, true, true, true, true, true, true, true, true, true, false, false]) (by rfl) (by kernel_rfl) (by kernel_rfl) calm_put hS (by rfl) ?_ ?_
    · intro W hW; have cr' := hW.cell' cr; have cn' := hW.cell' cn; have cf' := hW.cell' cf; have p0' := hW.cell' p0; have p1' := hW.cell' p1; exact exec_load_secO _ rfl bf (a * 64) rfl sv HSV.out (hW.cells HCS.out)
    simp only [Act.put, List.getElem_toArray, List.getElem_cons_succ, List.getElem_cons_zero, List.setIfInBounds_toArray, List.set_cons_zero, List.set_cons_succ]
    refine wpAnyE_take (i := 14) (v := ?_) (listed' := #[true, true, true, true, true, true, true, true, true, true, true, true, true, true, true, false]) (by rfl) (by kernel_rfl) (by kernel_rfl) calm_put hS (by rfl) ?_ ?_
    rotate_left
    · intro W hW; clear hW; go_simp; try (with_reducible rfl)
    simp only [Act.put, List.getElem_toArray, List.getElem_cons_succ, List.getElem_cons_zero, List.setIfInBounds_toArray, List.set_cons_zero, List.set_cons_succ]
    refine wpAnyE_one (i := 15) (listed' := #[true, true, true, true, true, true, true, true, true, true, true, true, true, true, true, true]) (by rfl) (by kernel_rfl) (by kernel_rfl) (by rfl) (fun K hK => ?_)
    simp only [Act.put, List.getElem_toArray, List.getElem_cons_succ, List.getElem_cons_zero, List.setIfInBounds_toArray, List.set_cons_zero, List.set_cons_succ]
    refine wp_store_agg _ _ rfl ty_sec bn (a * 64) rfl (u8s sv) rfl (by rw [u8s_length, HSV.out]) (u8s_one _) _ _ (hS.block HDB.out) (by rw [HQ.out]; omega) ?_
    intro w5 hw5
    rw [HJ.out] at hw5
    refine hK _ _ (fun h => absurd rfl h) ?_; clear hK K
    refine wpAnyE_done (by kernel_rfl) ?_ _
    refine calm_normal ?_
    have HR := Lib.hid (HPN2.out _ _ hS hw5)
    clear hS hw5
    go_wp2
    go_end0
    exact ⟨rfl, by rw [HST.out]; exact HR.out.1, HR.out.2⟩
end
end Go.Proofs.YtglplhmclfekfaaGreat
/- The document's bank: settled. -/
namespace Go.Proofs.YtglplhmclfekfaaGreat
open Go.RowKit
set_option linter.unusedVariables false
set_option linter.unusedSimpArgs false

section
variable {P : Program} {ops : Array Oper} {rest : List Oper} {o1 o2 : Oper} {a : Act} {w : World} {Q : Exit → Act → World → Prop}
theorem wpList_new_aggR (hg1 : o1.guard = none) (hg2 : o2.guard = none) {T n : Nat} (x y : Operand) (ho1 : o1.op = .alloc T) (ho2 : o2.op = .store T x y) (hT : AggT P T n)
    (zs : List Value) (hz : ∀ w, (zeroValue T).run P w = .ok (.agg zs.toArray) w) (hzl : zs.length = n)
    (xs : List Value) (hy : (a.put o1.dst (.pointer (some ⟨w.heap.size, 0, none⟩))).eval y = .agg xs.toArray) (hl : xs.length = n) (h1 : ∀ v ∈ xs, v.oneCell' = true)
    (hx : (a.put o1.dst (.pointer (some ⟨w.heap.size, 0, none⟩))).eval x = .pointer (some ⟨w.heap.size, 0, none⟩))
    (h : ∀ w1, Hid (w1.heap[w.heap.size]? = some (.cells xs.toArray T (0, 0))) → w.heap.size < w1.heap.size → Kept w w1 → wpList P ops Q rest ((a.put o1.dst (.pointer (some ⟨w.heap.size, 0, none⟩))).put o2.dst undef) w1) : wpList P ops Q (o1 :: o2 :: rest) a w := by
  refine wpList_alloc_abs hg1 T ho1 zs hz ?_
  intro w1 hz1 hs1 hn1 hk1
  refine wpList_store_agg hg2 x y ho2 hT w.heap.size 0 hx xs hy hl h1 zs T hz1.out (by omega) ?_
  intro w2 hw2
  replace hw2 := hw2.all (by omega)
  exact h w2 (Lib.hid hw2.blk) (by rw [hw2.size]; exact hs1) (hw2.kept hk1 (Nat.le_refl _))
end
section
variable {U : RT} {k : Nat} {p : Nat × Nat} {keep : Bool}
theorem RT.settle_len (U : RT) (p : Nat × Nat) (keep : Bool) : (U.settle p keep).l.length = U.l.length := by unfold RT.settle RT.up; simp
theorem RT.settle_d (hp : p.1 < U.l.length) (j : Nat) : ((U.settle p keep).d j).new.length = (U.d j).new.length ∧ ((U.settle p keep).d j).dead = (U.d j).dead ∧ ((U.settle p keep).d j).fail = (U.d j).fail := by
  unfold RT.settle
  rw [RT.d_up _ hp]
  by_cases e : j = p.1
  · rw [if_pos e, e]; cases keep <;> simp
  · rw [if_neg e]; exact ⟨rfl, rfl, rfl⟩
theorem RT.Ok.settle (h : U.Ok) (hp : p.1 < U.l.length) (ha : p.2 < (U.d p.1).new.length) : (U.settle p keep).Ok := by
  have okd := h.d hp
  have hm : ∀ m, m ∈ (U.settle p keep).l → m.Ok := fun m hm => by
    rcases List.mem_or_eq_of_mem_set hm with h' | h'
    · exact h.med m h'
    · rw [h']
      cases keep with
      | true => exact ⟨okd.flu.set p.2 (okd.new.at ha), okd.new, okd.len, okd.fail⟩
      | false => exact ⟨by show IsSecs ((U.d p.1).new.set _ _).length _; rw [List.length_set]; exact okd.flu, by show IsSecs ((U.d p.1).new.set _ _).length _; rw [List.length_set]; exact okd.new.set p.2 (okd.flu.at ha), by show ((U.d p.1).new.set _ _).length ≤ 4096; rw [List.length_set]; exact okd.len, okd.fail⟩
  exact ⟨by rw [RT.settle_len]; exact h.len, hm, fun q hq => by rw [RT.settle_len, (RT.settle_d hp q.1).1]; exact h.loose q hq, h.many⟩
/-- one step of settled -/
def RT.step (U : RT) (k : Nat) (keep : Bool) (p : Nat × Nat) : RT := if p.1 = k then U.settle p keep else U
theorem RT.setD_step (k : Nat) (keep : Bool) : ∀ (L : List (Nat × Nat)) (p : Nat × Nat) (U : RT), RT.setD k keep (L ++ [p]) U = (RT.setD k keep L U).step k keep p
  | [], _, _ => rfl
  | q :: L, p, U => by rw [List.cons_append, RT.setD, RT.setD, RT.setD_step k keep L p]
theorem RT.setD_keep (k : Nat) (keep : Bool) : ∀ (L : List (Nat × Nat)) (U : RT), U.Ok → (∀ p ∈ L, p.1 < U.l.length ∧ p.2 < (U.d p.1).new.length) → (RT.setD k keep L U).Ok ∧ (RT.setD k keep L U).l.length = U.l.length ∧ (RT.setD k keep L U).loose = U.loose ∧ (RT.setD k keep L U).down = U.down ∧ (RT.setD k keep L U).n = U.n ∧ (RT.setD k keep L U).armed = U.armed ∧ (RT.setD k keep L U).mask = U.mask ∧ ∀ j, ((RT.setD k keep L U).d j).new.length = (U.d j).new.length ∧ ((RT.setD k keep L U).d j).dead = (U.d j).dead ∧ ((RT.setD k keep L U).d j).fail = (U.d j).fail
  | [], U, h, _ => ⟨h, rfl, rfl, rfl, rfl, rfl, rfl, fun j => ⟨rfl, rfl, rfl⟩⟩
  | p :: L, U, h, hp => by
    have h0 := hp p (by simp)
    rw [RT.setD]
    by_cases e : p.1 = k
    · rw [if_pos e]
      obtain ⟨h1, h2, h3, h4, h5, h6, h7, h8⟩ := RT.setD_keep k keep L (U.settle p keep) (h.settle h0.1 h0.2) (fun q hq => by rw [RT.settle_len, (RT.settle_d h0.1 q.1).1]; exact hp q (by simp [hq]))
      exact ⟨h1, h2.trans (RT.settle_len _ _ _), h3, h4, h5, h6, h7, fun j => ⟨(h8 j).1.trans (RT.settle_d h0.1 j).1, (h8 j).2.1.trans (RT.settle_d h0.1 j).2.1, (h8 j).2.2.trans (RT.settle_d h0.1 j).2.2⟩⟩
    · rw [if_neg e]
      exact RT.setD_keep k keep L U h fun q hq => hp q (by simp [hq])
def restO (L : List (Nat × Nat)) (k : Nat) : List (Nat × Nat) := L.filter fun p => decide (p.1 ≠ k)
theorem restL_keep {L : List (Nat × Nat)} {i : Nat} (hi : i < L.length) (h : L[i].1 ≠ k) : restO (L.take (i + 1)) k = restO (L.take i) k ++ [L[i]] := by
  unfold restO
  rw [List.take_add_one, List.getElem?_eq_getElem hi, List.filter_append]
  simp only [Option.toList_some, List.filter_cons, List.filter_nil, decide_eq_true h, if_true]
theorem restL_skip {L : List (Nat × Nat)} {i : Nat} (hi : i < L.length) (h : L[i].1 = k) : restO (L.take (i + 1)) k = restO (L.take i) k := by
  unfold restO
  rw [List.take_add_one, List.getElem?_eq_getElem hi, List.filter_append]
  have h2 : decide (L[i].1 ≠ k) = false := decide_eq_false fun h' => h' h
  simp only [Option.toList_some, List.filter_cons, List.filter_nil, h2]
  simp
theorem restL_le (L : List (Nat × Nat)) (i : Nat) : (restO (L.take i) k).length ≤ i := Nat.le_trans (List.length_filter_le _ _) (by rw [List.length_take]; omega)
theorem take_snoc {α : Type} {L : List α} {i : Nat} (hi : i < L.length) : L.take (i + 1) = L.take i ++ [L[i]] := List.take_succ_eq_append_getElem hi
end
theorem own_madeP {W : World} {e sz : Nat} {b : Nat} (h : W.heap[b]? = some (.cells #[] e (0, 0))) : W.ownsRow 0 e sz (.slice (some ⟨b, 0, none⟩) 0 0) 0 [] :=
  ⟨by simp, .inr ⟨b, 0, #[], rfl, Nat.zero_le _, h, Nat.le_refl _, Nat.zero_le _, by simp, by simp⟩⟩
/-- an own slice that is new grows: nothing of S turns that did not -/
theorem Grw.but {S : Nat → Prop} {w0 W W' : World} {v v' : Value} (h : Grw W W' v v') (hk : But S w0 W) (hn : ∀ b, v.ownBlock = some b → w0.heap.size ≤ b) : But S w0 W' ∧ ∀ b, v'.ownBlock = some b → w0.heap.size ≤ b := by
  rcases h with ⟨he, hb⟩ | ⟨g, hg, hge, _, hk2⟩
  · exact ⟨hk.trans' hb fun i hi => .inr (hn i hi), fun b hb' => hn b (he ▸ hb')⟩
  · exact ⟨hk.keep hk2, fun b hb' => by rw [hg] at hb'; injection hb' with hb'; subst hb'; exact Nat.le_trans hk.size hge⟩
section
variable {w w1 : World} {Y : RLay} {T : RT}
set_option maxHeartbeats 2000000
set_option maxRecDepth 100000
theorem rf_settled (h : RefD w Y T) (ok : T.Ok) {k : Nat} (hk : k < T.l.length) (keep : Bool) :
    Calls Tryz.prog 76 #[.pointer (some ⟨Y.q, 0, none⟩), .int .i64 (k : Int), .bool keep] w fun e w' => e = .returned (.tuple #[]) ∧ ∃ Y' : RLay, RefD w' Y' (T.settled k keep) ∧ Y'.q = Y.q ∧ (∀ b, Y'.In b → Y.In b ∨ w.heap.size ≤ b) ∧ But Y.In w w' := by
  have H0 := Lib.hid h
  have HOK := Lib.hid ok
  have hmany := ok.many
  have HIN : Hid (∀ b, Y.In b → b < w.heap.size) := Lib.hid fun b hb => h.lt hb
  have hlen32 := ok.len
  have HBA := Lib.hid ((But.refl Y.In w).alloc (Obj.cells #[] 47))
  have HDA := Lib.hid (h.kept ((Kept.refl w).alloc (Obj.cells #[] 47)))
  have HOA := Lib.hid (own_madeP (sz := 2) (heap_alloc_new w (Obj.cells #[] 47)))
  obtain ⟨ao, cap, hv, _⟩ := h.pl
  have HV := Lib.hid hv
  clear h ok hv
  go_enter Tryz.func76, Tryz.ntmps76
  go_wp2
  go_loopw [6, 7] (fun vv i wr => ∃ (v : Value) (j : Nat), v = vv ∧ j ≤ T.loose.length ∧ i = .int .i64 j ∧ Hid (RefD wr Y (RT.setD k keep (T.loose.take j) T)) ∧ Hid (wr.ownsRow 0 47 2 v (restO (T.loose.take j) k).length (pvals (restO (T.loose.take j) k))) ∧ Hid (But Y.In w wr) ∧ Hid (∀ b, v.ownBlock = some b → w.heap.size ≤ b)) (fun _ i _ => T.loose.length - (intOf i).toNat)
  case atStart => exact ⟨_, 0, rfl, Nat.zero_le _, rfl, HDA, HOA, HBA, Lib.hid (fun b hb => by simp [Value.ownBlock] at hb; omega)⟩
  case round =>
    clear HDA HOA HBA
    obtain ⟨v, j, rfl, hj, rfl, HD, HO, HB, HN⟩ := hrel
    have hkp := RT.setD_keep k keep (T.loose.take j) T HOK.out (fun p hp => HOK.out.loose p (List.mem_of_mem_take hp))
    have HKP := Lib.hid hkp
    have b1 := HD.out.b1
    rw [HV.out] at b1
    by_cases hlt : j < T.loose.length
    · obtain ⟨ao', cap', hv', hcl⟩ := HD.out.pl
      rw [hkp.2.2.1] at hcl hv'
      obtain ⟨g, rfl, hcs⟩ := hcl j hlt
      have hve := HV.out.symm.trans hv'
      injection hve with ha _ hcap
      subst ha
      have hsn := take_snoc hlt
      have hst := RT.setD_step k keep (T.loose.take j) T.loose[j] T
      rw [← hsn] at hst
      have hlo := HOK.out.loose T.loose[j] (List.getElem_mem hlt)
      have HKEEP := Lib.hid (fun h => restL_keep (k := k) hlt h)
      have HSKIP := Lib.hid (fun h => restL_skip (k := k) hlt h)
      have HLE := Lib.hid (restL_le (k := k) T.loose j)
      have HST := Lib.hid hst
      have HCS := Lib.hid hcs
      clear hkp hcl hcs hsn hst hcap hv'
      have HD1 : Hid (RefD wr Y (RT.setD k keep (T.loose.take j) T)) := HD
      generalize hU1 : RT.setD k keep (T.loose.take (j + 1)) T = U1 at *
      have HU1 := Lib.hid hU1
      clear hU1
      generalize RT.setD k keep (T.loose.take j) T = U0 at *
      generalize hL1 : restO (T.loose.take (j + 1)) k = L1 at *
      have HL1 := Lib.hid hL1
      clear hL1
      generalize restO (T.loose.take j) k = L0 at *
      generalize T.loose[j] = p at *
      obtain ⟨p1, p2⟩ := p
      simp only at HCS HST hlo HKEEP HSKIP
      have hll := HLE.out
      go_wp2_with (refine stop_at (o := ⟨some 25, _, _, _, _, _⟩) ?_)
      refine Stop.mk ?_
      refine wpList_load_agg rfl _ rfl ty_plc g (j * 2) rfl _ HCS.out rfl ?_
      go_wp2_with (refine stop_at (o := ⟨some 8, _, _, _, _, _⟩) ?_)
      refine Stop.mk ?_
      refine wpList_new_aggR rfl rfl _ _ rfl rfl ty_plc [Value.int .i64 0, .int .i64 0] zero_plc rfl [Value.int .i64 (p1 : Int), .int .i64 (p2 : Int)] rfl rfl (by simp [Value.oneCell']) rfl ?_
      intro w2 HB2 hs2 hk2
      have HD2 := Lib.hid (HD.out.kept hk2)
      have HO2 := Lib.hid (own_same HO.out fun g' hg' => hk2.block_eq (own_lt HO.out hg'))
      have HBU2 := Lib.hid (HB.out.keep hk2)
      obtain ⟨B, hBe⟩ : ∃ B, B = wr.heap.size := ⟨_, rfl⟩
      rw [← hBe] at HB2 ⊢
      have q0 := cell_of_row _ _ 0 _ _ _ HB2.out
      clear hs2 hk2 hBe HCS HD HO HB HD1 b1
      by_cases hx : p1 = k
      · subst hx
        have HL : Hid (L1 = L0) := Lib.hid (HSKIP.out rfl)
        have HS1 : Hid (U1 = U0.settle (p1, p2) keep) := Lib.hid (by rw [HST.out]; unfold RT.step; rw [if_pos rfl])
        clear HKEEP HSKIP
        go_wp2_with (refine stop_at (o := ⟨some 35, _, _, _, _, _⟩) ?_)
        refine Stop.mk ?_
        refine wpList_load_agg rfl _ rfl ty_plc B 0 rfl _ (by simpa using Cells.of_block HB2.out) rfl ?_
        go_wp2_with fail
        refine Calls.mono (rf_settle HD2.out HKP.out.1 (d := p1) (a := p2) (by rw [HKP.out.2.1]; exact hlo.1) (by rw [(HKP.out.2.2.2.2.2.2.2 p1).1]; exact hlo.2) keep) ?_
        rintro e w3 ⟨rfl, hd3, hb3⟩
        have HD3 : Hid (RefD w3 Y U1) := Lib.hid (by rw [HS1.out]; exact hd3)
        have HO3 : Hid (w3.ownsRow 0 47 2 v L1.length (pvals L1)) := Lib.hid (by rw [HL.out]; exact own_same HO2.out fun g' hg' => hb3.block g' (own_lt HO2.out hg') (fun hi => by have := HIN.out g' hi; have := HN.out g' hg'; omega))
        have HB3 := Lib.hid (HBU2.out.trans hb3)
        clear hd3 hb3 HD2 HO2 HBU2
        go_wp2
        go_roundw
        case rel => exact ⟨_, j + 1, rfl, hlt, by go_num, by rw [HU1.out]; exact HD3, by rw [HL1.out]; exact HO3, HB3, HN⟩
        case measure => simp [intOf]; omega
      · have k1 : ((p1 : Int) == (k : Int)) = false := by simp; omega
        have HL : Hid (L1 = L0 ++ [(p1, p2)]) := Lib.hid (HKEEP.out hx)
        have HS1 : Hid (U1 = U0) := Lib.hid (by rw [HST.out]; unfold RT.step; rw [if_neg hx])
        have hk4 := (Kept.refl w2).alloc (Obj.cells #[Value.int .i64 (p1 : Int), .int .i64 (p2 : Int)] 47)
        have hb4 := heap_alloc_new w2 (Obj.cells #[Value.int .i64 (p1 : Int), .int .i64 (p2 : Int)] 47)
        have HO4 := Lib.hid (own_same HO2.out fun g' hg' => hk4.block_eq (own_lt HO2.out hg'))
        obtain ⟨v', w5, hrun, hown, hgrw⟩ := own_append ty_places HO4.out (by omega) (by decide) [Value.int .i64 (p1 : Int), .int .i64 (p2 : Int)] rfl (b := w2.heap.size) (fun j u hu => by rw [cell_of_row _ _ j _ _ _ hb4]; simpa using hu) (by intro u hu; simp at hu; rcases hu with rfl | rfl <;> rfl) 39
        obtain ⟨hb5, hn5⟩ := hgrw.but (HBU2.out.keep hk4) HN.out
        have hd5 : RefD w5 Y U0 := (HD2.out.kept hk4).same fun b hb => hgrw.blk (Nat.lt_of_lt_of_le (HIN.out b hb) (HBU2.out.keep hk4).size) fun e => by have := HIN.out b hb; have := HN.out b e; omega
        have HD5 : Hid (RefD w5 Y U1) := Lib.hid (by rw [HS1.out]; exact hd5)
        have HB5 := Lib.hid hb5
        have HN5 := Lib.hid hn5
        have HOWN : Hid (w5.ownsRow 0 47 2 v' L1.length (pvals L1)) := Lib.hid (by rw [HL.out, pvals_snoc, List.length_append]; exact hown)
        have HRUN := Lib.hid hrun
        clear hk4 hb4 HO4 hrun hown hgrw hb5 hn5 hd5 HKEEP HSKIP hx
        go_wp2_with (refine stop_at (o := ⟨some 31, _, _, _, _, _⟩) ?_)
        refine Stop.mk ?_
        refine wpList_load_agg rfl _ rfl ty_plc B 0 rfl _ (by simpa using Cells.of_block HB2.out) rfl ?_
        go_wp2_with (refine stop_at (o := ⟨some 33, _, _, _, _, _⟩) ?_)
        refine Stop.mk ?_
        refine wpList_plain rfl fun K hK => ?_
        refine wp_append_run rfl rfl rfl HRUN.out ?_
        refine hK _ _ ?_
        clear hK K HRUN
        go_wp2
        go_roundw
        case rel => exact ⟨_, j + 1, rfl, hlt, by go_num, by rw [HU1.out]; exact HD5, by rw [HL1.out]; exact HOWN, HB5, HN5⟩
        case measure => simp [intOf]; omega
    · have hjj : j = T.loose.length := by omega
      subst hjj
      rw [List.take_length] at HD HO HKP
      obtain ⟨ao2, cap2, hv2⟩ := own_form HO.out
      have HV2 := Lib.hid hv2
      have HK1 := Lib.hid (show (T.settled k keep).l = (RT.setD k keep T.loose T).l from rfl)
      clear hv2
      have HTOP := Lib.hid HD.out.bank
      have hb5 : rbank Y (RT.setD k keep T.loose T) = [Y.Lv, Y.lv, .bool (RT.setD k keep T.loose T).down, .int .i64 (RT.setD k keep T.loose T).n, .int .i64 (RT.setD k keep T.loose T).armed, .int .u64 (RT.setD k keep T.loose T).mask] := rfl
      have HBK := Lib.hid hb5
      clear hb5
      go_wp2_with (refine stop_at (o := ⟨none, .store _ _ _, _, _, _, _⟩) ?_)
      refine Stop.mk ?_
      refine wpList_set_cell rfl _ _ rfl size_places Y.q 1 rfl v rfl (by rw [HV2.out]; rfl) (by rw [HV2.out]; rfl) _ _ HTOP.out (by simp [rbank]) ?_
      intro w6 hw6
      have hd6 := HD.out.put_bank (lv' := v) (T' := T.settled k keep) rfl (by exact hw6) HO.out
      have HD6 := Lib.hid hd6
      have HB6 := Lib.hid (HB.out.trans (But.wrote (S := Y.In) hw6 (.inl rfl)))
      clear hw6 hd6
      go_wp2
      go_end0
      refine ⟨rfl, _, HD6.out, rfl, fun b hb => ?_, HB6.out⟩
      rcases hb with hb | hb | hb | hb
      · exact .inl (.inl hb)
      · exact .inl (.inr (.inl hb))
      · exact .inr (HN.out b hb)
      · exact .inl (.inr (.inr (.inr hb)))
end
end Go.Proofs.YtglplhmclfekfaaGreat
/- The document's bank: Start, Arm, FailAt, Fail, Flush, Read. -/
namespace Go.Proofs.YtglplhmclfekfaaGreat
open Go.RowKit
set_option linter.unusedVariables false
set_option linter.unusedSimpArgs false

/-- the bank turned into this one -/
def RfTo (w : World) (Y : RLay) (U : RT) (w' : World) : Prop := ∃ Y' : RLay, RefD w' Y' U ∧ Y'.q = Y.q ∧ (∀ b, Y'.In b → Y.In b ∨ w.heap.size ≤ b) ∧ But Y.In w w'
section
variable {w w1 w2 : World} {Y : RLay} {T U : RT}
theorem RfTo.of (h : RefD w1 Y U) (hb : But Y.In w w1) : RfTo w Y U w1 := ⟨Y, h, rfl, fun b hb => .inl hb, hb⟩
theorem RfTo.trans {Y1 : RLay} {U2 : RT} (hq : Y1.q = Y.q) (hin : ∀ b, Y1.In b → Y.In b ∨ w.heap.size ≤ b) (hb : But Y.In w w1) (h2 : RfTo w1 Y1 U2 w2) : RfTo w Y U2 w2 := by
  obtain ⟨Y2, d2, q2, i2, b2⟩ := h2
  refine ⟨Y2, d2, q2.trans hq, fun b hb2 => ?_, hb.trans' b2 hin⟩
  rcases i2 b hb2 with h | h
  · exact hin b h
  · exact .inr (Nat.le_trans hb.size h)
theorem RefD.top (h : RefD w Y T) {T' : RT} (hl : T'.l = T.l) (hlo : T'.loose = T.loose) (hw : Wrote w w1 Y.q (rbank Y T') 41) : RefD w1 Y T' ∧ But Y.In w w1 :=
  ⟨h.put_bank (lv' := Y.lv) hl hw (by rw [hlo]; exact h.loo), But.wrote hw (.inl rfl)⟩
theorem nodup_fst {D : List (Nat × Nat × Nat)} (h : (D.map fun d => d.1).Nodup) {i j : Nat} (hi : i < D.length) (hj : j < D.length) (hij : i ≠ j) : D[i].1 ≠ D[j].1 := fun e => by
  rw [List.Nodup, List.pairwise_iff_getElem] at h
  rcases Nat.lt_or_gt_of_ne hij with h1 | h1
  · exact h i j (by simpa using hi) (by simpa using hj) h1 (by simpa using e)
  · exact h j i (by simpa using hj) (by simpa using hi) h1 (by simpa using e.symm)
/-- a disk's own two fields turn -/
theorem RefD.put_dsk (h : RefD w Y T) {k : Nat} (hk : k < Y.D.length) {m : RMed} (hf : m.flu = (T.d k).flu) (hn : m.new = (T.d k).new) (hw : Wrote w w1 Y.D[k].1 (rmed Y.D[k] m) 63) : RefD w1 Y (T.up k m) ∧ But Y.In w w1 := by
  have hkT : k < T.l.length := by rw [← h.len]; exact hk
  have bn := h.dsk k hk
  have hup : ∀ j, (T.up k m).d j = if j = k then m else T.d j := fun j => RT.d_up _ hkT j
  refine ⟨⟨?_, by simp [RT.up]; exact h.len, own_same h.lst fun g hg => hw.oth g (fun e => (own_other h.lst bn (by decide)) (e ▸ hg)), own_same h.loo fun g hg => hw.oth g (fun e => (own_other h.loo bn (by decide)) (e ▸ hg)), fun j hj => ?_, fun j hj => ?_, fun j hj => ?_, h.dd, h.dn⟩, But.wrote hw (.inr (.inr (.inr ⟨_, List.getElem_mem hk, .inl rfl⟩)))⟩
  · rw [hw.oth _ (block_ty h.bank bn (by decide))]; exact h.bank
  · by_cases e : j = k
    · subst e; rw [hup, if_pos rfl]; exact hw.blk
    · rw [hw.oth _ (nodup_fst h.dd hj hk e), hup, if_neg e]; exact h.dsk j hj
  · rw [hw.oth _ (block_ty (h.flu j hj) bn (by decide)), hup, h.flu j hj]
    by_cases e : j = k
    · subst e; rw [if_pos rfl, hf]
    · rw [if_neg e]
  · rw [hw.oth _ (block_ty (h.new j hj) bn (by decide)), hup, h.new j hj]
    by_cases e : j = k
    · subst e; rw [if_pos rfl, hn]
    · rw [if_neg e]
theorem size_boolR : (Tryz.prog.info? 4).map (·.size) = some 1 := by kernel_rfl
theorem size_u64R : (Tryz.prog.info? 33).map (·.size) = some 1 := by kernel_rfl
theorem size_intR : (Tryz.prog.info? 3).map (·.size) = some 1 := by kernel_rfl
set_option maxHeartbeats 2000000
set_option maxRecDepth 100000
theorem rf_Start (h : RefD w Y T) : Calls Tryz.prog 44 #[.pointer (some ⟨Y.q, 0, none⟩)] w fun e w' => e = .returned (.tuple #[]) ∧ RfTo w Y { T with down := false } w' := by
  have H := Lib.hid h; clear h
  go_enter Tryz.func44, Tryz.ntmps44
  go_wp2_with (refine stop_at (o := ⟨none, .store _ _ _, _, _, _, _⟩) ?_)
  refine Stop.mk ?_
  refine wpList_set_cell rfl _ _ rfl size_boolR Y.q 2 rfl (.bool false) rfl rfl rfl _ _ H.out.bank (by simp [rbank]) ?_
  intro w2 hw2
  have hr := H.out.top (T' := { T with down := false }) rfl rfl hw2
  have HR := Lib.hid (RfTo.of hr.1 hr.2); clear hr hw2
  go_wp2
  go_end0
  exact ⟨rfl, HR.out⟩
theorem rf_Arm (h : RefD w Y T) (n m : Int) : Calls Tryz.prog 40 #[.pointer (some ⟨Y.q, 0, none⟩), .int .i64 n, .int .u64 m] w fun e w' => e = .returned (.tuple #[]) ∧ RfTo w Y { T with armed := max n 0, mask := m } w' := by
  have H := Lib.hid h; clear h
  go_enter Tryz.func40, Tryz.ntmps40
  go_wp2_with (refine stop_at (o := ⟨none, .store _ _ _, _, _, _, _⟩) ?_)
  refine Stop.mk ?_
  refine wpList_set_cell rfl _ _ rfl size_intR Y.q 4 rfl (.int .i64 (max n 0)) rfl rfl rfl _ _ H.out.bank (by simp [rbank]) ?_
  intro w2 hw2
  have hr := H.out.top (T' := { T with armed := max n 0 }) rfl rfl hw2
  have HR := Lib.hid hr; clear hr hw2
  go_wp2_with (refine stop_at (o := ⟨none, .store _ _ _, _, _, _, _⟩) ?_)
  refine Stop.mk ?_
  refine wpList_set_cell rfl _ _ rfl size_u64R Y.q 5 rfl (.int .u64 m) rfl rfl rfl _ _ HR.out.1.bank (by simp [rbank]) ?_
  intro w3 hw3
  have hr := HR.out.1.top (T' := { T with armed := max n 0, mask := m }) rfl rfl hw3
  have HR3 := Lib.hid (RfTo.of hr.1 (HR.out.2.trans hr.2)); clear hr hw3
  go_wp2
  go_end0
  exact ⟨rfl, HR3.out⟩
theorem rf_FailAt (h : RefD w Y T) (hl : T.l.length ≤ 32) (d n : Int) : Calls Tryz.prog 38 #[.pointer (some ⟨Y.q, 0, none⟩), .int .i64 d, .int .i64 n] w fun e w' => e = .returned (.tuple #[]) ∧ RfTo w Y (if d < 0 ∨ (T.l.length : Int) ≤ d then T else T.up d.toNat { T.d d.toNat with fail := max n 0 }) w' := by
  obtain ⟨ao, cap, hL, hrow⟩ := h.lform
  have b0 := h.b0
  rw [hL] at b0
  by_cases h0 : d < 0 ∨ (T.l.length : Int) ≤ d
  · rw [if_pos h0]
    have HR := Lib.hid (RfTo.of h (But.refl Y.In w))
    have h0' : d < 0 ∨ (0 ≤ d ∧ (T.l.length : Int) ≤ d) := by omega
    clear h0 h hL hrow
    rcases h0' with h1 | ⟨h1, h2⟩
    · go_enter Tryz.func38, Tryz.ntmps38
      go_wp2
      go_end0
      exact ⟨rfl, HR.out⟩
    · go_enter Tryz.func38, Tryz.ntmps38
      go_wp2
      go_end0
      exact ⟨rfl, HR.out⟩
  · rw [if_neg h0]
    obtain ⟨k, rfl, hk⟩ : ∃ k : Nat, d = (k : Int) ∧ k < T.l.length := ⟨d.toNat, by omega, by omega⟩
    rw [Int.toNat_natCast]
    have hkD : k < Y.D.length := by rw [h.len]; exact hk
    obtain ⟨g, rfl, cr⟩ := hrow k hkD
    have HB := Lib.hid (h.dsk k hkD)
    have HP := Lib.hid (fun w1 hw => h.put_dsk (w1 := w1) hkD (m := { T.d k with fail := max n 0 }) rfl rfl hw)
    generalize hbd : Y.D[k].1 = bd at *
    have HD := Lib.hid hbd
    clear h0 h hL hrow hbd
    go_enter Tryz.func38, Tryz.ntmps38
    go_wp2_with (refine stop_at (o := ⟨none, .store _ _ _, _, _, _, _⟩) ?_)
    refine Stop.mk ?_
    refine wpList_set_cell rfl _ _ rfl size_intR bd 3 rfl (.int .i64 (max n 0)) rfl rfl rfl _ _ HB.out (by simp [rmed]) ?_
    intro w2 hw2
    have hr := HP.out w2 hw2
    have HR := Lib.hid (RfTo.of hr.1 hr.2); clear hr hw2
    go_wp2
    go_end0
    exact ⟨rfl, HR.out⟩
theorem rf_Fail (h : RefD w Y T) (ok : T.Ok) (d : Int) : Calls Tryz.prog 36 #[.pointer (some ⟨Y.q, 0, none⟩), .int .i64 d] w fun e w' => e = .returned (.int .i64 (if d < 0 ∨ (T.l.length : Int) ≤ d then 8 else 0)) ∧ RfTo w Y (if d < 0 ∨ (T.l.length : Int) ≤ d then T else T.fell d.toNat) w' := by
  obtain ⟨ao, cap, hL, hrow⟩ := h.lform
  have b0 := h.b0
  rw [hL] at b0
  have hl := ok.len
  by_cases h0 : d < 0 ∨ (T.l.length : Int) ≤ d
  · rw [if_pos h0, if_pos h0]
    have HR := Lib.hid (RfTo.of h (But.refl Y.In w))
    have h0' : d < 0 ∨ (0 ≤ d ∧ (T.l.length : Int) ≤ d) := by omega
    clear h0 h hL hrow ok
    rcases h0' with h1 | ⟨h1, h2⟩
    · go_enter Tryz.func36, Tryz.ntmps36
      go_wp2
      go_ret
      exact ⟨rfl, HR.out⟩
    · go_enter Tryz.func36, Tryz.ntmps36
      go_wp2
      go_ret
      exact ⟨rfl, HR.out⟩
  · rw [if_neg h0, if_neg h0]
    obtain ⟨k, rfl, hk⟩ : ∃ k : Nat, d = (k : Int) ∧ k < T.l.length := ⟨d.toNat, by omega, by omega⟩
    rw [Int.toNat_natCast]
    have hkD : k < Y.D.length := by rw [h.len]; exact hk
    obtain ⟨g, rfl, cr⟩ := hrow k hkD
    have HB := Lib.hid (h.dsk k hkD)
    have HP := Lib.hid (fun w1 hw => h.put_dsk (w1 := w1) hkD (m := { T.d k with dead := true }) rfl rfl hw)
    have HOK : Hid ((T.kill k).Ok ∧ k < (T.kill k).l.length) := Lib.hid ⟨by
      have okd := ok.d hk
      refine ⟨by simp [RT.kill, RT.up]; exact ok.len, fun m hm => ?_, fun p hp => ?_, ok.many⟩
      · rcases List.mem_or_eq_of_mem_set hm with h' | h'
        · exact ok.med m h'
        · rw [h']; exact ⟨okd.flu, okd.new, okd.len, okd.fail⟩
      · have := ok.loose p hp
        refine ⟨by simp [RT.kill, RT.up]; exact this.1, ?_⟩
        unfold RT.kill; rw [RT.d_up _ hk]
        split
        · rename_i e; rw [← e]; exact this.2
        · exact this.2, by simp [RT.kill, RT.up]; exact hk⟩
    generalize hbd : Y.D[k].1 = bd at *
    have HD := Lib.hid hbd
    clear h0 h hL hrow hbd ok
    go_enter Tryz.func36, Tryz.ntmps36
    go_wp2_with (refine stop_at (o := ⟨none, .store _ _ _, _, _, _, _⟩) ?_)
    refine Stop.mk ?_
    refine wpList_set_cell rfl _ _ rfl size_boolR bd 2 rfl (.bool true) rfl rfl rfl _ _ HB.out (by simp [rmed]) ?_
    intro w2 hw2
    have hr : RefD w2 Y (T.kill k) ∧ But Y.In w w2 := HP.out w2 hw2
    have HR := Lib.hid hr; clear hr hw2
    go_wp2_with fail
    refine Calls.mono (rf_settled HR.out.1 HOK.out.1 HOK.out.2 false) ?_
    rintro e w3 ⟨rfl, h3⟩
    have HR3 : Hid (RfTo w Y (T.fell k) w3) := Lib.hid (RfTo.trans rfl (fun b hb => .inl hb) HR.out.2 h3)
    clear h3
    go_wp2
    go_ret
    exact ⟨rfl, HR3.out⟩
theorem rf_Flush (h : RefD w Y T) (ok : T.Ok) (d : Int) : Calls Tryz.prog 46 #[.pointer (some ⟨Y.q, 0, none⟩), .int .i64 d] w fun e w' => e = .returned (.int .i64 (T.mayE d)) ∧ RfTo w Y (if T.mayE d = 0 then T.settled d.toNat true else T) w' := by
  have HM := Lib.hid (ref_may h ok.len d)
  have H := Lib.hid h
  have HOK := Lib.hid ok
  by_cases h0 : T.mayE d = 0
  · rw [if_pos h0, h0]
    rw [h0] at HM
    obtain ⟨k, rfl, hk⟩ := RT.mayE_in h0
    rw [Int.toNat_natCast]
    clear h ok h0
    go_enter Tryz.func46, Tryz.ntmps46
    go_wp2_with fail
    refine Calls.mono HM.out ?_
    rintro e w1 ⟨rfl, rfl⟩
    go_wp2_with fail
    refine Calls.mono (rf_settled H.out HOK.out hk true) ?_
    rintro e w3 ⟨rfl, h3⟩
    have HR3 : Hid (RfTo w Y (T.settled k true) w3) := Lib.hid h3
    clear h3
    go_wp2
    go_ret
    exact ⟨rfl, HR3.out⟩
  · rw [if_neg h0]
    have hx : (T.mayE d == 0) = false := by simpa using h0
    generalize T.mayE d = x at *
    clear h ok h0
    go_enter Tryz.func46, Tryz.ntmps46
    go_wp2_with fail
    refine Calls.mono HM.out ?_
    rintro e w1 ⟨rfl, rfl⟩
    go_wp2
    go_ret
    exact ⟨rfl, RfTo.of H.out (But.refl _ _)⟩
end
end Go.Proofs.YtglplhmclfekfaaGreat
