/- A disk.Bank: NewBank; the list grows by one disk. -/
import Derived.Test.YtglplhmclfekfaaGreatDkr
import Derived.Test.YtglplhmclfekfaaGreatDko
import Derived.Laws.OwnMore
namespace Go.Proofs.YtglplhmclfekfaaGreat
open Go.RowKit
set_option linter.unusedVariables false
set_option linter.unusedSimpArgs false

theorem made_const {z : Array Value} {v : Value} (hp : 0 < z.size) (hz : ∀ i (h : i < z.size), z[i] = v) (n : Nat) : madeCells z n = (List.replicate n v).toArray := by
  apply Array.ext
  · simp [madeCells]
  · intro i h1 h2
    have hi : i % z.size < z.size := Nat.mod_lt _ hp
    simp [madeCells, getElem!_pos z (i % z.size) hi, hz]
theorem secs_zero (n : Nat) : secs (List.replicate n zeroB) = List.replicate (n * 64) (.int .u8 0) := by
  have h : zeroB = List.replicate 64 0 := by decide
  rw [secs, h, List.flatten_replicate_replicate, u8s, List.map_replicate]
theorem ints_zero (n : Nat) : ints (List.replicate n 0) = List.replicate n (.int .i64 0) := by simp [ints]
theorem secs_info : (Tryz.prog.info? 43).map (fun i => (i.zero, i.size, i.bytes)) = some (some (.agg (List.replicate 64 (.int .u8 0)).toArray), 64, 64) := by kernel_rfl
theorem int_info : (Tryz.prog.info? 3).map (fun i => (i.zero, i.size, i.bytes)) = some (some (.int .i64 0), 1, 8) := by kernel_rfl
theorem makes_secs {o : Oper} {d m n : Nat} (hg : o.guard = none) (hd : o.dst = some d) (ho : o.op = .makeSlice 56 (.tmp m) (.tmp m)) (hn : n ≤ 4096) : Makes Tryz.prog o d m n 43 (secs (List.replicate n zeroB)) := by
  refine ⟨hg, hd, ?_⟩
  have h1 := secs_info
  cases hi : Tryz.prog.info? 43 with
  | none => simp [hi] at h1
  | some i =>
    simp only [hi, Option.map_some, Option.some.injEq, Prod.mk.injEq] at h1
    refine ⟨_, i, _, ho, Tryz.underlying56, rfl, h1.1, by rw [h1.2.2]; omega, ?_⟩
    rw [secs_zero, h1.2.1]
    exact made_const (by decide) (fun i h => by have h' : i < (List.replicate 64 (Value.int IntKind.u8 0)).length := h; exact (List.getElem_replicate h')) _
theorem makes_ints {o : Oper} {d m n : Nat} (hg : o.guard = none) (hd : o.dst = some d) (ho : o.op = .makeSlice 80 (.tmp m) (.tmp m)) (hn : n ≤ 4096) : Makes Tryz.prog o d m n 3 (ints (List.replicate n 0)) := by
  refine ⟨hg, hd, ?_⟩
  have h1 := int_info
  cases hi : Tryz.prog.info? 3 with
  | none => simp [hi] at h1
  | some i =>
    simp only [hi, Option.map_some, Option.some.injEq, Prod.mk.injEq] at h1
    refine ⟨_, i, _, ho, Tryz.underlying80, rfl, h1.1, by rw [h1.2.2]; omega, ?_⟩
    rw [ints_zero, h1.2.1, Nat.mul_one]
    exact made_const (by decide) (fun i h => by have h : i < 1 := h; have : i = 0 := by omega
                                                subst this; rfl) _
theorem ty_ptrs : ElemT Tryz.prog 75 78 1 8 := by
  refine ⟨Tryz.underlying75, ?_, by decide⟩
  have h1 : (Tryz.prog.info? 78).map (fun i => (i.zero, i.size, i.bytes)) = some (some (.pointer none), 1, 8) := by kernel_rfl
  cases hi : Tryz.prog.info? 78 with
  | none => simp [hi] at h1
  | some i =>
    simp [hi] at h1
    exact ⟨i, _, rfl, h1.1, h1.2.1, h1.2.2, rfl⟩
/-- where the blocks of a bank lie that has one disk more -/
def Lay.more (Y : Lay) (n g m p q r c : Nat) (row : List Value) : Lay :=
  ⟨fun i => if i = 1 then g else if i < 2 + 4 * n then Y.A i else if i = 2 + 4 * n then m else if i = 3 + 4 * n then p else if i = 4 + 4 * n then q else r, c, row, fun i => if i < 2 + 4 * n then Y.x i else 0, fun i => if i < 2 + 4 * n then Y.J i else []⟩
theorem Lay.more_at (Y : Lay) (n g m p q r c : Nat) (row : List Value) {i : Nat} (hi : i < 2 + 4 * (n + 1)) :
    (i = 1 ∧ (Y.more n g m p q r c row).A i = g) ∨ (i ≠ 1 ∧ i < 2 + 4 * n ∧ (Y.more n g m p q r c row).A i = Y.A i) ∨ (i = 2 + 4 * n ∧ (Y.more n g m p q r c row).A i = m) ∨ (i = 3 + 4 * n ∧ (Y.more n g m p q r c row).A i = p) ∨
    (i = 4 + 4 * n ∧ (Y.more n g m p q r c row).A i = q) ∨ (i = 5 + 4 * n ∧ (Y.more n g m p q r c row).A i = r) := by
  unfold Lay.more
  simp only
  by_cases h1 : i = 1
  · exact .inl ⟨h1, by rw [if_pos h1]⟩
  · rw [if_neg h1]
    by_cases h2 : i < 2 + 4 * n
    · exact .inr (.inl ⟨h1, h2, by rw [if_pos h2]⟩)
    · rw [if_neg h2]
      have : i = 2 + 4 * n ∨ i = 3 + 4 * n ∨ i = 4 + 4 * n ∨ i = 5 + 4 * n := by omega
      rcases this with h | h | h | h
      · exact .inr (.inr (.inl ⟨h, by rw [if_pos h]⟩))
      · exact .inr (.inr (.inr (.inl ⟨h, by rw [if_neg (by omega), if_pos h]⟩)))
      · exact .inr (.inr (.inr (.inr (.inl ⟨h, by rw [if_neg (by omega), if_neg (by omega), if_pos h]⟩))))
      · exact .inr (.inr (.inr (.inr (.inr ⟨h, by rw [if_neg (by omega), if_neg (by omega), if_neg (by omega)]⟩))))
theorem Lay.more_old (Y : Lay) {n g m p q r c : Nat} {row : List Value} {i : Nat} (h1 : i ≠ 1) (h2 : i < 2 + 4 * n) : (Y.more n g m p q r c row).A i = Y.A i := by
  unfold Lay.more; simp only; rw [if_neg h1, if_pos h2]
section
variable {w : World} {Y : Lay} {T : BankT}
set_option maxHeartbeats 1000000
set_option maxRecDepth 100000
/-- a pointer is appended to a bank's list -/
theorem list_append (h : BankD w Y T) (hn : T.l.length < 32) {b m : Nat} (hb : w.heap[b]? = some (.cells #[.pointer (some ⟨m, 0, none⟩)] 78 (0, 0))) (ty : TypeId) :
    ∃ g c row w', (Builtin.append_ #[75, 75] ty #[Y.list T.l.length, .slice (some ⟨b, 0, none⟩) 1 1]).run Tryz.prog w = .ok (.slice (some ⟨g, 0, none⟩) (T.l.length + 1) c) w' ∧
      w'.heap[g]? = some (.cells (row : List Value).toArray 78 (0, 0)) ∧ row.length = c ∧ T.l.length + 1 ≤ c ∧ c ≤ maxLen ∧ (∀ k, k < T.l.length → row[k]? = some (Y.ptr (2 + 4 * k))) ∧ row[T.l.length]? = some (.pointer (some ⟨m, 0, none⟩)) ∧
      ((T.l.length ≠ 0 ∧ g = Y.A 1) ∨ w.heap.size ≤ g) ∧ But (fun k => T.l.length ≠ 0 ∧ k = Y.A 1) w w' := by
  have hcb : ∀ j u, [Value.pointer (some ⟨m, 0, none⟩)][j]? = some u → w.cell? ((⟨b, 0, none⟩ : Addr).add j) = some u := by
    intro j u hu
    match j with
    | 0 => simp at hu; subst hu; simpa [Addr.add] using one_cell hb
    | j + 1 => simp at hu
  have key : ∀ {g c : Nat} {w' : World} {xs : List Value}, w'.ownsRow 0 78 1 (.slice (some ⟨g, 0, none⟩) (T.l.length + 1) c) (T.l.length + 1) xs → ∃ row : List Value, w'.heap[g]? = some (.cells row.toArray 78 (0, 0)) ∧ row.length = c ∧ T.l.length + 1 ≤ c ∧ c ≤ maxLen ∧ ∀ k, k < T.l.length + 1 → row[k]? = xs[k]? := by
    intro g c w' xs ho
    rcases ho.2 with ⟨h, _⟩ | ⟨g', c', cur, hv, _, hg, h1, h2, h3, h4⟩
    · cases h
    · cases hv
      rw [Nat.mul_one] at h3 h4
      refine ⟨cur.toList, by simpa using hg, by simpa using h3, h1, h2, fun k hk => ?_⟩
      rw [← h4, List.getElem?_take, if_pos hk]
  let xs : List Value := (List.range T.l.length).map fun k => Y.ptr (2 + 4 * k)
  have hxl : xs.length = T.l.length := by simp [xs]
  have hxk : ∀ k, k < T.l.length → xs[k]? = some (Y.ptr (2 + 4 * k)) := fun k hk => by simp [xs, hk]
  have hfin : ∀ k, k < T.l.length → (xs ++ [Value.pointer (some ⟨m, 0, none⟩)])[k]? = some (Y.ptr (2 + 4 * k)) := fun k hk => by rw [List.getElem?_append_left (by omega)]; exact hxk k hk
  have hlast : (xs ++ [Value.pointer (some ⟨m, 0, none⟩)])[T.l.length]? = some (.pointer (some ⟨m, 0, none⟩)) := by rw [List.getElem?_append_right (by omega), hxl]; simp
  have hsrc : Src w 1 (.slice (some ⟨b, 0, none⟩) 1 1) 1 [Value.pointer (some ⟨m, 0, none⟩)] := ⟨rfl, _, 1, rfl, Nat.le_refl _, by simp, fun b' hb' j u hu => by cases hb'; exact hcb j u hu⟩
  have fresh : ∀ v, App w w.heap.size 78 1 v T.l.length xs → v = Y.list T.l.length → (∀ k, v.ownBlock = some k → T.l.length ≠ 0 ∧ k = Y.A 1) → ∃ g c row w', (Builtin.append_ #[75, 75] ty #[Y.list T.l.length, .slice (some ⟨b, 0, none⟩) 1 1]).run Tryz.prog w = .ok (.slice (some ⟨g, 0, none⟩) (T.l.length + 1) c) w' ∧
      w'.heap[g]? = some (.cells (row : List Value).toArray 78 (0, 0)) ∧ row.length = c ∧ T.l.length + 1 ≤ c ∧ c ≤ maxLen ∧ (∀ k, k < T.l.length → row[k]? = some (Y.ptr (2 + 4 * k))) ∧ row[T.l.length]? = some (.pointer (some ⟨m, 0, none⟩)) ∧
      ((T.l.length ≠ 0 ∧ g = Y.A 1) ∨ w.heap.size ≤ g) ∧ But (fun k => T.l.length ≠ 0 ∧ k = Y.A 1) w w' := by
    intro v hv hv2 hob
    obtain ⟨v', w', hr, _, hg, hB, hown⟩ := run_append_app (P := Tryz.prog) w ty_ptrs ty w.heap.size v T.l.length xs hv _ 1 _ hsrc (by intro u hu; simp at hu; subst hu; rfl) (by simp only [maxLen]; omega) (by omega) (Nat.le_refl _)
    have ho := hown (.inl (by decide))
    rw [hv2] at hr
    rcases ho.2 with ⟨_, h0⟩ | ⟨g, c, cur, rfl, hge, _⟩
    · omega
    · obtain ⟨row, k1, k2, k3, k4, k5⟩ := key (ownsRow_base ho (Nat.zero_le _))
      exact ⟨g, c, row, w', hr, k1, k2, k3, k4, fun k hk => (k5 k (by omega)).trans (hfin k hk), (k5 _ (by omega)).trans hlast, .inr hge, ⟨hB.os, hB.tape, hB.output, hB.size, fun k hk _ => hB.block k hk⟩⟩
  by_cases h0 : T.l.length = 0
  · refine fresh (.slice none 0 0) ?_ (by simp [Lay.list, h0]) (by simp [Value.ownBlock])
    have : xs = [] := List.eq_nil_of_length_eq_zero (by omega)
    rw [this, h0]
    exact App.empty w _ _ _
  · obtain ⟨r1, r2, r3, r4, r5⟩ := h.row h0
    have hlist : Y.list T.l.length = .slice (some ⟨Y.A 1, 0, none⟩) T.l.length Y.c := by simp [Lay.list, h0]
    have htake : Y.row.take T.l.length = xs := by
      apply List.ext_getElem?
      intro k
      rw [List.getElem?_take]
      by_cases hk : k < T.l.length
      · rw [if_pos hk, r5 k hk, hxk k hk]
      · rw [if_neg hk, List.getElem?_eq_none (by omega)]
    by_cases hfull : T.l.length = Y.c
    · refine fresh (.slice (some ⟨Y.A 1, 0, none⟩) T.l.length T.l.length) (.inr ⟨by omega, _, rfl, by simp, fun b' hb' j u hu => ?_⟩) (by rw [hlist, ← hfull]) (fun k hk => by simp [Value.ownBlock] at hk; exact ⟨h0, hk.symm⟩)
      cases hb'
      have hj : j < T.l.length := by
        rcases Nat.lt_or_ge j xs.length with h | h
        · omega
        · rw [List.getElem?_eq_none h] at hu; cases hu
      have : ((⟨Y.A 1, 0, none⟩ : Addr).add j) = ⟨Y.A 1, j, none⟩ := by rw [Addr.add_mid, Nat.zero_add]
      rw [this, h.r hj, ← hu, hxk j hj]; rfl
    · have hown : w.ownsRow 0 78 1 (.slice (some ⟨Y.A 1, 0, none⟩) T.l.length Y.c) T.l.length xs := ⟨by omega, .inr ⟨Y.A 1, Y.c, Y.row.toArray, rfl, Nat.zero_le _, r1, r3, r4, by simpa using r2, by simpa using htake⟩⟩
      obtain ⟨ht, ⟨i, z, hi, hz, hsz, hby, hzs⟩, hpos⟩ := ty_ptrs
      obtain ⟨w', hr, ho, hg⟩ := run_append_fits (P := Tryz.prog) (w := w) 0 _ ty _ i 1 ht hi hsz (Y.A 1) T.l.length Y.c xs hown ⟨b, 0, none⟩ 1 1 [Value.pointer (some ⟨m, 0, none⟩)] rfl hcb (by intro u hu; simp at hu; subst hu; rfl) (by omega)
      obtain ⟨row, k1, k2, k3, k4, k5⟩ := key ho
      rw [hlist]
      exact ⟨Y.A 1, Y.c, row, w', hr, k1, k2, k3, k4, fun k hk => (k5 k (by omega)).trans (hfin k hk), (k5 _ (by omega)).trans hlast, .inl ⟨h0, rfl⟩, ⟨hg.os, hg.tape, hg.output, hg.size, fun k hk hne => hg.block k hk (fun e => hne ⟨h0, by injection e⟩)⟩⟩
theorem bank_New (w : World) : Calls Tryz.prog 24 #[] w fun e w' => ∃ Y : Lay, e = .returned (.pointer (some ⟨Y.A 0, 0, none⟩)) ∧ BankD w' Y BankT.zero ∧ Y.A 0 = w.heap.size ∧ Kept w w' := by
  go_enter Tryz.func24, Tryz.ntmps24
  go_wp2
  go_ret
  refine ⟨⟨fun _ => w.heap.size, 0, [], fun _ => 0, fun _ => []⟩, rfl, ⟨heap_alloc_new w _, fun h => absurd rfl h, fun k hk => absurd hk (Nat.not_lt_zero _), fun k hk => absurd hk (Nat.not_lt_zero _), fun k hk => absurd hk (Nat.not_lt_zero _), fun k hk => absurd hk (Nat.not_lt_zero _), fun i j hi hj h _ => ?_⟩, rfl, (Kept.refl w).alloc _⟩
  have := h rfl
  have hi : i < 2 := hi
  have hj : j < 2 := hj
  omega
end
end Go.Proofs.YtglplhmclfekfaaGreat
