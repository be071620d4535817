/- PaB: several texts in one: Rew Rex Map Frame Rule. -/
import Derived.Test.YtpeclkhppgabfaaDoorPaA
import Derived.Maps.Own
import Derived.Maps.OwnOps
import Derived.StillTailTactics
/- record.Parts, record.TagOf walked. -/
namespace Go.Proofs.YtpeclkhppgabfaaDoor
open Go.RowKit
set_option linter.unusedVariables false
set_option linter.unusedSimpArgs false

set_option maxHeartbeats 400000 in
theorem record_Parts (n : Nat) (hn : n ≤ 4294967296) (w : World) :
    Calls Tryd.prog 26 #[.int .i64 n] w fun e w' => e = .returned (.int .i64 (partsN n)) ∧ w = w' := by
  go_enter Tryd.func26, Tryd.ntmps26
  go_wp2
  all_goals (go_ret; refine ⟨ret_int ?_, rfl⟩; unfold partsN)
  all_goals (split <;> omega)

/-- the first that is not 0 -/
def idxNZ (xs : List Int) : Int := match xs.findIdx? (fun c => decide (c ≠ 0)) with | some k => k | none => -1
theorem idxNZ_hit {xs : List Int} {k : Nat} (hk : k < xs.length) (hno : ∀ i (h : i < xs.length), i < k → xs[i] = 0) (h : xs[k] ≠ 0) : idxNZ xs = k := by
  have : xs.findIdx? (fun c => decide (c ≠ 0)) = some k := by
    rw [List.findIdx?_eq_some_iff_getElem]
    exact ⟨hk, by simpa using h, fun j hj => by simpa using hno j (by omega) hj⟩
  unfold idxNZ; rw [this]
theorem idxNZ_miss {xs : List Int} (hno : ∀ i (h : i < xs.length), xs[i] = 0) : idxNZ xs = -1 := by
  have : xs.findIdx? (fun c => decide (c ≠ 0)) = none := by
    rw [List.findIdx?_eq_none_iff]
    intro x hx
    obtain ⟨i, hi, rfl⟩ := List.getElem_of_mem hx
    simpa using hno i hi
  unfold idxNZ; rw [this]
theorem idxNZ_any (xs : List Int) : decide (0 ≤ idxNZ xs) = xs.any fun c => decide (c ≠ 0) := by
  unfold idxNZ
  cases h : xs.findIdx? (fun c => decide (c ≠ 0)) with
  | none => rw [List.findIdx?_eq_none_iff] at h; simpa using h
  | some k =>
    rw [List.findIdx?_eq_some_iff_getElem] at h
    obtain ⟨hk, hp, _⟩ := h
    simp only [Int.natCast_nonneg, decide_true]
    symm; rw [List.any_eq_true]; exact ⟨_, List.getElem_mem hk, hp⟩

theorem record_nz (c : Int) (w : World) : Calls Tryd.prog 72 #[.int .u8 c] w fun e w' => e = .returned (.bool (!(c == 0))) ∧ w = w' := by
  go_enter Tryd.func72, Tryd.ntmps72
  go_wp2
  go_ret
  exact ⟨rfl, rfl⟩

set_option maxHeartbeats 800000 in
theorem bytes_index (xs : List Int) (b off c : Nat) (w : World) (hlen : xs.length ≤ 9223372036854775807) (hm : Cells w b off (u8s xs)) :
    Calls Tryd.prog 86 #[.slice (some ⟨b, off, none⟩) xs.length c, .func (.func 72) #[] #[]] w fun e w' => e = .returned (.int .i64 (idxNZ xs)) ∧ w = w' := by
  have HM := Lib.hid hm; clear hm
  go_enter Tryd.func86, Tryd.ntmps86
  go_wp2
  go_loop [8] (fun i => ∃ k : Nat, k ≤ xs.length ∧ i = .int .i64 k ∧ ∀ i (h : i < xs.length), i < k → xs[i] = 0) (fun i => xs.length - (intOf i).toNat)
  case atStart => exact ⟨0, Nat.zero_le _, rfl, fun _ _ h => by omega⟩
  case round =>
    obtain ⟨k, hk, rfl, hno⟩ := hrel
    have HN := Lib.hid hno; clear hno
    by_cases hlt : k < xs.length
    · have h0 : w.cell? ⟨b, off + k, none⟩ = some (.int .u8 xs[k]) := by
        have := HM.out k (by rw [u8s_length]; exact hlt)
        simpa [u8s] using this
      by_cases hz : (xs[k] == 0) = true
      · go_wp2_with (go_at_call 72; refine (record_nz _ _).mono ?_; rintro e w' ⟨rfl, rfl⟩)
        go_round
        case rel => exact ⟨k + 1, by omega, by go_num, fun i h hi => by
          rcases Nat.lt_succ_iff_lt_or_eq.1 hi with h' | rfl
          · exact HN.out i h h'
          · simpa using hz⟩
        case measure => simp [intOf]; omega
      · have hz' : (xs[k] == 0) = false := by simpa using hz
        clear hz
        go_wp2_with (go_at_call 72; refine (record_nz _ _).mono ?_; rintro e w' ⟨rfl, rfl⟩)
        go_ret
        exact ⟨by rw [idxNZ_hit hlt HN.out (by simpa using hz')]; rfl, rfl⟩
    · go_wp2
      go_ret
      exact ⟨by rw [idxNZ_miss (fun i h => HN.out i h (by omega))]; rfl, rfl⟩

set_option maxHeartbeats 400000 in
theorem bytes_any (xs : List Int) (b off c : Nat) (w : World) (hlen : xs.length ≤ 9223372036854775807) (hm : Cells w b off (u8s xs)) :
    Calls Tryd.prog 71 #[.slice (some ⟨b, off, none⟩) xs.length c, .func (.func 72) #[] #[]] w fun e w' => e = .returned (.bool (xs.any fun c => decide (c ≠ 0))) ∧ w = w' := by
  go_enter Tryd.func71, Tryd.ntmps71
  go_wp2_with (go_at_call 86; refine (bytes_index xs b off c _ hlen hm).mono ?_; rintro e w' ⟨rfl, rfl⟩)
  go_ret
  exact ⟨by rw [← idxNZ_any]; rfl, rfl⟩
/-- a tag -/
def Tag.vals (t : Tag) : List Value := [.int .i64 t.gen, .int .i64 t.num, .int .i64 t.part, .int .i64 t.parts, .int .i64 t.len]
def Tag.val (t : Tag) : Value := .agg #[.int .i64 t.gen, .int .i64 t.num, .int .i64 t.part, .int .i64 t.parts, .int .i64 t.len]
def tag0 : Tag := ⟨0, 0, 0, 0, 0⟩
theorem ty_tag : AggT Tryd.prog 74 5 := ⟨⟨_, Tryd.underlying74, rfl⟩, by kernel_rfl⟩
theorem results_tag {fn : Func} {p q : Tmp} (h : fn.results = #[.cell p 74, .tmp q]) (tmps : Array Value) (w : World) (b : Nat) (t : Tag)
    (hp : tmps.getD p undef = .pointer (some ⟨b, 0, none⟩)) (hc : Cells w b 0 t.vals) :
    (results fn tmps).run Tryd.prog w = .ok (.tuple #[t.val, tmps.getD q undef]) w := by
  have hp' : tmps[p]?.getD undef = .pointer (some ⟨b, 0, none⟩) := by simpa using hp
  obtain ⟨⟨d, hd1, hd2⟩, hs⟩ := ty_tag
  have hr := run_loadVar_mid (P := Tryd.prog) w b 0 74 _ d (rangeAt_of_cells hc) hd1 hd2 (by kernel_rfl)
  simp [results, h, hp', asAddr, hr, Tag.val, Tag.vals]
theorem secAt {bs : List Int} (hb : ∀ x ∈ bs, IsByte x) (k : Nat) (hk : k < bs.length) : ∃ x, bs.getD k 0 = x ∧ 0 ≤ x ∧ x ≤ 255 ∧ (u8s bs)[k]? = some (.int .u8 x) := by
  have h := hb (bs[k]'hk) (List.getElem_mem hk)
  have e : bs.getD k 0 = bs[k]'hk := by rw [List.getD_eq_getElem?_getD, List.getElem?_eq_getElem hk]; rfl
  exact ⟨_, rfl, by rw [e]; exact h.1, by rw [e]; exact h.2, getD_u8s bs k hk⟩
theorem u8s_dropR (l : List Int) (k : Nat) : u8s (l.drop k) = (u8s l).drop k := by simp [u8s]
theorem Cells.dropR {w : World} {b off : Nat} {xs : List Value} (h : Cells w b off xs) (k : Nat) : Cells w b (off + k) (xs.drop k) := by
  intro j hj
  have := h (k + j) (by rw [List.length_drop] at hj; omega)
  rw [List.getElem_drop, ← this]
  congr 2; omega
/-- a sector's end, from lo on: of 64 no cell is left -/
theorem run_sliceAt_end (b lo : Nat) (hlo : lo ≤ 64) : ∃ off, (∀ w : World, (Instr.sliceAt 39 (.pointer (some ⟨b, 0, none⟩)) (some (.int .i64 (lo : Int))) none none).run Tryd.prog w = .ok (.slice (some ⟨b, off, none⟩) (64 - lo) (64 - lo)) w) ∧ (lo < 64 → off = lo) := by
  by_cases h : lo < 64
  · refine ⟨lo, fun w => ?_, fun _ => rfl⟩
    have := run_sliceAt_from (P := Tryd.prog) w 39 5 64 (by kernel_rfl) (by kernel_rfl) b 0 lo h
    simpa using this
  · obtain rfl : lo = 64 := by omega
    refine ⟨0, fun w => ?_, fun h => by omega⟩
    have ht : Tryd.prog.underlying 39 = some (.array 64 5) := by kernel_rfl
    have hi : (Tryd.prog.info? 5).map (·.size) = some 1 := by kernel_rfl
    cases hj : Tryd.prog.info? 5 with
    | none => simp [hj] at hi
    | some i => simp [Instr.sliceAt, Instr.sureAddr, run_underlying ht, Instr.sliceBounds, Instr.sliceBound, asIntOf, sizeOf, typeInfo, hj]
def badA (x8 x9 x10 : Int) : Bool := decide (x9 < 1) || decide (40 < x9) || decide (x9 ≤ x8) || decide (53 < x10)
def badB (x8 x9 x10 : Int) : Bool := (decide (x8 + 1 ≠ x9) && decide (x10 < 53)) || (decide (x8 + 1 = x9) && (decide (1 < x9) && decide (x10 = 0)))
theorem tagOf_A {bs : List Int} (h : badA (bs.getD 8 0) (bs.getD 9 0) (bs.getD 10 0) = true) : tagOf bs = none := by
  unfold tagOf tagBad tagRaw
  simp only [badA] at h
  simp only [h, Bool.true_or, if_true]
theorem tagOf_B {bs : List Int} (h : badB (bs.getD 8 0) (bs.getD 9 0) (bs.getD 10 0) = true) : tagOf bs = none := by
  unfold tagOf tagBad tagRaw
  simp only [badB] at h
  rw [if_pos]
  simp only [Bool.or_assoc, Bool.or_eq_true] at h ⊢
  rcases h with h | h
  · exact .inr (.inr (.inr (.inr (.inl h))))
  · exact .inr (.inr (.inr (.inr (.inr (.inl h)))))
theorem tagOf_C {bs : List Int} (hA : badA (bs.getD 8 0) (bs.getD 9 0) (bs.getD 10 0) = false) (hB : badB (bs.getD 8 0) (bs.getD 9 0) (bs.getD 10 0) = false) :
    tagOf bs = if (bs.drop (11 + (bs.getD 10 0).toNat)).any (fun c => decide (c ≠ 0)) then none else some (tagRaw bs) := by
  have e : tagBad bs (tagRaw bs) = (bs.drop (11 + (bs.getD 10 0).toNat)).any (fun c => decide (c ≠ 0)) := by
    simp only [badA] at hA
    simp only [badB, Bool.or_eq_false_iff] at hB
    unfold tagBad tagRaw
    simp only [hA, hB.1, hB.2, Bool.false_or]
  unfold tagOf
  rw [e]
end Go.Proofs.YtpeclkhppgabfaaDoor
/- record.TagOf walked. -/
namespace Go.Proofs.YtpeclkhppgabfaaDoor
open Go.RowKit
set_option linter.unusedVariables false
set_option linter.unusedSimpArgs false

/-- what TagOf answers -/
def TagRes (bs : List Int) : Value := .tuple #[((tagOf bs).getD tag0).val, .bool (tagOf bs).isSome]
set_option maxHeartbeats 2000000 in
set_option maxRecDepth 100000 in
theorem record_TagOf (bs : List Int) (w : World) (hb : ∀ x ∈ bs, IsByte x) (hl : bs.length = 64) :
    Calls Tryd.prog 59 #[secV bs] w fun e w' => e = .returned (TagRes bs) ∧ Kept w w' := by
  simp only [secV]
  obtain ⟨x8, e8, b8a, b8b, h8⟩ := secAt hb 8 (by omega)
  obtain ⟨x9, e9, b9a, b9b, h9⟩ := secAt hb 9 (by omega)
  obtain ⟨x10, e10, b10a, b10b, h10⟩ := secAt hb 10 (by omega)
  have hA := @tagOf_A bs
  have hB := @tagOf_B bs
  have hC := @tagOf_C bs
  rw [e8, e9, e10] at hA hB hC
  have hraw : tagRaw bs = ⟨beVal (bs.take 4), beVal ((bs.drop 4).take 4), x8, x9, x10⟩ := by unfold tagRaw; rw [e8, e9, e10]
  have HA := Lib.hid hA; clear hA
  have HB := Lib.hid hB; clear hB
  have HC := Lib.hid hC; clear hC
  have HR := Lib.hid hraw; clear hraw
  have HBY := Lib.hid hb; clear hb
  have HL := Lib.hid hl; clear hl
  clear e8 e9 e10
  obtain ⟨n, rfl⟩ := Int.eq_ofNat_of_zero_le b10a
  have hs4 := fun w' => run_sliceAt_from (P := Tryd.prog) w' 39 5 64 (by kernel_rfl) (by kernel_rfl) w.heap.size 0 4 (by omega)
  have kB : ∀ o1 o2 o3, Kept w (((w.alloc o1).alloc o2).alloc o3) := fun o1 o2 o3 => (((Kept.refl _).alloc o1).alloc o2).alloc o3
  have hc0 := fun (W : World) (hk : Kept (w.alloc (.cells (u8s bs).toArray 39)) W) => (Cells.new (w := w) (t := 39) (fr := (0, 0)) (c := (u8s bs).toArray) (n := w.heap.size) rfl rfl).kept hk
  have g0 := fun (k n c : Nat) (h1 : k + n = 64 ∧ n = c ∧ 4 ≤ n) (W : World) (hk : Kept (w.alloc (.cells (u8s bs).toArray 39)) W) => pack_Get w.heap.size k n c (bs.drop k) 4 W (fun x hx => HBY.out x (List.mem_of_mem_drop hx)) (by rw [u8s_dropR]; simpa using (hc0 W hk).dropR k) (by rw [List.length_drop, HL.out]; omega) (by omega) (by omega) (by omega) (by omega) (by omega)
  have gA : n ≤ 53 → ∃ off, (∀ w' : World, (Instr.sliceAt 39 (.pointer (some ⟨w.heap.size, 0, none⟩)) (some (.int .i64 (11 + (n : Int)))) none none).run Tryd.prog w' = .ok (.slice (some ⟨w.heap.size, off, none⟩) (64 - (11 + n)) (64 - (11 + n))) w') ∧
      ∀ (W : World) (hk : Kept (w.alloc (.cells (u8s bs).toArray 39)) W), Calls Tryd.prog 71 #[.slice (some ⟨w.heap.size, off, none⟩) (64 - (11 + n)) (64 - (11 + n)), .func (.func 72) #[] #[]] W fun e w' => e = .returned (.bool ((bs.drop (11 + n)).any fun c => decide (c ≠ 0))) ∧ W = w' := by
    intro hn
    obtain ⟨off, h1, h2⟩ := run_sliceAt_end w.heap.size (11 + n) (by omega)
    refine ⟨off, fun w' => by have := h1 w'; rwa [Int.natCast_add] at this, fun W hk => ?_⟩
    have hlen : (bs.drop (11 + n)).length = 64 - (11 + n) := by rw [List.length_drop, HL.out]
    have := bytes_any (bs.drop (11 + n)) w.heap.size off (64 - (11 + n)) W (by omega) (by
      by_cases h : 11 + n < 64
      · rw [h2 h, u8s_dropR]; simpa using (hc0 W hk).dropR (11 + n)
      · intro j hj; rw [u8s_length] at hj; omega)
    rw [hlen] at this
    exact this
  have G0 := Lib.hid g0; clear g0
  have GA := Lib.hid gA; clear gA
  clear hc0
  have hcase : (x9 < 1) ∨ (1 ≤ x9 ∧ 40 < x9) ∨ (1 ≤ x9 ∧ x9 ≤ 40 ∧ x9 ≤ x8) ∨ (1 ≤ x9 ∧ x9 ≤ 40 ∧ x8 < x9 ∧ 53 < (n : Int)) ∨
      ((1 ≤ x9 ∧ x9 ≤ 40 ∧ x8 < x9 ∧ (n : Int) ≤ 53) ∧ ((¬ x8 + 1 = x9 ∧ (n : Int) < 53) ∨ (¬ x8 + 1 = x9 ∧ 53 ≤ (n : Int)) ∨ (x8 + 1 = x9 ∧ 1 < x9 ∧ (n : Int) = 0) ∨ (x8 + 1 = x9 ∧ 1 < x9 ∧ ¬ (n : Int) = 0) ∨ (x8 + 1 = x9 ∧ x9 ≤ 1))) := by omega
  rcases hcase with h1 | ⟨h1, h2⟩ | ⟨h1, h2, h3⟩ | ⟨h1, h2, h3, h4⟩ | ⟨⟨h1, h2, h3, h4⟩, hcase⟩
  iterate 4
    · have hno : tagOf bs = none := HA.out (by simp only [badA, Bool.or_eq_true, decide_eq_true_eq]; omega)
      have HNO := Lib.hid hno; clear hno
      go_enter Tryd.func59, Tryd.ntmps59
      go_wp2_with (go_at_call 70; refine (G0.out _ _ _ (by decide) _ (by repeat (with_reducible (first | exact Kept.refl _ | apply Kept.alloc | refine Kept.setCell ?_ (by simp) _)))).mono ?_; rintro e w' ⟨rfl, rfl⟩)
      refine bodyPost_ret (results_tag rfl _ _ (w.heap.size + 1) tag0 rfl ?_) rfl ?_
      · exact ((Cells.new (w := w.alloc (.cells (u8s bs).toArray 39)) (t := 74) (fr := (0, 0)) (c := tag0.vals.toArray) (n := w.heap.size + 1) (by simp) rfl).kept ((Kept.refl _).alloc _))
      · refine ⟨?_, kB _ _ _⟩
        unfold TagRes; rw [HNO.out]; rfl
  have hA0 : badA x8 x9 n = false := by simp only [badA, Bool.or_eq_false_iff, decide_eq_false_iff_not]; omega
  rcases hcase with ⟨h5, h6⟩ | ⟨h5, h6⟩ | ⟨h5, h6, h7⟩ | ⟨h5, h6, h7⟩ | ⟨h5, h6⟩
  · have hno : tagOf bs = none := HB.out (by simp only [badB, Bool.or_eq_true, Bool.and_eq_true, decide_eq_true_eq]; omega)
    have HNO := Lib.hid hno; clear hno
    clear hA0
    have hq : (x8 + 1 == x9) = false := by simpa using h5
    go_enter Tryd.func59, Tryd.ntmps59
    go_wp2_with (go_at_call 70; refine (G0.out _ _ _ (by decide) _ (by repeat (with_reducible (first | exact Kept.refl _ | apply Kept.alloc | refine Kept.setCell ?_ (by simp) _)))).mono ?_; rintro e w' ⟨rfl, rfl⟩)
    refine bodyPost_ret (results_tag rfl _ _ (w.heap.size + 1) tag0 rfl ?_) rfl ?_
    · exact ((Cells.new (w := w.alloc (.cells (u8s bs).toArray 39)) (t := 74) (fr := (0, 0)) (c := tag0.vals.toArray) (n := w.heap.size + 1) (by simp) rfl).kept ((Kept.refl _).alloc _))
    · refine ⟨?_, kB _ _ _⟩
      unfold TagRes; rw [HNO.out]; rfl
  · have hno : tagOf bs = if (bs.drop (11 + n)).any (fun c => decide (c ≠ 0)) then none else some (tagRaw bs) := by
      have := HC.out hA0 (by simp only [badB, Bool.or_eq_false_iff, Bool.and_eq_false_iff, decide_eq_false_iff_not]; omega)
      rwa [Int.toNat_natCast] at this
    have HNO := Lib.hid hno; clear hno
    clear hA0
    have hq : (x8 + 1 == x9) = false := by simpa using h5
    obtain ⟨off, hsl, hcl⟩ := GA.out (by omega)
    have gB := Lib.hid hcl; clear hcl GA
    go_enter Tryd.func59, Tryd.ntmps59
    cases hany : (bs.drop (11 + n)).any fun c => decide (c ≠ 0)
    · rw [hany] at gB HNO
      clear hany
      go_wp2_with (first | (go_at_call 70; refine (G0.out _ _ _ (by decide) _ (by repeat (with_reducible (first | exact Kept.refl _ | apply Kept.alloc | refine Kept.setCell ?_ (by simp) _)))).mono ?_; rintro e w' ⟨rfl, rfl⟩) | (go_at_call 71; refine (gB.out _ (by repeat (with_reducible (first | exact Kept.refl _ | apply Kept.alloc | refine Kept.setCell ?_ (by simp) _)))).mono ?_; rintro e w' ⟨rfl, rfl⟩))
      refine bodyPost_ret (results_tag rfl _ _ (w.heap.size + 1) (tagRaw bs) rfl ?_) rfl ?_
      · rw [HR.out]
        exact ((Cells.new (w := w.alloc (.cells (u8s bs).toArray 39)) (t := 74) (fr := (0, 0)) (c := (Tag.vals _).toArray) (n := w.heap.size + 1) (by simp) rfl).kept ((Kept.refl _).alloc _))
      · refine ⟨?_, kB _ _ _⟩
        unfold TagRes; rw [HNO.out]; rfl
    · rw [hany] at gB HNO
      clear hany
      go_wp2_with (first | (go_at_call 70; refine (G0.out _ _ _ (by decide) _ (by repeat (with_reducible (first | exact Kept.refl _ | apply Kept.alloc | refine Kept.setCell ?_ (by simp) _)))).mono ?_; rintro e w' ⟨rfl, rfl⟩) | (go_at_call 71; refine (gB.out _ (by repeat (with_reducible (first | exact Kept.refl _ | apply Kept.alloc | refine Kept.setCell ?_ (by simp) _)))).mono ?_; rintro e w' ⟨rfl, rfl⟩))
      refine bodyPost_ret (results_tag rfl _ _ (w.heap.size + 1) tag0 rfl ?_) rfl ?_
      · exact ((Cells.new (w := w.alloc (.cells (u8s bs).toArray 39)) (t := 74) (fr := (0, 0)) (c := tag0.vals.toArray) (n := w.heap.size + 1) (by simp) rfl).kept ((Kept.refl _).alloc _))
      · refine ⟨?_, kB _ _ _⟩
        unfold TagRes; rw [HNO.out]; rfl
  · have hno : tagOf bs = none := HB.out (by simp only [badB, Bool.or_eq_true, Bool.and_eq_true, decide_eq_true_eq]; omega)
    have HNO := Lib.hid hno; clear hno
    clear hA0
    subst h5
    obtain rfl : n = 0 := by omega
    go_enter Tryd.func59, Tryd.ntmps59
    go_wp2_with (go_at_call 70; refine (G0.out _ _ _ (by decide) _ (by repeat (with_reducible (first | exact Kept.refl _ | apply Kept.alloc | refine Kept.setCell ?_ (by simp) _)))).mono ?_; rintro e w' ⟨rfl, rfl⟩)
    refine bodyPost_ret (results_tag rfl _ _ (w.heap.size + 1) tag0 rfl ?_) rfl ?_
    · exact ((Cells.new (w := w.alloc (.cells (u8s bs).toArray 39)) (t := 74) (fr := (0, 0)) (c := tag0.vals.toArray) (n := w.heap.size + 1) (by simp) rfl).kept ((Kept.refl _).alloc _))
    · refine ⟨?_, kB _ _ _⟩
      unfold TagRes; rw [HNO.out]; rfl
  · have hno : tagOf bs = if (bs.drop (11 + n)).any (fun c => decide (c ≠ 0)) then none else some (tagRaw bs) := by
      have := HC.out hA0 (by simp only [badB, Bool.or_eq_false_iff, Bool.and_eq_false_iff, decide_eq_false_iff_not]; omega)
      rwa [Int.toNat_natCast] at this
    have HNO := Lib.hid hno; clear hno
    clear hA0
    subst h5
    obtain ⟨off, hsl, hcl⟩ := GA.out (by omega)
    have gB := Lib.hid hcl; clear hcl GA
    go_enter Tryd.func59, Tryd.ntmps59
    cases hany : (bs.drop (11 + n)).any fun c => decide (c ≠ 0)
    · rw [hany] at gB HNO
      clear hany
      go_wp2_with (first | (go_at_call 70; refine (G0.out _ _ _ (by decide) _ (by repeat (with_reducible (first | exact Kept.refl _ | apply Kept.alloc | refine Kept.setCell ?_ (by simp) _)))).mono ?_; rintro e w' ⟨rfl, rfl⟩) | (go_at_call 71; refine (gB.out _ (by repeat (with_reducible (first | exact Kept.refl _ | apply Kept.alloc | refine Kept.setCell ?_ (by simp) _)))).mono ?_; rintro e w' ⟨rfl, rfl⟩))
      refine bodyPost_ret (results_tag rfl _ _ (w.heap.size + 1) (tagRaw bs) rfl ?_) rfl ?_
      · rw [HR.out]
        exact ((Cells.new (w := w.alloc (.cells (u8s bs).toArray 39)) (t := 74) (fr := (0, 0)) (c := (Tag.vals _).toArray) (n := w.heap.size + 1) (by simp) rfl).kept ((Kept.refl _).alloc _))
      · refine ⟨?_, kB _ _ _⟩
        unfold TagRes; rw [HNO.out]; rfl
    · rw [hany] at gB HNO
      clear hany
      go_wp2_with (first | (go_at_call 70; refine (G0.out _ _ _ (by decide) _ (by repeat (with_reducible (first | exact Kept.refl _ | apply Kept.alloc | refine Kept.setCell ?_ (by simp) _)))).mono ?_; rintro e w' ⟨rfl, rfl⟩) | (go_at_call 71; refine (gB.out _ (by repeat (with_reducible (first | exact Kept.refl _ | apply Kept.alloc | refine Kept.setCell ?_ (by simp) _)))).mono ?_; rintro e w' ⟨rfl, rfl⟩))
      refine bodyPost_ret (results_tag rfl _ _ (w.heap.size + 1) tag0 rfl ?_) rfl ?_
      · exact ((Cells.new (w := w.alloc (.cells (u8s bs).toArray 39)) (t := 74) (fr := (0, 0)) (c := tag0.vals.toArray) (n := w.heap.size + 1) (by simp) rfl).kept ((Kept.refl _).alloc _))
      · refine ⟨?_, kB _ _ _⟩
        unfold TagRes; rw [HNO.out]; rfl
  · have hno : tagOf bs = if (bs.drop (11 + n)).any (fun c => decide (c ≠ 0)) then none else some (tagRaw bs) := by
      have := HC.out hA0 (by simp only [badB, Bool.or_eq_false_iff, Bool.and_eq_false_iff, decide_eq_false_iff_not]; omega)
      rwa [Int.toNat_natCast] at this
    have HNO := Lib.hid hno; clear hno
    clear hA0
    subst h5
    obtain ⟨off, hsl, hcl⟩ := GA.out (by omega)
    have gB := Lib.hid hcl; clear hcl GA
    go_enter Tryd.func59, Tryd.ntmps59
    cases hany : (bs.drop (11 + n)).any fun c => decide (c ≠ 0)
    · rw [hany] at gB HNO
      clear hany
      go_wp2_with (first | (go_at_call 70; refine (G0.out _ _ _ (by decide) _ (by repeat (with_reducible (first | exact Kept.refl _ | apply Kept.alloc | refine Kept.setCell ?_ (by simp) _)))).mono ?_; rintro e w' ⟨rfl, rfl⟩) | (go_at_call 71; refine (gB.out _ (by repeat (with_reducible (first | exact Kept.refl _ | apply Kept.alloc | refine Kept.setCell ?_ (by simp) _)))).mono ?_; rintro e w' ⟨rfl, rfl⟩))
      refine bodyPost_ret (results_tag rfl _ _ (w.heap.size + 1) (tagRaw bs) rfl ?_) rfl ?_
      · rw [HR.out]
        exact ((Cells.new (w := w.alloc (.cells (u8s bs).toArray 39)) (t := 74) (fr := (0, 0)) (c := (Tag.vals _).toArray) (n := w.heap.size + 1) (by simp) rfl).kept ((Kept.refl _).alloc _))
      · refine ⟨?_, kB _ _ _⟩
        unfold TagRes; rw [HNO.out]; rfl
    · rw [hany] at gB HNO
      clear hany
      go_wp2_with (first | (go_at_call 70; refine (G0.out _ _ _ (by decide) _ (by repeat (with_reducible (first | exact Kept.refl _ | apply Kept.alloc | refine Kept.setCell ?_ (by simp) _)))).mono ?_; rintro e w' ⟨rfl, rfl⟩) | (go_at_call 71; refine (gB.out _ (by repeat (with_reducible (first | exact Kept.refl _ | apply Kept.alloc | refine Kept.setCell ?_ (by simp) _)))).mono ?_; rintro e w' ⟨rfl, rfl⟩))
      refine bodyPost_ret (results_tag rfl _ _ (w.heap.size + 1) tag0 rfl ?_) rfl ?_
      · exact ((Cells.new (w := w.alloc (.cells (u8s bs).toArray 39)) (t := 74) (fr := (0, 0)) (c := tag0.vals.toArray) (n := w.heap.size + 1) (by simp) rfl).kept ((Kept.refl _).alloc _))
      · refine ⟨?_, kB _ _ _⟩
        unfold TagRes; rw [HNO.out]; rfl
end Go.Proofs.YtpeclkhppgabfaaDoor
/- Maps with int keys: what a block that is a map reads as, and the operations on it. -/
namespace Go.Proofs.YtpeclkhppgabfaaDoor
open Go.RowKit Go.ChangeMaps Go.MapKept
set_option linter.unusedVariables false
set_option linter.unusedSimpArgs false

def keyIs (n : Int) (e : MapEntry) : Bool := match e.key with | .int .i64 m => n == m | _ => false
/-- the keys are ints, each once -/
structure IntKeys (es : List MapEntry) : Prop where
  int : ∀ e ∈ es, ∃ n, e.key = .int .i64 n
  once : es.Pairwise fun a b => a.key ≠ b.key
def lookE (es : List MapEntry) (n : Int) : Option Value := (es.find? (keyIs n)).map (·.val)
/-- Block b of w is a map with int keys that reads as f, of at most m entries. -/
def IMap (w : World) (b m : Nat) (f : Int → Option Value) : Prop :=
  ∃ es clock, w.heap[b]? = some (.map es clock) ∧ IntKeys es.toList ∧ es.size ≤ m ∧ (∀ n, f n = lookE es.toList n) ∧ MapKept.Stamped es clock

theorem IMap.lt {w : World} {b m : Nat} {f : Int → Option Value} (h : IMap w b m f) : b < w.heap.size := by
  obtain ⟨es, c, hb, _⟩ := h
  exact (Array.getElem?_eq_some_iff.1 hb).1
theorem IMap.same {w w' : World} {b m : Nat} {f : Int → Option Value} (h : IMap w b m f) (hb : w'.heap[b]? = w.heap[b]?) : IMap w' b m f := by
  obtain ⟨es, c, h1, h2⟩ := h
  exact ⟨es, c, hb.trans h1, h2⟩
theorem IMap.kept {w w' : World} {b m : Nat} {f : Int → Option Value} (h : IMap w b m f) (hk : Kept w w') : IMap w' b m f := h.same (hk.block_eq h.lt)
theorem IMap.made (w : World) : IMap (w.alloc (.map #[] 0)) w.heap.size 0 (fun _ => none) :=
  ⟨#[], 0, heap_alloc_new w _, ⟨by simp, by simp⟩, by simp, fun n => by simp [lookE], MapKept.stamped_empty _⟩

theorem keyIs_iff {n : Int} {e : MapEntry} : keyIs n e = true ↔ e.key = .int .i64 n := by
  unfold keyIs
  split
  · rename_i m h; rw [h, beq_iff_eq]; constructor
    · intro e; rw [e]
    · intro e; injection e with _ e; exact e.symm
  · rename_i h
    constructor
    · intro h'; cases h'
    · intro h'; exact absurd h' (h n)
theorem findNow_int (n : Int) : ∀ (es : List MapEntry) (i : Nat), (∀ e ∈ es, ∃ m, e.key = .int .i64 m) →
    Instr.findNow (.int .i64) (.int .i64 n) es i = some ((es.findIdx? (keyIs n)).bind fun j => (es[j]?).map fun e => (i + j, e.val))
  | [], i, _ => rfl
  | e :: es, i, h => by
    obtain ⟨m, hm⟩ := h e (by simp)
    have ih := findNow_int n es (i + 1) (fun x hx => h x (by simp [hx]))
    unfold Instr.findNow
    rw [hm]
    simp only [Instr.sameNow, ↓reduceIte, List.findIdx?_cons, keyIs, hm]
    by_cases hn : (n == m) = true
    · simp [hn]
    · simp only [hn]
      rw [ih]
      cases hf : es.findIdx? (keyIs n) with
      | none => simp
      | some j => simp [Nat.add_comm, Nat.add_left_comm]

section
variable {P : Program} {w : World} {b m : Nat} {f : Int → Option Value} {t k e : TypeId}

theorem run_findKey (hk : P.underlying k = some (.int .i64)) (n : Int) (es : List MapEntry) (hi : IntKeys es) (w : World) :
    (Instr.findKey k (.int .i64 n) es).run P w = .ok ((es.findIdx? (keyIs n)).bind fun j => (es[j]?).map fun e => (j, e.val)) w := by
  have h := findNow_int n es 0 hi.int
  simp only [Nat.zero_add] at h
  simp [Instr.findKey, run_underlying hk, h, Result.andThen]
theorem run_checkKey (hk : P.underlying k = some (.int .i64)) (n : Int) (em : Bool) (w : World) : (Instr.checkKey em 10000 k (.int .i64 n)).run P w = .ok () w := by
  unfold Instr.checkKey
  simp [run_underlying hk, Result.andThen]
theorem find_idx (es : List MapEntry) (n : Int) : ((es.findIdx? (keyIs n)).bind fun j => (es[j]?).map fun e => (j, e.val)) = match es.findIdx? (keyIs n), es.find? (keyIs n) with | some j, some e => some (j, e.val) | _, _ => none := by
  cases hf : es.findIdx? (keyIs n) with
  | none => simp
  | some j =>
    obtain ⟨hj, hp, hb⟩ := List.findIdx?_eq_some_iff_getElem.1 hf
    have : es.find? (keyIs n) = some es[j] := by
      rw [List.find?_eq_some_iff_getElem]
      exact ⟨hp, j, hj, rfl, fun i hi => by simpa using hb i hi⟩
    simp [this, hj]
theorem find_cases (es : List MapEntry) (n : Int) : (es.findIdx? (keyIs n) = none ∧ es.find? (keyIs n) = none ∧ (∀ e ∈ es, keyIs n e = false)) ∨ ∃ j, ∃ hj : j < es.length, es.findIdx? (keyIs n) = some j ∧ es.find? (keyIs n) = some es[j] ∧ keyIs n es[j] = true := by
  cases hf : es.findIdx? (keyIs n) with
  | none =>
    refine .inl ⟨rfl, ?_, ?_⟩
    · rw [List.find?_eq_none]; intro x hx; rw [List.findIdx?_eq_none_iff] at hf; simpa using hf x hx
    · intro e he; rw [List.findIdx?_eq_none_iff] at hf; exact hf e he
  | some j =>
    obtain ⟨hj, hp, hb⟩ := List.findIdx?_eq_some_iff_getElem.1 hf
    refine .inr ⟨j, hj, rfl, ?_, hp⟩
    rw [List.find?_eq_some_iff_getElem]
    exact ⟨hp, j, hj, rfl, fun i hi => by simpa using hb i hi⟩

/-- m[k], m[k] with ok -/
theorem IMap.lookup (h : IMap w b m f) (ht : P.underlying t = some (.map k e)) (hk : P.underlying k = some (.int .i64)) {z : Value} (hz : ∀ w, (zeroValue e).run P w = .ok z w) (n : Int) (ok : Bool) :
    (Instr.lookup t (.map (some b)) (.int .i64 n) ok).run P w = .ok (if ok then .tuple #[(f n).getD z, .bool (f n).isSome] else (f n).getD z) w := by
  obtain ⟨es, c, hb, hi, _, hf, _⟩ := h
  have hfk := run_findKey hk n es.toList hi w
  rw [hf n]
  rcases find_cases es.toList n with ⟨h1, h2, _⟩ | ⟨j, hj, h1, h2, _⟩
  · rw [h1] at hfk
    simp [Instr.lookup, run_underlying ht, MapKept.run_getObj_map hb, run_checkKey hk, hfk, lookE, h2, hz, Result.andThen]
  · rw [h1] at hfk
    rw [Option.bind_some, List.getElem?_eq_getElem hj] at hfk
    simp only [Option.map_some] at hfk
    simp only [Instr.lookup, lookE, h2]
    simp only [Sem.run_bind, run_underlying ht, Result.andThen_ok, MapKept.run_getObj_map hb, run_checkKey hk, hfk, Sem.run_pure, Option.map_some, Option.getD_some, Option.isSome_some]
theorem run_lookup_nil (ht : P.underlying t = some (.map k e)) (hk : P.underlying k = some (.int .i64)) {z : Value} (hz : ∀ w, (zeroValue e).run P w = .ok z w) (n : Int) (ok : Bool) :
    (Instr.lookup t (.map none) (.int .i64 n) ok).run P w = .ok (if ok then .tuple #[z, .bool false] else z) w := by
  have hfk := run_findKey hk n [] ⟨by simp, by simp⟩ w
  simp [Instr.lookup, run_underlying ht, run_checkKey hk, hfk, hz, Result.andThen]

def upd (f : Int → Option Value) (n : Int) (v : Value) : Int → Option Value := fun x => if x = n then some v else f x
def del (f : Int → Option Value) (n : Int) : Int → Option Value := fun x => if x = n then none else f x

theorem IntKeys.push {es : List MapEntry} (h : IntKeys es) (n : Int) (v : Value) (c : Nat) (hn : ∀ e ∈ es, keyIs n e = false) : IntKeys (es ++ [⟨.int .i64 n, v, c⟩]) := by
  refine ⟨fun e he => ?_, ?_⟩
  · rcases List.mem_append.1 he with h' | h'
    · exact h.int e h'
    · simp at h'; subst h'; exact ⟨n, rfl⟩
  · rw [List.pairwise_append]
    refine ⟨h.once, by simp, fun a ha b hb => ?_⟩
    simp at hb; subst hb
    intro hh
    have := hn a ha
    rw [Bool.eq_false_iff] at this
    exact this (keyIs_iff.2 hh)

theorem find_append_new (es : List MapEntry) (n x : Int) (v : Value) (c : Nat) (hn : ∀ e ∈ es, keyIs n e = false) : lookE (es ++ [⟨.int .i64 n, v, c⟩]) x = if x = n then some v else lookE es x := by
  unfold lookE
  rw [List.find?_append]
  by_cases hx : x = n
  · subst hx
    have : es.find? (keyIs x) = none := by rw [List.find?_eq_none]; intro e he; simp [hn e he]
    simp [this, keyIs]
  · have : ([⟨.int .i64 n, v, c⟩] : List MapEntry).find? (keyIs x) = none := by simp [keyIs, hx]
    simp [this, hx]

theorem IntKeys.set {es : List MapEntry} (h : IntKeys es) (j : Nat) (hj : j < es.length) (e' : MapEntry) (he : e'.key = es[j].key) : IntKeys (es.set j e') := by
  refine ⟨fun e hm => ?_, ?_⟩
  · rcases List.mem_or_eq_of_mem_set hm with h' | h'
    · exact h.int e h'
    · subst h'; rw [he]; exact h.int _ (List.getElem_mem hj)
  · have h1 : (es.map (·.key)).Pairwise (· ≠ ·) := by rw [List.pairwise_map]; exact h.once
    have h2 : (es.set j e').map (·.key) = es.map (·.key) := by
      rw [List.map_set, he]
      exact List.ext_getElem (by simp) fun i h1 h2 => by
        simp only [List.getElem_set, List.getElem_map]
        split
        · rename_i hij; subst hij; rfl
        · rfl
    rw [← h2, List.pairwise_map] at h1
    exact h1

theorem key_at {es : List MapEntry} (h : IntKeys es) {i j : Nat} (hi : i < es.length) (hj : j < es.length) (hk : es[i].key = es[j].key) : i = j := by
  have := h.once
  rw [List.pairwise_iff_getElem] at this
  rcases Nat.lt_trichotomy i j with hl | hl | hl
  · exact absurd hk (this i j hi hj hl)
  · exact hl
  · exact absurd hk.symm (this j i hj hi hl)

theorem find_key {es : List MapEntry} (h : IntKeys es) {j : Nat} (hj : j < es.length) {n : Int} (hk : keyIs n es[j] = true) : es.find? (keyIs n) = some es[j] := by
  rw [List.find?_eq_some_iff_getElem]
  refine ⟨hk, j, hj, rfl, fun i hi => ?_⟩
  simp only [Bool.not_eq_true', Bool.eq_false_iff]
  intro hh
  have := key_at h (by omega) hj ((keyIs_iff.1 hh).trans (keyIs_iff.1 hk).symm)
  omega

theorem find_set {es : List MapEntry} (h : IntKeys es) {j : Nat} (hj : j < es.length) {n : Int} (hk : keyIs n es[j] = true) (v : Value) (x : Int) :
    lookE (es.set j ⟨.int .i64 n, v, es[j].born⟩) x = if x = n then some v else lookE es x := by
  have hs := h.set j hj ⟨.int .i64 n, v, es[j].born⟩ (keyIs_iff.1 hk).symm
  unfold lookE
  by_cases hx : x = n
  · subst hx
    have := find_key hs (j := j) (by simpa using hj) (n := x) (by simp [keyIs])
    rw [this]; simp
  · rw [if_neg hx]
    rcases find_cases es x with ⟨_, h2, h3⟩ | ⟨i, hi, _, h2, h4⟩
    · rw [h2, List.find?_eq_none.2]
      · intro e he
        rcases List.mem_or_eq_of_mem_set he with h' | h'
        · simp [h3 e h']
        · subst h'; simp [keyIs, hx]
    · have hij : i ≠ j := by
        intro e; subst e
        have a := keyIs_iff.1 h4; have b := keyIs_iff.1 hk
        rw [a] at b; injection b with _ b; exact hx b
      have h5 : (es.set j ⟨.int .i64 n, v, es[j].born⟩)[i]'(by simpa using hi) = es[i] := by rw [List.getElem_set_ne (Ne.symm hij)]
      rw [h2, find_key hs (j := i) (by simpa using hi) (by rw [h5]; exact h4), h5]

/-- m[k] = v -/
theorem IMap.update (h : IMap w b m f) (ht : P.underlying t = some (.map k e)) (hk : P.underlying k = some (.int .i64)) (n : Int) (v : Value) :
    ∃ w', (Instr.mapUpdate t (.map (some b)) (.int .i64 n) v).run P w = .ok () w' ∧ IMap w' b (m + 1) (upd f n v) ∧ (∃ o, w' = setBlock w b o) := by
  obtain ⟨es, c, hb, hi, hm, hf, hst⟩ := h
  have hfk := run_findKey hk n es.toList hi w
  rcases find_cases es.toList n with ⟨h1, h2, h3⟩ | ⟨j, hj, h1, h2, h4⟩
  · rw [h1] at hfk
    refine ⟨setBlock w b (.map (es.push ⟨.int .i64 n, v, c⟩) (c + 1)), ?_, ⟨es.push ⟨.int .i64 n, v, c⟩, c + 1, heap_setBlock_same hb _, ?_, by simp; omega, fun x => ?_, ?_⟩, _, rfl⟩
    · simp [Instr.mapUpdate, run_underlying ht, MapKept.run_getObj_map hb, run_checkKey hk, hfk, MapKept.run_setObj_map _ hb, Result.andThen, setBlock]
    · rw [Array.toList_push]; exact hi.push n v c h3
    · rw [Array.toList_push, find_append_new _ _ _ _ _ h3]; unfold upd; rw [hf x]
    · refine MapKept.stamped_push hst fun x hx hk => ?_
      have := h3 x hx
      rw [Bool.eq_false_iff] at this
      exact this (keyIs_iff.2 hk)
  · rw [h1] at hfk
    rw [Option.bind_some, List.getElem?_eq_getElem hj] at hfk
    simp only [Option.map_some] at hfk
    have hja : j < es.size := by simpa using hj
    have hkey : es[j].key = .int .i64 n := by have := keyIs_iff.1 h4; simpa using this
    have hks : (Instr.keyThatStays (.int .i64 n) (.int .i64 n)).run P w = .ok (.int .i64 n) w := by
      simp [Instr.keyThatStays, Instr.sameBits]
    have hmod : es.modify j (fun e => { e with key := .int .i64 n, val := v }) = es.setIfInBounds j ⟨.int .i64 n, v, es[j].born⟩ := by
      apply Array.ext
      · simp
      · intro i h1 h2
        rw [Array.getElem_modify, Array.getElem_setIfInBounds (by simpa using h1)]
        split
        · rename_i hij; subst hij; rfl
        · rfl
    refine ⟨setBlock w b (.map (es.setIfInBounds j ⟨.int .i64 n, v, es[j].born⟩) c), ?_, ⟨_, c, heap_setBlock_same hb _, ?_, by simp; omega, fun x => ?_, ?_⟩, _, rfl⟩
    · simp only [Instr.mapUpdate, Sem.run_bind, run_underlying ht, Result.andThen_ok, MapKept.run_getObj_map hb, run_checkKey hk, hfk]
      rw [show ((es[j]?).map (·.key)).getD (.int .i64 n) = .int .i64 n from by simp [hja, hkey]]
      simp only [hks, Result.andThen_ok, hmod, MapKept.run_setObj_map _ hb, setBlock]
    · rw [Array.toList_setIfInBounds]; exact hi.set j hj _ (by simpa using hkey.symm)
    · rw [Array.toList_setIfInBounds]
      have := find_set hi hj h4 v x
      simp only [Array.getElem_toList] at this
      rw [this]; unfold upd; rw [hf x]
    · rw [← hmod]
      refine MapKept.stamped_modify hst _ _ (fun _ _ => rfl) fun e he hj2 => ?_
      rw [Array.getElem?_eq_getElem hja, Option.some.injEq] at hj2
      rw [← hj2]; exact hkey.symm

theorem IntKeys.erase {es : List MapEntry} (h : IntKeys es) (j : Nat) : IntKeys (es.eraseIdx j) :=
  ⟨fun e he => h.int e (List.mem_of_mem_eraseIdx he), h.once.sublist (List.eraseIdx_sublist _ _)⟩
theorem find_erase {es : List MapEntry} (h : IntKeys es) {j : Nat} (hj : j < es.length) {n : Int} (hk : keyIs n es[j] = true) (x : Int) :
    lookE (es.eraseIdx j) x = if x = n then none else lookE es x := by
  unfold lookE
  have hmem : ∀ e ∈ es.eraseIdx j, keyIs n e = false := by
    intro e he
    rw [Bool.eq_false_iff]; intro hh
    obtain ⟨i, hi, he2⟩ := List.getElem_of_mem he
    rw [List.getElem_eraseIdx] at he2
    split at he2
    · have := key_at h (i := i) (j := j) (by omega) hj (by rw [he2]; exact (keyIs_iff.1 hh).trans (keyIs_iff.1 hk).symm)
      omega
    · have hl : i + 1 < es.length := by rw [List.length_eraseIdx] at hi; split at hi <;> omega
      have := key_at h (i := i + 1) (j := j) hl hj (by rw [he2]; exact (keyIs_iff.1 hh).trans (keyIs_iff.1 hk).symm)
      omega
  by_cases hx : x = n
  · subst hx
    rw [if_pos rfl, List.find?_eq_none.2]
    · rfl
    · intro e he; simp [hmem e he]
  · rw [if_neg hx]
    rcases find_cases es x with ⟨_, h2, h3⟩ | ⟨i, hi, _, h2, h4⟩
    · rw [h2, List.find?_eq_none.2]
      intro e he; simp [h3 e (List.mem_of_mem_eraseIdx he)]
    · have hij : i ≠ j := by
        intro e; subst e
        have a := keyIs_iff.1 h4; have b := keyIs_iff.1 hk
        rw [a] at b; injection b with _ b; exact hx b
      have hm : es[i] ∈ es.eraseIdx j := by
        rw [List.mem_eraseIdx_iff_getElem]
        exact ⟨i, hi, hij, rfl⟩
      obtain ⟨i', hi', he'⟩ := List.getElem_of_mem hm
      rw [h2, find_key (h.erase j) (j := i') hi' (by rw [he']; exact h4), he']
/-- delete(m, k) -/
theorem IMap.delete {ty : TypeId} (h : IMap w b m f) (ht : P.underlying t = some (.map k e)) (hk : P.underlying k = some (.int .i64)) (n : Int) :
    ∃ w', (Builtin.delete_ #[t, k] ty #[.map (some b), .int .i64 n]).run P w = .ok (.tuple #[]) w' ∧ IMap w' b m (del f n) ∧ (∃ o, w' = setBlock w b o) := by
  obtain ⟨es, c, hb, hi, hm, hf, hst⟩ := h
  have hfk := run_findKey hk n es.toList hi w
  rcases find_cases es.toList n with ⟨h1, h2, h3⟩ | ⟨j, hj, h1, h2, h4⟩
  · rw [h1] at hfk
    refine ⟨setBlock w b (.map es c), ?_, ⟨es, c, heap_setBlock_same hb _, hi, hm, fun x => ?_, hst⟩, _, rfl⟩
    · simp [Builtin.delete_, run_underlying ht, MapKept.run_getObj_map hb, run_checkKey hk, hfk, MapKept.run_setObj_map _ hb, Result.andThen, setBlock]
    · unfold del
      split
      · rename_i hx; subst hx; simp [lookE, h2]
      · exact hf x
  · rw [h1] at hfk
    rw [Option.bind_some, List.getElem?_eq_getElem hj] at hfk
    simp only [Option.map_some] at hfk
    have hja : j < es.size := by simpa using hj
    have hl : (es.eraseIdxIfInBounds j).toList = es.toList.eraseIdx j := by simp
    refine ⟨setBlock w b (.map (es.eraseIdxIfInBounds j) c), ?_, ⟨_, c, heap_setBlock_same hb _, by rw [hl]; exact hi.erase j, ?_, fun x => ?_, MapKept.stamped_erase hst j⟩, _, rfl⟩
    · simp only [Builtin.delete_, Sem.run_bind, run_underlying ht, Result.andThen_ok, MapKept.run_getObj_map hb, run_checkKey hk, hfk, Sem.run_pure, MapKept.run_setObj_map _ hb, setBlock, List.getElem?_toArray, List.getElem?_cons_zero, List.getElem?_cons_succ]
    · rw [← Array.length_toList, hl, List.length_eraseIdx, Array.length_toList]; split <;> omega
    · rw [hl, find_erase hi hj h4]; unfold del; rw [hf x]
end

end Go.Proofs.YtpeclkhppgabfaaDoor
/- What a call leaves as it was: all but the blocks that S names. Places where the walk stops. Rules for maps with int keys. -/
namespace Go.Proofs.YtpeclkhppgabfaaDoor
open Go.RowKit Go.ChangeMaps Go.MapKept
set_option linter.unusedVariables false
set_option linter.unusedSimpArgs false

structure Stop (p : Prop) : Prop where
  out : p
theorem stop_at {P : Program} {ops : Array Oper} {Q : Exit → Act → World → Prop} {rest : List Oper} {o : Oper} {a : Act} {w : World} (h : Stop (wpList P ops Q (o :: rest) a w)) : wpList P ops Q (o :: rest) a w := h.out

/-- Nothing but what S names, and what is new, has turned. -/
structure But (S : Nat → Prop) (w w' : World) : Prop where
  os : w'.os = w.os
  tape : w'.tape = w.tape
  output : w'.output = w.output
  size : w.heap.size ≤ w'.heap.size
  block : ∀ k, k < w.heap.size → ¬ S k → w'.heap[k]? = w.heap[k]?

theorem But.refl (S : Nat → Prop) (w : World) : But S w w := ⟨rfl, rfl, rfl, Nat.le_refl _, fun _ _ _ => rfl⟩
theorem But.trans' {S S' : Nat → Prop} {a b c : World} (h : But S a b) (k : But S' b c) (hs : ∀ i, S' i → S i ∨ a.heap.size ≤ i) : But S a c :=
  ⟨k.os.trans h.os, k.tape.trans h.tape, k.output.trans h.output, Nat.le_trans h.size k.size, fun i hi hn =>
    (k.block i (Nat.lt_of_lt_of_le hi h.size) (fun h' => by rcases hs i h' with h'' | h''; exact hn h''; omega)).trans (h.block i hi hn)⟩
theorem But.trans {S : Nat → Prop} {a b c : World} (h : But S a b) (k : But S b c) : But S a c := h.trans' k fun _ h => .inl h
theorem But.mono {S S' : Nat → Prop} {a b : World} (h : But S a b) (hs : ∀ i, S i → S' i) : But S' a b := ⟨h.os, h.tape, h.output, h.size, fun i hi hn => h.block i hi (fun h' => hn (hs i h'))⟩
theorem But.kept {S : Nat → Prop} {a b : World} (h : Kept a b) : But S a b := ⟨h.os, h.tape, h.output, h.size, fun i hi _ => Below.block h i hi⟩
theorem But.keep {S : Nat → Prop} {a b c : World} (h : But S a b) (k : Kept b c) : But S a c := h.trans (But.kept k)
theorem But.below {S : Nat → Prop} {base : Nat} {a b : World} (h : But S a b) (hs : ∀ i, S i → base ≤ i) (hb : base ≤ a.heap.size) : Below base a b :=
  ⟨h.os, h.tape, h.output, h.size, fun i hi => h.block i (by omega) (fun h' => by have := hs i h'; omega)⟩
theorem But.to_kept {S : Nat → Prop} {w a b : World} (hk : Kept w a) (h : But S a b) (hs : ∀ i, S i → w.heap.size ≤ i) : Kept w b := Below.trans hk (h.below hs hk.size)
theorem But.alloc {S : Nat → Prop} {a b : World} (h : But S a b) (o : Obj) : But S a (b.alloc o) := h.keep ((Kept.refl _).alloc o)
theorem But.drew {S : Nat → Prop} {a b : World} (h : But S a b) : But S a b.drew := h.keep (Kept.refl _).drew
theorem But.drewN {S : Nat → Prop} {a b : World} (h : But S a b) (n : Nat) : But S a (b.drewN n) := h.keep ((Kept.refl _).drewN n)
theorem setBlock_oth (w : World) (k i : Nat) (o : Obj) (h : i ≠ k) : (setBlock w k o).heap[i]? = w.heap[i]? := by
  simp [setBlock, Array.getElem?_setIfInBounds, Ne.symm h]
theorem But.setBlock {S : Nat → Prop} {a b : World} (h : But S a b) {k : Nat} (o : Obj) (hk : S k ∨ a.heap.size ≤ k) : But S a (setBlock b k o) := by
  refine ⟨h.os, h.tape, h.output, by simpa [ChangeMaps.setBlock] using h.size, fun i hi hn => ?_⟩
  have hne : i ≠ k := by
    intro e; subst e; rcases hk with hk | hk
    · exact hn hk
    · omega
  rw [setBlock_oth _ _ _ _ hne]
  exact h.block i hi hn
theorem But.setCell {S : Nat → Prop} {a b : World} (h : But S a b) {p : Addr} (u : Value) (hk : S p.block ∨ a.heap.size ≤ p.block) : But S a (b.setCell p u) := by
  refine ⟨h.os, h.tape, h.output, by simpa [World.setCell] using h.size, fun i hi hn => ?_⟩
  have hne : p.block ≠ i := by
    intro e; subst e; rcases hk with hk | hk
    · exact hn hk
    · omega
  rw [heap_setCell_other _ _ _ _ (Ne.symm hne)]
  exact h.block i hi hn
theorem But.grown {S : Nat → Prop} {a b c : World} {row : Option Nat} (h : But S a b) (hg : b.grownBy c row) (hr : ∀ k, row = some k → S k ∨ a.heap.size ≤ k) : But S a c :=
  h.trans' (S' := fun k => row = some k) ⟨hg.os, hg.tape, hg.output, hg.size, fun k hk hn => hg.block k hk (fun e => hn e.symm)⟩ fun i hi => hr i hi
theorem But.cell {S : Nat → Prop} {a b : World} (h : But S a b) {p : Addr} {v : Value} (hn : ¬ S p.block) (hc : a.cell? p = some v) : b.cell? p = some v :=
  (World.cell?_of_block (h.block _ (World.block_lt_of_cell? _ _ hc) hn)).trans hc
theorem But.blk {S : Nat → Prop} {a b : World} (h : But S a b) {k : Nat} {o : Obj} (hn : ¬ S k) (hc : a.heap[k]? = some o) : b.heap[k]? = some o :=
  (h.block k (Array.getElem?_eq_some_iff.1 hc).1 hn).trans hc
theorem But.imap {S : Nat → Prop} {a b : World} (h : But S a b) {k m : Nat} {f : Int → Option Value} (hn : ¬ S k) (hi : IMap a k m f) : IMap b k m f := hi.same (h.block k hi.lt hn)

section
variable {P : Program} {ops : Array Oper} {rest : List Oper} {o : Oper} {a : Act} {w : World} {Q : Exit → Act → World → Prop} {t k e : TypeId} {z : Value} {b c : Nat} {f : Int → Option Value}

theorem exec_lookup (m x : Operand) (ok : Bool) (ho : o.op = .lookup t m x ok) (ht : P.underlying t = some (.map k e)) (hk : P.underlying k = some (.int .i64)) (hz : ∀ w, (zeroValue e).run P w = .ok z w)
    (hm : a.eval m = .map (some b)) (n : Int) (hx : a.eval x = .int .i64 n) (h : IMap w b c f) :
    (execOp a.eval o).run P w = .ok (.value (if ok then .tuple #[(f n).getD z, .bool (f n).isSome] else (f n).getD z)) w := by
  have hr := h.lookup ht hk hz n ok
  unfold execOp
  simp only [ho, Sem.run_bind, hm, hx, hr, Result.andThen_ok, Sem.run_pure]
theorem wpList_lookup_im (hgd : Region.wanted o (yielded ops a.tmps) = true) (m x : Operand) (ok : Bool) (ho : o.op = .lookup t m x ok) (ht : P.underlying t = some (.map k e)) (hk : P.underlying k = some (.int .i64)) (hz : ∀ w, (zeroValue e).run P w = .ok z w)
    (hm : a.eval m = .map (some b)) (n : Int) (hx : a.eval x = .int .i64 n) (hi : IMap w b c f) (v : Value) (hv : (if ok then .tuple #[(f n).getD z, .bool (f n).isSome] else (f n).getD z) = v)
    (h : wpList P ops Q rest (a.put o.dst v) w) : wpList P ops Q (o :: rest) a w := by
  refine BigFrame.wpList_want hgd fun K hK => ?_
  have hr := exec_lookup m x ok ho ht hk hz hm n hx hi
  unfold Oper.wp
  rw [hr, hv]
  exact hK _ _ h
theorem wpList_update_im (hgd : Region.wanted o (yielded ops a.tmps) = true) (m x y : Operand) (ho : o.op = .mapUpdate t m x y) (ht : P.underlying t = some (.map k e)) (hk : P.underlying k = some (.int .i64))
    (hm : a.eval m = .map (some b)) (n : Int) (hx : a.eval x = .int .i64 n) (v : Value) (hy : a.eval y = v) (hi : IMap w b c f)
    (h : ∀ o', IMap (setBlock w b o') b (c + 1) (upd f n v) → wpList P ops Q rest (a.put o.dst undef) (setBlock w b o')) : wpList P ops Q (o :: rest) a w := by
  refine BigFrame.wpList_want hgd fun K hK => ?_
  obtain ⟨w', hr, hi', o', rfl⟩ := hi.update (t := t) (e := e) ht hk n v
  unfold Oper.wp execOp
  simp only [ho, Sem.run_bind, hm, hx, hy, hr, Result.andThen_ok, Sem.run_pure]
  exact hK _ _ (h o' hi')
theorem wp_update_im {K : Act → World → Prop} (m x y : Operand) (ho : o.op = .mapUpdate t m x y) (ht : P.underlying t = some (.map k e)) (hk : P.underlying k = some (.int .i64))
    (hm : a.eval m = .map (some b)) (n : Int) (hx : a.eval x = .int .i64 n) (v : Value) (hy : a.eval y = v) (hi : IMap w b c f)
    (h : ∀ o', IMap (setBlock w b o') b (c + 1) (upd f n v) → K (a.put o.dst undef) (setBlock w b o')) : o.wp P a w K Q := by
  obtain ⟨w', hr, hi', o', rfl⟩ := hi.update (t := t) (e := e) ht hk n v
  unfold Oper.wp execOp
  simp only [ho, Sem.run_bind, hm, hx, hy, hr, Result.andThen_ok, Sem.run_pure]
  exact h o' hi'
theorem wpList_delete_im (hgd : Region.wanted o (yielded ops a.tmps) = true) (m x : Operand) (ho : o.op = .call { callee := .builtin .delete, args := #[m, x], argTypes := #[t, k] }) (ht : P.underlying t = some (.map k e)) (hk : P.underlying k = some (.int .i64))
    (hm : a.eval m = .map (some b)) (n : Int) (hx : a.eval x = .int .i64 n) (hi : IMap w b c f)
    (h : ∀ o', IMap (setBlock w b o') b c (del f n) → wpList P ops Q rest (a.put o.dst (.tuple #[])) (setBlock w b o')) : wpList P ops Q (o :: rest) a w := by
  refine BigFrame.wpList_want hgd fun K hK => ?_
  obtain ⟨w', hr, hi', o', rfl⟩ := hi.delete (t := t) (e := e) (ty := o.type) ht hk n
  unfold Oper.wp execOp
  simp only [ho, resolve, invoke, builtin, Sem.run_bind, Sem.run_pure, Result.andThen_ok, List.map_toArray, List.map_cons, List.map_nil, hm, hx, hr]
  exact hK _ _ (h o' hi')
end

theorem zero_slice (w : World) : (zeroValue 28).run Tryd.prog w = .ok (.slice none 0 0) w := by kernel_rfl
def ints (l : List Int) : List Value := l.map (.int .i64)
theorem ints_length (l : List Int) : (ints l).length = l.length := by simp [ints]
end Go.Proofs.YtpeclkhppgabfaaDoor
/- Rules at the operation: one cell that is set, a value that is read; reads ahead of one store. -/
namespace Go.Proofs.YtpeclkhppgabfaaDoor
open Go.RowKit Go.ChangeMaps Go.MapKept
set_option linter.unusedVariables false
set_option linter.unusedSimpArgs false

section
variable {P : Program} {ops : Array Oper} {rest : List Oper} {o : Oper} {a : Act} {Q : Exit → Act → World → Prop} {w : World}
/-- One cell is set; the world a letter. -/
theorem wpList_set_cell (hgd : Region.wanted o (yielded ops a.tmps) = true) {T : Nat} (x y : Operand) (ho : o.op = .store T x y) (hT : (P.info? T).map (·.size) = some 1)
    (b off : Nat) (hx : a.eval x = .pointer (some ⟨b, off, none⟩)) (v : Value) (hy : a.eval y = v) (hv : v.cells = #[v]) (h1 : v.oneCell' = true)
    (cur : List Value) (t : TypeId) (hb : w.heap[b]? = some (.cells cur.toArray t (0, 0))) (hfit : off < cur.length)
    (h : ∀ w1, Wrote w w1 b (cur.set off v) t → wpList P ops Q rest (a.put o.dst undef) w1) : wpList P ops Q (o :: rest) a w := by
  refine BigFrame.wpList_want hgd fun K hK => ?_
  have hst := run_storeCells_at P b off t [v] 0 cur.toArray w hb (by simp; omega) (by simpa using h1)
  cases hq : P.info? T with
  | none => simp [hq] at hT
  | some i =>
    have hi : i.size = 1 := by simpa [hq] using hT
    unfold Oper.wp execOp
    simp only [ho, hx, hy, Instr.storeAt, Instr.sureAddr, Sem.run_bind, Sem.run_pure, Result.andThen_ok, storeVar, sizeOf, typeInfo, run_program, hq, hv, hi, List.size_toArray, List.length_cons, List.length_nil, Nat.zero_add, ne_eq, not_true_eq_false, if_false, show (#[v] : Array Value).size = 1 from rfl, show (#[v] : Array Value) = [v].toArray from rfl, hst]
    refine hK _ _ (h _ ⟨?_, ?_, ?_, rfl, rfl, rfl⟩)
    · rw [setRow_heap w b _ _ t _ hb]
      simp [List.set_eq_take_append_cons_drop, hfit]
    · intro k hk; exact setRow_other w b k _ hk
    · simp
theorem wpStill_val {K : Act → Prop} {v : Value} (hw : Region.wanted o (yielded ops a.tmps) = true) (hr : (execOp a.eval o).run P w = .ok (.value v) w) (h : wpStill P ops w K rest (a.put o.dst v)) : wpStill P ops w K (o :: rest) a := by
  unfold wpStill
  rw [if_pos hw]
  unfold Oper.still
  rw [hr]
  exact ⟨rfl, h⟩
/-- Reads first, in whatever order; then the rest in its one order: the world a letter. -/
theorem wp_still_tail {id : Nat} {l : List Oper} (n : Nat) (hm : P.follows .mixedOrders = true) (hB : Region.lexTailB .any l.toArray n = true)
    (h : ∀ w1, Kept w w1 → w1.heap = w.heap → wpStill P l.toArray w1 (fun a' => wpList P l.toArray Q (l.drop n) a' w1) (l.take n) a) : (Code.region id l.toArray true).wp P Q a w :=
  wp_region_still_tail n hm hB (h w.drew (Kept.refl w).drew rfl)
theorem But.wrote {S : Nat → Prop} {w1 : World} {g : Nat} {cs : List Value} {t : TypeId} (h : Wrote w w1 g cs t) (hs : S g) : But S w w1 :=
  ⟨h.os, h.tape, h.output, by rw [h.size]; exact Nat.le_refl _, fun k hk hn => h.oth k (fun e => hn (e ▸ hs))⟩
end

theorem size_int : (Tryd.prog.info? 3).map (·.size) = some 1 := by kernel_rfl
end Go.Proofs.YtpeclkhppgabfaaDoor
