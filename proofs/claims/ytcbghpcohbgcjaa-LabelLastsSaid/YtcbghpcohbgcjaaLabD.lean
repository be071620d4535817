/- label.Of. -/
import Derived.Test.YtcbghpcohbgcjaaLabC
import Derived.Test.YtcbghpcohbgcjaaText
import Derived.Deep.RegionLaw
import Derived.Deep.RegionHeld3
import Derived.Deep.DrawnRows
namespace Go.Proofs.Ytcbghpcohbgcjaa
open Go.RowKit
set_option linter.unusedVariables false
set_option linter.unusedSimpArgs false

def getB (bs : List Int) (at_ width : Nat) : Int := beVal ((bs.drop at_).take width)
theorem u8s_drop (l : List Int) (k : Nat) : u8s (l.drop k) = (u8s l).drop k := by simp [u8s]
theorem Cells.drop {w : World} {b off : Nat} {xs : List Value} (h : Cells w b off xs) (k : Nat) : Cells w b (off + k) (xs.drop k) := by
  intro j hj
  have := h (k + j) (by rw [List.length_drop] at hj; omega)
  rw [List.getElem_drop, ← this]
  congr 2; omega

set_option maxHeartbeats 400000 in
set_option maxRecDepth 100000 in
theorem label_OfF (bs : List Int) (a n : Nat) (b : Nat) (w : World) (hb : ∀ x ∈ bs, IsByte x) (hl : bs.length = 64) (hc : Cells w b 0 (u8s bs)) (h1 : 1 ≤ n) (h6 : n ≤ 6) (han : a + n ≤ 64) :
    Calls Try.prog 99 #[.int .i64 a, .int .i64 n, .pointer (some ⟨b, 0, none⟩)] w fun e w' => e = .returned (.int .i64 (getB bs a n)) ∧ w = w' := by
  have HC := Lib.hid hc; clear hc
  have HL := Lib.hid hl; clear hl
  have HB := Lib.hid hb; clear hb
  have hsl := fun w => run_sliceAt_from (P := Try.prog) w 36 5 64 (by kernel_rfl) (by kernel_rfl) b 0 a (by omega)
  simp only [Nat.zero_add] at hsl
  go_enter Try.func99, Try.ntmps99
  go_wp2_with (go_at_call 100; refine (pack_Get b a (64 - a) (64 - a) (bs.drop a) n _ (fun x hx => HB.out x (List.mem_of_mem_drop hx)) (by rw [u8s_drop]; simpa using HC.out.drop a) (by rw [List.length_drop, HL.out]) (Nat.le_refl _) (by omega) (by omega) (by omega) (by omega)).mono ?_; rintro e w' ⟨rfl, rfl⟩)
  go_ret
  exact ⟨rfl, rfl⟩

theorem label_OfI (bs : List Int) (a n : Int) (b : Nat) (w : World) (hb : ∀ x ∈ bs, IsByte x) (hl : bs.length = 64) (hc : Cells w b 0 (u8s bs)) (h0 : 0 ≤ a) (h1 : 1 ≤ n) (h6 : n ≤ 6) (han : a + n ≤ 64) :
    Calls Try.prog 99 #[.int .i64 a, .int .i64 n, .pointer (some ⟨b, 0, none⟩)] w fun e w' => e = .returned (.int .i64 (getB bs a.toNat n.toNat)) ∧ w = w' := by
  obtain ⟨A, rfl⟩ := Int.eq_ofNat_of_zero_le h0
  obtain ⟨N, rfl⟩ := Int.eq_ofNat_of_zero_le (show 0 ≤ n by omega)
  exact label_OfF bs A N b w hb hl hc (by omega) (by omega) (by omega)

def memAt (bs : List Int) (i : Nat) : Mem := ⟨getB bs (14 + 4 * i) 1, getB bs (15 + 4 * i) 2, getB bs (17 + 4 * i) 1⟩
def parseMs (bs : List Int) (n : Nat) : List Mem := (List.range n).map (memAt bs)
def parse (bs : List Int) : Lab := ⟨getB bs 2 4, getB bs 6 4, getB bs 10 1, getB bs 11 2, parseMs bs (bs.getD 13 0).toNat⟩
def ofHead (bs : List Int) : Bool := (bs.take 2 == [66, 87]) && decide (bs.getD 13 0 ≤ 12)
def ofOk (bs : List Int) : Bool := ofHead bs && (rightB (parse bs) && ((parse bs).sec == bs))
def Lab.zero : Lab := ⟨0, 0, 0, 0, []⟩
/-- What Of tells. -/
def OfRes (bs : List Int) (w : World) (e : Ending) (w' : World) : Prop :=
  Kept w w' ∧ ((ofOk bs = true ∧ ∃ sl, e = .returned (.tuple #[(parse bs).val sl, .int .i64 0]) ∧ MSl w' sl (parse bs).ms) ∨ (ofOk bs = false ∧ e = .returned (.tuple #[Lab.zero.val (.slice none 0 0), .int .i64 2])))
/-- the same, and the label's members lie in a block that is new -/
def OfOwn (bs : List Int) (w : World) (e : Ending) (w' : World) : Prop :=
  Kept w w' ∧ ((ofOk bs = true ∧ ∃ sl, e = .returned (.tuple #[(parse bs).val sl, .int .i64 0]) ∧ MSl w' sl (parse bs).ms ∧ ∀ b, sl.ownBlock = some b → w.heap.size ≤ b) ∨ (ofOk bs = false ∧ e = .returned (.tuple #[Lab.zero.val (.slice none 0 0), .int .i64 2])))
theorem OfOwn.res {bs : List Int} {w : World} {e : Ending} {w' : World} (h : OfOwn bs w e w') : OfRes bs w e w' := ⟨h.1, h.2.imp (fun ⟨h1, sl, h2, h3, _⟩ => ⟨h1, sl, h2, h3⟩) id⟩
theorem parseMs_next (bs : List Int) (k : Nat) : parseMs bs (k + 1) = parseMs bs k ++ [memAt bs k] := by simp [parseMs, List.range_succ]
theorem parseMs_length (bs : List Int) (n : Nat) : (parseMs bs n).length = n := by simp [parseMs]
/-- a label's variable read back -/
theorem results_lab {fn : Func} {p q : Tmp} (h : fn.results = #[.cell p 71, .tmp q]) (tmps : Array Value) (w : World) (b : Nat) (l : Lab) (sl : Value)
    (hp : tmps.getD p undef = .pointer (some ⟨b, 0, none⟩)) (hc : Cells w b 0 [.int .i64 l.array, .int .i64 l.gen, .int .i64 l.member, .int .i64 l.blocks, sl]) :
    (results fn tmps).run Try.prog w = .ok (.tuple #[l.val sl, tmps.getD q undef]) w := by
  have hp' : tmps[p]?.getD undef = .pointer (some ⟨b, 0, none⟩) := by simpa using hp
  have hd : ∃ d, Try.prog.underlying 71 = some d ∧ d.isRow = true := ⟨_, Try.underlying71, rfl⟩
  obtain ⟨d, hd1, hd2⟩ := hd
  have hr := run_loadVar_mid (P := Try.prog) w b 0 71 _ d (rangeAt_of_cells hc) hd1 hd2 (by kernel_rfl)
  simp [results, h, hp', asAddr, hr, Lab.val]

theorem conv2 (W : World) (b c : Nat) (x0 x1 : Int) (h0 : W.cell? ⟨b, 0, none⟩ = some (.int .u8 x0)) (h1 : W.cell? ⟨b, 1, none⟩ = some (.int .u8 x1)) :
    (convert 120 9 (.slice (some ⟨b, 0, none⟩) 2 c)).run Try.prog W = .ok (.string ⟨#[UInt8.ofNat x0.toNat, UInt8.ofNat x1.toNat]⟩) W := by
  rw [run_convert_bytes_string (P := Try.prog) W 120 9 5 (some ⟨b, 0, none⟩) 2 c Try.underlying120 Try.underlying5 Try.underlying9]
  rw [run_bytesToString W ⟨b, 0, none⟩ 2 c [x0, x1]]
  · rfl
  · refine run_loadCells_list (P := Try.prog) W ⟨b, 0, none⟩ [.int .u8 x0, .int .u8 x1] fun j v hv => ?_
    match j, hv with
    | 0, hv => simp at hv; subst hv; exact h0
    | 1, hv => simp at hv; subst hv; exact h1
    | _ + 2, hv => simp at hv

theorem byte_getD {bs : List Int} (hb : ∀ x ∈ bs, IsByte x) (k : Nat) (hk : k < bs.length) : ∃ x, bs.getD k 0 = x ∧ 0 ≤ x ∧ x ≤ 255 ∧ (u8s bs)[k]? = some (.int .u8 x) := by
  have h := hb (bs[k]'hk) (List.getElem_mem hk)
  have e : bs.getD k 0 = bs[k]'hk := by rw [List.getD_eq_getElem?_getD, List.getElem?_eq_getElem hk]; rfl
  exact ⟨_, rfl, by rw [e]; exact h.1, by rw [e]; exact h.2, getD_u8s bs k hk⟩
theorem take2 (bs : List Int) (h : 2 ≤ bs.length) : bs.take 2 = [bs.getD 0 0, bs.getD 1 0] := by
  match bs, h with
  | a :: b :: l, _ => simp
theorem ofNat_byte {x : Int} (h0 : 0 ≤ x) (h1 : x ≤ 255) (k : Nat) (hk : k ≤ 255) : UInt8.ofNat x.toNat = UInt8.ofNat k ↔ x = k := by
  rw [← UInt8.toNat_inj, UInt8.toNat_ofNat', UInt8.toNat_ofNat']
  omega

set_option maxHeartbeats 1000000 in
set_option maxRecDepth 100000 in
theorem label_Of_no (bs : List Int) (w : World) (hb : ∀ x ∈ bs, IsByte x) (hl : bs.length = 64) (hh : ofHead bs = false) :
    Calls Try.prog 77 #[secV bs] w (OfOwn bs w) := by
  have hB : ∀ o, Kept w (w.alloc o) := fun o => (Kept.refl _).alloc o
  have hno : ofOk bs = false := by simp [ofOk, hh]
  have HNO := Lib.hid hno; clear hno
  simp only [secV]
  obtain ⟨x13, e13, b13a, b13b, h13⟩ := byte_getD hb 13 (by omega)
  obtain ⟨x0, e0, b0a, b0b, h0⟩ := byte_getD hb 0 (by omega)
  obtain ⟨x1, e1, b1a, b1b, h1⟩ := byte_getD hb 1 (by omega)
  have hhd : (x0 == 66 && x1 == 87 && decide (x13 ≤ 12)) = false := by
    rw [← hh, ofHead, take2 bs (by omega), e13, e0, e1]; simp [Bool.beq_eq_decide_eq]
  have hcv := fun W => conv2 W w.heap.size 64 x0 x1
  have hkB : ∀ o1 o2, Kept w ((w.alloc o1).alloc o2) := fun o1 o2 => ((Kept.refl _).alloc o1).alloc o2
  clear hb hl hh e13 e0 e1
  by_cases hx : x0 = 66 ∧ x1 = 87
  · obtain ⟨rfl, rfl⟩ := hx
    have h12 : 12 < x13 := by simpa using hhd
    clear hhd
    go_enter Try.func77, Try.ntmps77
    go_wp2_with (fail)
    refine bodyPost_ret (results_lab rfl _ _ (w.heap.size + 1) Lab.zero (.slice none 0 0) rfl ?_) rfl ?_
    · exact Cells.new (by simp) rfl
    · exact ⟨hkB _ _, .inr ⟨HNO.out, rfl⟩⟩
  · have hneg : ¬ (UInt8.ofNat x0.toNat = 66 ∧ UInt8.ofNat x1.toNat = 87) := by
      have e0 := ofNat_byte b0a b0b 66 (by decide)
      have e1 := ofNat_byte b1a b1b 87 (by decide)
      intro h; exact hx ⟨e0.1 h.1, e1.1 h.2⟩
    have hneg : (!UInt8.ofNat x0.toNat == 66 || !UInt8.ofNat x1.toNat == 87) = true := by
      rw [Bool.or_eq_true]; simp only [Bool.not_eq_true', beq_eq_false_iff_ne]
      by_cases h : UInt8.ofNat x0.toNat = 66
      · exact .inr fun h' => hneg ⟨h, h'⟩
      · exact .inl h
    clear hhd hx
    go_enter Try.func77, Try.ntmps77
    go_wp2_with (fail)
    refine bodyPost_ret (results_lab rfl _ _ (w.heap.size + 1) Lab.zero (.slice none 0 0) rfl ?_) rfl ?_
    · exact Cells.new (by simp) rfl
    · exact ⟨hkB _ _, .inr ⟨HNO.out, rfl⟩⟩

theorem ty_mems : ElemT Try.prog 69 122 3 24 := by
  obtain ⟨i, h1, h2, h3, h4⟩ := info_parts (P := Try.prog) (e := 122) (z := .agg #[.int .i64 0, .int .i64 0, .int .i64 0]) (size := 3) (bytes := 24) (by kernel_rfl)
  exact ⟨by kernel_rfl, ⟨i, _, h1, h2, h3, h4, by rfl⟩, by decide⟩
def mvals (ms : List Mem) : List Value := ms.flatMap Mem.vals
theorem mvals_length (ms : List Mem) : (mvals ms).length = ms.length * 3 := by
  induction ms with
  | nil => rfl
  | cons m ms ih =>
    have e : mvals (m :: ms) = m.vals ++ mvals ms := rfl
    have e2 : m.vals.length = 3 := rfl
    rw [e, List.length_append, ih, e2, List.length_cons]; omega
theorem mvals_append (a b : List Mem) : mvals (a ++ b) = mvals a ++ mvals b := by simp [mvals]
theorem mvals_one (ms : List Mem) : ∀ u ∈ mvals ms, u.oneCell' = true := by
  intro u hu
  simp only [mvals, List.mem_flatMap, Mem.vals] at hu
  obtain ⟨m, _, h⟩ := hu
  simp at h
  rcases h with rfl | rfl | rfl <;> rfl
theorem MRow.of_cells {w : World} {b off : Nat} {ms : List Mem} (h : Cells w b off (mvals ms)) : MRow w b off ms := fun i hi =>
  ⟨h.flat 3 (fun _ _ => rfl) i 0 hi _ rfl, h.flat 3 (fun _ _ => rfl) i 1 hi _ rfl, h.flat 3 (fun _ _ => rfl) i 2 hi _ rfl⟩
theorem MSl.of_owns {w : World} {base e : Nat} {v : Value} {ms : List Mem} (h : w.ownsRow base e 3 v ms.length (mvals ms)) : MSl w v ms := by
  rcases owns_form h with ⟨rfl, h0, _⟩ | ⟨g, cap, rfl, _, _, _, hc⟩
  · exact .inl ⟨List.eq_nil_of_length_eq_zero h0, rfl⟩
  · exact .inr ⟨g, 0, cap, rfl, MRow.of_cells hc⟩

theorem ownsRow_wrote {w w1 : World} {g : Nat} {cs : List Value} {t : TypeId} (h : Wrote w w1 g cs t) {base e size n : Nat} {v : Value} {xs : List Value} (ho : w.ownsRow base e size v n xs) (hg : g < base) : w1.ownsRow base e size v n xs := by
  refine ⟨ho.1, ?_⟩
  rcases ho.2 with h2 | ⟨g', cap, cur, hv, hb, hh, r⟩
  · exact .inl h2
  · exact .inr ⟨g', cap, cur, hv, hb, by rw [h.oth g' (by omega)]; exact hh, r⟩

theorem ownsRow_wrote_up {w w1 : World} {g : Nat} {cs : List Value} {t : TypeId} (h : Wrote w w1 g cs t) {base e size n : Nat} {v : Value} {xs : List Value} (ho : w.ownsRow base e size v n xs)
    (hg : ∀ g' cap, v = .slice (some ⟨g', 0, none⟩) n cap → g' ≠ g) : w1.ownsRow base e size v n xs := by
  refine ⟨ho.1, ?_⟩
  rcases ho.2 with h2 | ⟨g', cap, cur, hv, hb, hh, r⟩
  · exact .inl h2
  · exact .inr ⟨g', cap, cur, hv, hb, by rw [h.oth g' (hg g' cap hv)]; exact hh, r⟩

theorem ty_lab : AggT Try.prog 71 5 := ⟨⟨_, Try.underlying71, rfl⟩, by kernel_rfl⟩
theorem lab_one (l : Lab) (sl : Value) (h : sl.oneCell' = true) : ∀ v ∈ [Value.int .i64 l.array, .int .i64 l.gen, .int .i64 l.member, .int .i64 l.blocks, sl], v.oneCell' = true := by
  intro v hv
  simp only [List.mem_cons, List.not_mem_nil, or_false] at hv
  rcases hv with rfl | rfl | rfl | rfl | rfl <;> first | rfl | exact h
theorem MSl.one {w : World} {v : Value} {ms : List Mem} (h : MSl w v ms) : v.oneCell' = true := by
  rcases h with ⟨_, rfl⟩ | ⟨b, off, cap, rfl, _⟩ <;> rfl

attribute [local go_sem ↓] Go.wp_at_zero Go.wp_at_succ
set_option maxHeartbeats 2000000 in
set_option maxRecDepth 100000 in
theorem label_Of_head (bs : List Int) (w : World) (hb : ∀ x ∈ bs, IsByte x) (hl : bs.length = 64) (hh : ofHead bs = true) :
    Calls Try.prog 77 #[secV bs] w (OfOwn bs w) := by
  simp only [secV]
  obtain ⟨x13, e13, b13a, b13b, h13⟩ := byte_getD hb 13 (by omega)
  obtain ⟨x0, e0, b0a, b0b, h0⟩ := byte_getD hb 0 (by omega)
  obtain ⟨x1, e1, b1a, b1b, h1⟩ := byte_getD hb 1 (by omega)
  have hhd : (x0 == 66 && x1 == 87 && decide (x13 ≤ 12)) = true := by
    rw [← hh, ofHead, take2 bs (by omega), e13, e0, e1]; simp [Bool.beq_eq_decide_eq]
  simp only [Bool.and_eq_true, beq_iff_eq, decide_eq_true_eq] at hhd
  obtain ⟨⟨rfl, rfl⟩, hn⟩ := hhd
  have hcv := fun W => conv2 W w.heap.size 64 66 87
  have HB := Lib.hid hb; clear hb
  have HL := Lib.hid hl; clear hl
  have E13 := Lib.hid e13; clear e13
  have HH := Lib.hid hh; clear hh
  clear e0 e1
  obtain ⟨n, rfl⟩ := Int.eq_ofNat_of_zero_le b13a
  go_enter Try.func77, Try.ntmps77
  go_wp2_with (go_at_call 99; refine (label_OfI bs _ _ w.heap.size _ HB.out HL.out (Cells.kept (Cells.new rfl rfl) ((Kept.refl _).alloc _)) (by omega) (by omega) (by omega) (by omega)).mono ?_; rintro e w' ⟨rfl, rfl⟩)
  go_loopw [7] (fun a wr => ∃ k : Nat, ∃ sl, k ≤ n ∧ a = .int .i64 (14 + 4 * (k : Int)) ∧ Kept w wr ∧ w.heap.size + 3 ≤ wr.heap.size ∧
    wr.heap[w.heap.size]? = some (.cells (u8s bs).toArray 36 (0, 0)) ∧
    wr.heap[w.heap.size + 1]? = some (.cells #[.int .i64 0, .int .i64 0, .int .i64 0, .int .i64 0, .slice none 0 0] 71 (0, 0)) ∧
    wr.heap[w.heap.size + 1 + 1]? = some (.cells #[.int .i64 (getB bs 2 4), .int .i64 (getB bs 6 4), .int .i64 (getB bs 10 1), .int .i64 (getB bs 11 2), sl] 71 (0, 0)) ∧
    wr.ownsRow (w.heap.size + 3) 122 3 sl k (mvals (parseMs bs k))) (fun a _ => (100 - intOf a).toNat)
  case atStart =>
    refine ⟨0, .slice none 0 0, by omega, by simp, (((Kept.refl _).alloc _).alloc _).alloc _, by simp, ?_, ?_, ?_, World.ownsRow_nil _ _ _ _⟩
    · exact (((Kept.refl (w.alloc _)).alloc _).alloc _).block (heap_alloc_new w _)
    · have := ((Kept.refl ((w.alloc (Obj.cells (u8s bs).toArray 36)).alloc _)).alloc (Obj.cells #[.int .i64 (getB bs 2 4), .int .i64 (getB bs 6 4), .int .i64 (getB bs 10 1), .int .i64 (getB bs 11 2), .slice none 0 0] 71)).block (heap_alloc_new (w.alloc (Obj.cells (u8s bs).toArray 36)) (Obj.cells #[.int .i64 0, .int .i64 0, .int .i64 0, .int .i64 0, .slice none 0 0] 71))
      rw [World.size_alloc] at this
      exact this
    · have := heap_alloc_new ((w.alloc (Obj.cells (u8s bs).toArray 36)).alloc (Obj.cells #[.int .i64 0, .int .i64 0, .int .i64 0, .int .i64 0, .slice none 0 0] 71)) (Obj.cells #[.int .i64 (getB bs 2 4), .int .i64 (getB bs 6 4), .int .i64 (getB bs 10 1), .int .i64 (getB bs 11 2), .slice none 0 0] 71)
      rw [World.size_alloc, World.size_alloc] at this
      exact this
  case round =>
    obtain ⟨k, sl, hk, rfl, hkw, hsz, hzs, hz0, hz1, hown⟩ := hrel
    have hcs : Cells wr w.heap.size 0 (u8s bs) := by simpa using Cells.of_block hzs
    have HCS := Lib.hid hcs; clear hcs
    have HZS := Lib.hid hzs; clear hzs
    have HZ0 := Lib.hid hz0; clear hz0
    have HZ1 := Lib.hid hz1; clear hz1
    have HO := Lib.hid hown; clear hown
    have hs1 : w.heap.size + 1 + 1 < wr.heap.size := by omega
    have c4 : wr.cell? ⟨w.heap.size + 1 + 1, 4, none⟩ = some sl := by rw [cell_of_row _ _ _ _ _ _ HZ1.out]; rfl
    by_cases hlt : k < n
    · have w1 : IntKind.i64.wrap (14 + 4 * (k : Int) + 1) = 14 + 4 * (k : Int) + 1 := IntWalk.i64_in _ (by omega)
      have w3 : IntKind.i64.wrap (14 + 4 * (k : Int) + 3) = 14 + 4 * (k : Int) + 3 := IntWalk.i64_in _ (by omega)
      have hA := fun o => ownsRow_kept HO.out (((Kept.refl wr).alloc o).drew)
      have HA := Lib.hid hA; clear hA
      have hS := fun (a b c : Int) (t : Nat) => Src.of_cells (n := 1) (c := 1) (size := 3) (Cells.kept (Cells.new (w := wr) (c := #[.int .i64 a, .int .i64 b, .int .i64 c]) (t := t) (fr := (0, 0)) rfl rfl) ((Kept.refl _).drew)) rfl (Nat.le_refl _)
      have HSr := Lib.hid hS; clear hS
      have hZ : ∀ o w', Below (w.heap.size + 3) ((wr.alloc o).drew) w' → w'.heap[w.heap.size + 1 + 1]? = some (.cells #[.int .i64 (getB bs 2 4), .int .i64 (getB bs 6 4), .int .i64 (getB bs 10 1), .int .i64 (getB bs 11 2), sl] 71 (0, 0)) := by
        intro o w' h
        rw [h.block _ (by omega)]
        exact (((Kept.refl wr).alloc o).drew).block HZ1.out
      have hZ4 : ∀ o w', Below (w.heap.size + 3) ((wr.alloc o).drew) w' → w'.cell? ⟨w.heap.size + 1 + 1, 4, none⟩ = some sl ∧ w'.frozen? ⟨w.heap.size + 1 + 1, 4, none⟩ = false := fun o w' h =>
        ⟨(cell_of_row _ _ _ _ _ _ (hZ o w' h)).trans rfl, frozen_of_row _ _ _ _ _ (hZ o w' h)⟩
      have HZ := Lib.hid hZ; clear hZ
      have HZ4 := Lib.hid hZ4; clear hZ4
      have HW : Hid (w.heap.size + 3 ≤ wr.heap.size) := hsz
      go_wp2
      clear hcv h13 h0 h1
      have hS : wr.drew.cell? ⟨w.heap.size + 1 + 1, 4, none⟩ = some sl := by simpa using c4
      have hS1 : ∀ o, (wr.alloc o).drew.cell? ⟨w.heap.size + 1 + 1, 4, none⟩ = some sl := fun o => (((Kept.refl wr).alloc o).drew).cell' c4
      refine wp_region_calm ?_
      refine wp_region_E (fun w' => w'.cell? ⟨w.heap.size + 1 + 1, 4, none⟩ = some sl) 17 (by kernel_rfl) ?_
      refine wpAnyE_take (i := 0) (v := ?_) (listed' := #[true, false, false, false, false, false, false, false, false, false, false, false, false, false, false, false, false, false]) (by rfl) (by kernel_rfl) (by kernel_rfl) calm_put hS (by rfl) ?_ ?_
      rotate_left
      · intro W hW; clear hW; go_simp; try (with_reducible rfl)
      simp only [Act.put, List.setIfInBounds_toArray, List.set_cons_zero, List.set_cons_succ]
      refine wpAnyE_take (i := 1) (v := ?_) (listed' := #[true, true, false, false, false, false, false, false, false, false, false, false, false, false, false, false, false, false]) (by rfl) (by kernel_rfl) (by kernel_rfl) calm_put hS (by rfl) ?_ ?_
      rotate_left
      · intro W hW; have hW' : W.cell? ⟨w.heap.size + 1 + 1, 4, none⟩ = some sl := hW; clear hW; go_simp; try (with_reducible rfl)
      simp only [Act.put, List.setIfInBounds_toArray, List.set_cons_zero, List.set_cons_succ]
      refine wpAnyE_take (i := 2) (v := ?_) (listed' := #[true, true, true, false, false, false, false, false, false, false, false, false, false, false, false, false, false, false]) (by rfl) (by kernel_rfl) (by kernel_rfl) calm_put hS (by rfl) ?_ ?_
      rotate_left
      · intro W hW; clear hW; go_simp; try (with_reducible rfl)
      simp only [Act.put, List.setIfInBounds_toArray, List.set_cons_zero, List.set_cons_succ]
      refine wpAnyE_take (i := 3) (v := ?_) (listed' := #[true, true, true, true, false, false, false, false, false, false, false, false, false, false, false, false, false, false]) (by rfl) (by kernel_rfl) (by kernel_rfl) calm_put hS (by rfl) ?_ ?_
      rotate_left
      · intro W hW; clear hW; go_simp; try (with_reducible rfl)
      simp only [Act.put, List.setIfInBounds_toArray, List.set_cons_zero, List.set_cons_succ]
      refine wpAnyE_take (i := 5) (v := ?_) (listed' := #[true, true, true, true, false, true, false, false, false, false, false, false, false, false, false, false, false, false]) (by rfl) (by kernel_rfl) (by kernel_rfl) calm_put hS (by rfl) ?_ ?_
      rotate_left
      · intro W hW; clear hW; go_simp; try (with_reducible rfl)
      simp only [Act.put, List.setIfInBounds_toArray, List.set_cons_zero, List.set_cons_succ]
      refine wpAnyE_take (i := 6) (v := ?_) (listed' := #[true, true, true, true, false, true, true, false, false, false, false, false, false, false, false, false, false, false]) (by rfl) (by kernel_rfl) (by kernel_rfl) calm_put hS (by rfl) ?_ ?_
      rotate_left
      · intro W hW; clear hW; go_simp; try (with_reducible rfl)
      simp only [Act.put, List.setIfInBounds_toArray, List.set_cons_zero, List.set_cons_succ]
      refine wpAnyE_take (i := 7) (v := ?_) (listed' := #[true, true, true, true, false, true, true, true, false, false, false, false, false, false, false, false, false, false]) (by rfl) (by kernel_rfl) (by kernel_rfl) calm_put hS (by rfl) ?_ ?_
      rotate_left
      · intro W hW; clear hW; go_simp; try (with_reducible rfl)
      simp only [Act.put, List.setIfInBounds_toArray, List.set_cons_zero, List.set_cons_succ]
      refine wpAnyE_take (i := 9) (v := ?_) (listed' := #[true, true, true, true, false, true, true, true, false, true, false, false, false, false, false, false, false, false]) (by rfl) (by kernel_rfl) (by kernel_rfl) calm_put hS (by rfl) ?_ ?_
      rotate_left
      · intro W hW; clear hW; go_simp; try (with_reducible rfl)
      simp only [Act.put, List.setIfInBounds_toArray, List.set_cons_zero, List.set_cons_succ]
      refine wpAnyE_take (i := 10) (v := ?_) (listed' := #[true, true, true, true, false, true, true, true, false, true, true, false, false, false, false, false, false, false]) (by rfl) (by kernel_rfl) (by kernel_rfl) calm_put hS (by rfl) ?_ ?_
      rotate_left
      · intro W hW; clear hW; go_simp; try (with_reducible rfl)
      simp only [Act.put, List.setIfInBounds_toArray, List.set_cons_zero, List.set_cons_succ]
      refine wpAnyE_take (i := 11) (v := ?_) (listed' := #[true, true, true, true, false, true, true, true, false, true, true, true, false, false, false, false, false, false]) (by rfl) (by kernel_rfl) (by kernel_rfl) calm_put hS (by rfl) ?_ ?_
      rotate_left
      · intro W hW; clear hW; go_simp; try (with_reducible rfl)
      simp only [Act.put, List.setIfInBounds_toArray, List.set_cons_zero, List.set_cons_succ]
      refine wpAnyE_one (i := 4) (listed' := #[true, true, true, true, true, true, true, true, false, true, true, true, false, false, false, false, false, false]) (by rfl) (by kernel_rfl) (by kernel_rfl) (by rfl) (fun K hK => ?_)
      go_wp2_with (go_at_call 99; refine (label_OfI bs _ _ w.heap.size _ HB.out HL.out (HCS.out.kept (Kept.refl _).drew) (by omega) (by omega) (by omega) (by omega)).mono ?_; rintro e w' ⟨rfl, rfl⟩)
      refine hK _ _ (fun _ => hS) ?_; clear hK K
      refine wpAnyE_one (i := 8) (listed' := #[true, true, true, true, true, true, true, true, true, true, true, true, false, false, false, false, false, false]) (by rfl) (by kernel_rfl) (by kernel_rfl) (by rfl) (fun K hK => ?_)
      go_wp2_with (go_at_call 99; refine (label_OfI bs _ _ w.heap.size _ HB.out HL.out (HCS.out.kept (Kept.refl _).drew) (by omega) (by omega) (by omega) (by omega)).mono ?_; rintro e w' ⟨rfl, rfl⟩)
      refine hK _ _ (fun _ => hS) ?_; clear hK K
      refine wpAnyE_one (i := 12) (listed' := #[true, true, true, true, true, true, true, true, true, true, true, true, true, false, false, false, false, false]) (by rfl) (by kernel_rfl) (by kernel_rfl) (by rfl) (fun K hK => ?_)
      go_wp2_with (go_at_call 99; refine (label_OfI bs _ _ w.heap.size _ HB.out HL.out (HCS.out.kept (Kept.refl _).drew) (by omega) (by omega) (by omega) (by omega)).mono ?_; rintro e w' ⟨rfl, rfl⟩)
      refine hK _ _ (fun _ => hS) ?_; clear hK K
      refine wpAnyE_take (i := 13) (v := ?_) (listed' := #[true, true, true, true, true, true, true, true, true, true, true, true, true, true, false, false, false, false]) (by rfl) (by kernel_rfl) (by kernel_rfl) calm_put hS (by rfl) ?_ ?_
      rotate_left
      · intro W hW; clear hW; go_simp; try (with_reducible rfl)
      simp only [Act.put, List.setIfInBounds_toArray, List.set_cons_zero, List.set_cons_succ]
      refine wpAnyE_one (i := 14) (listed' := #[true, true, true, true, true, true, true, true, true, true, true, true, true, true, true, false, false, false]) (by rfl) (by kernel_rfl) (by kernel_rfl) (by rfl) (fun K hK => ?_)
      go_wp2
      refine hK _ _ (fun _ => hS1 _) ?_; clear hK K
      refine wpAnyE_one (i := 15) (listed' := #[true, true, true, true, true, true, true, true, true, true, true, true, true, true, true, true, false, false]) (by rfl) (by kernel_rfl) (by kernel_rfl) (by rfl) (fun K hK => ?_)
      refine wp_append_app _ _ (by rfl) ty_mems (w.heap.size + 3) sl k (mvals (parseMs bs k)) (by rfl) (.inl (HA.out _)) _ 1 _ (by rfl) (HSr.out _ _ _ _) (by intro u hu; simp at hu; rcases hu with rfl | rfl | rfl <;> rfl) (by simp only [maxLen]; omega) (by omega) (by simp; omega) ?_
      intro v' w' _ _ hbw hown'
      obtain ⟨d4, f4⟩ := HZ4.out _ _ hbw
      have ho1 := hown' (.inl (by omega))
      clear hown'
      obtain ⟨g, cp, rfl, _, _⟩ := ho1.form (by omega)
      have HO' := Lib.hid ho1
      clear ho1
      refine hK _ _ (fun _ => d4) ?_; clear hK K
      refine wpAnyE_take (i := 16) (v := ?_) (listed' := #[true, true, true, true, true, true, true, true, true, true, true, true, true, true, true, true, true, false]) (by rfl) (by kernel_rfl) (by kernel_rfl) calm_put d4 (by rfl) ?_ ?_
      rotate_left
      · intro W hW; clear hW; go_simp; try (with_reducible rfl)
      simp only [Act.put, List.setIfInBounds_toArray, List.set_cons_zero, List.set_cons_succ]
      refine wpAnyE_one (i := 17) (listed' := #[true, true, true, true, true, true, true, true, true, true, true, true, true, true, true, true, true, true]) (by rfl) (by kernel_rfl) (by kernel_rfl) (by rfl) (fun K hK => ?_)
      go_wp2
      refine hK _ _ (fun h => absurd rfl h) ?_; clear hK K
      refine wpAnyE_done (by kernel_rfl) ?_ _
      refine calm_normal ?_
      go_wp2
      go_roundw
      case measure => simp [intOf]; omega
      have z : Kept w w' := ((hkw.trans ((Kept.refl wr).alloc _)).drew).below (by omega) hbw
      have hzw := HZ.out _ _ hbw
      have k3 : ∀ j, j < w.heap.size + 3 → w'.heap[j]? = wr.heap[j]? := fun j hj => by
        rw [hbw.block j hj]
        exact (((Kept.refl wr).alloc _).drew).block_eq (by omega)
      have hkl : w.heap.size + 3 ≤ w'.heap.size := by omega
      refine ⟨k + 1, _, by omega, by go_num, z.setCell (by simp; omega) _, by simpa using hkl, ?_, ?_, heap_setCell_same w' _ 4 _ _ _ hzw, ?_⟩
      · rw [heap_setCell_other _ _ _ _ (by simp; omega), k3 _ (by omega)]; exact HZS.out
      · rw [heap_setCell_other _ _ _ _ (by simp), k3 _ (by omega)]; exact HZ0.out
      · refine ownsRow_setCell_below ?_ (by simp) _
        rw [parseMs_next, mvals_append]
        have e : mvals [memAt bs k] = [.int .i64 (getB bs (14 + 4 * k) 1), .int .i64 (getB bs (14 + 4 * k + 1) 2), .int .i64 (getB bs (14 + 4 * k + 3) 1)] := by
          simp only [mvals, memAt, Mem.vals, List.flatMap_cons, List.flatMap_nil, List.append_nil]
          rw [show 15 + 4 * k = 14 + 4 * k + 1 from by omega, show 17 + 4 * k = 14 + 4 * k + 3 from by omega]
        rw [e]
        exact HO'.out
    · have hkn : k = n := by omega
      have hP : parse bs = ⟨getB bs 2 4, getB bs 6 4, getB bs 10 1, getB bs 11 2, parseMs bs k⟩ := by
        rw [parse, E13.out, hkn]; simp
      have hms : MSl wr sl (parseMs bs k) := MSl.of_owns (by rw [parseMs_length]; exact HO.out)
      have HP := Lib.hid hP; clear hP
      have HMS := Lib.hid hms; clear hms
      have hs2 : w.heap.size < wr.heap.size := by omega
      have hs3 : w.heap.size + 1 < wr.heap.size := by omega
      have hv : (Lab.mk (getB bs 2 4) (getB bs 6 4) (getB bs 10 1) (getB bs 11 2) (parseMs bs k)).val sl = .agg #[.int .i64 (getB bs 2 4), .int .i64 (getB bs 6 4), .int .i64 (getB bs 10 1), .int .i64 (getB bs 11 2), sl] := rfl
      have c0 : wr.cell? ⟨w.heap.size + 1 + 1, 0, none⟩ = some (.int .i64 (getB bs 2 4)) := by rw [cell_of_row _ _ _ _ _ _ HZ1.out]; rfl
      have c1 : wr.cell? ⟨w.heap.size + 1 + 1, 1, none⟩ = some (.int .i64 (getB bs 6 4)) := by rw [cell_of_row _ _ _ _ _ _ HZ1.out]; rfl
      have c2 : wr.cell? ⟨w.heap.size + 1 + 1, 2, none⟩ = some (.int .i64 (getB bs 10 1)) := by rw [cell_of_row _ _ _ _ _ _ HZ1.out]; rfl
      have c3 : wr.cell? ⟨w.heap.size + 1 + 1, 3, none⟩ = some (.int .i64 (getB bs 11 2)) := by rw [cell_of_row _ _ _ _ _ _ HZ1.out]; rfl
      have hl5 : ∀ l : List Value, l.length = 5 → 0 + 5 ≤ l.length := fun l h => by omega
      have heqg := eqg_sec
      have arms : True := trivial
      by_cases hr : rightB (parse bs) = true
      · have hput := label_Put_ok (parse bs) sl wr (by rw [HP.out]; exact HMS.out) hr
        have hsl := Lab.sec_length (parse bs) (by rw [HP.out]; simp [parseMs_length]; omega)
        rw [HP.out, hv, ← HP.out] at hput
        simp only [secV] at hput
        have HPut := Lib.hid hput; clear hput
        have hok : ofOk bs = ((parse bs).sec == bs) := by simp [ofOk, HH.out, hr]
        have HOk := Lib.hid hok; clear hok
        have HONE := Lib.hid (lab_one ⟨getB bs 2 4, getB bs 6 4, getB bs 10 1, getB bs 11 2, parseMs bs k⟩ sl HMS.out.one)
        clear hr hv hcv h13 h0 h1 hkn
        generalize (parse bs).sec = sec at *
        have hq := run_equal_secA sec bs hsl HL.out
        have HSL := Lib.hid hsl; clear hsl
        by_cases hse : (sec == bs) = true
        · go_wp2_with (first | (go_at_call 43; refine HPut.out.mono ?_; rintro e w2 ⟨rfl, hk2⟩; have q2 := hk2.q; have hs4 := hk2.size; have hs5 : w.heap.size + 1 + 1 < w2.heap.size := (by omega)) | (refine wpList_alloc_abs rfl 36 rfl (u8s zeroB) zero_sec ?_; intro w3 hz3 hs3' hn3 hk3; have q3 := hk3.q) | (refine wpList_store_agg rfl _ _ rfl ty_sec w2.heap.size 0 rfl (u8s sec) rfl (by rw [u8s_length, HSL.out]) (u8s_one _) (u8s zeroB) 36 hz3.out (by simp [u8s_length, zeroB_length]) ?_; intro w4 hw4; have hz4 := (hw4.oth (w.heap.size + 1) (by omega)).trans (hk3.block (hk2.block HZ0.out)); have hz5 := (hw4.oth (w.heap.size + 1 + 1) (by omega)).trans (hk3.block (hk2.block HZ1.out)); have hz6 := (hw4.oth w.heap.size (by omega)).trans (hk3.block (hk2.block HZS.out)); have hw5 := hw4.all (by rw [u8s_length, u8s_length, HSL.out, zeroB_length]); have HZ4 := Lib.hid hz4; have HZ5 := Lib.hid hz5; have HZ6 := Lib.hid hz6; clear hz4 hz5 hz6) | (refine wpList_load_aggW _ rfl ty_sec w2.heap.size 0 rfl (u8s sec) hw5.cells (by rw [u8s_length, HSL.out]) (by first | rfl | go_simp) ?_) | (refine wpList_load_aggW _ rfl ty_sec w.heap.size 0 rfl (u8s bs) (by simpa using Cells.of_block HZ6.out) (by rw [u8s_length, HL.out]) (by first | rfl | go_simp) ?_) | (refine wpList_load_agg rfl _ rfl ty_lab (w.heap.size + 1 + 1) 0 rfl [.int .i64 (getB bs 2 4), .int .i64 (getB bs 6 4), .int .i64 (getB bs 10 1), .int .i64 (getB bs 11 2), sl] (by simpa using Cells.of_block HZ5.out) rfl ?_) | (refine wpList_store_agg rfl _ _ rfl ty_lab (w.heap.size + 1) 0 rfl [.int .i64 (getB bs 2 4), .int .i64 (getB bs 6 4), .int .i64 (getB bs 10 1), .int .i64 (getB bs 11 2), sl] rfl rfl HONE.out [.int .i64 0, .int .i64 0, .int .i64 0, .int .i64 0, .slice none 0 0] 71 HZ4.out (by decide) ?_; intro w6 hw6))
          replace hw6 := hw6.all rfl
          have hkf : Kept w w6 := hw6.kept (hw4.kept ((hkw.trans hk2).trans hk3) (by omega)) (by omega)
          refine bodyPost_ret (results_lab rfl _ _ (w.heap.size + 1) ⟨getB bs 2 4, getB bs 6 4, getB bs 10 1, getB bs 11 2, parseMs bs k⟩ sl rfl hw6.cells) rfl ?_
          refine ⟨hkf, .inl ⟨by rw [HOk.out]; exact hse, sl, by rw [HP.out]; rfl, ?_⟩⟩
          have HLT : Hid (∀ g' cap, sl = .slice (some ⟨g', 0, none⟩) k cap → ∀ w2 : World, wr.heap.size ≤ w2.heap.size → g' ≠ w2.heap.size) := Lib.hid (fun g' cap e w2 h => by
            rcases owns_form HO.out with ⟨rfl, _⟩ | ⟨g, cp, rfl, _, hg, _⟩
            · cases e
            · cases e; omega)
          have ho2 := ownsRow_kept (ownsRow_kept HO.out hk2) hk3
          have ho3 := ownsRow_wrote hw6 (ownsRow_wrote_up hw4 ho2 (fun g' cap e => HLT.out g' cap e w2 hs4)) (by omega)
          rw [HP.out]
          refine ⟨MSl.of_owns (by rw [parseMs_length]; exact ho3), fun b hb => ?_⟩
          rcases owns_form ho3 with ⟨rfl, _⟩ | ⟨g, cp, rfl, hge, _⟩
          · simp [Value.ownBlock] at hb
          · simp only [Value.ownBlock, Option.some.injEq] at hb; omega
        · go_wp2_with (first | (go_at_call 43; refine HPut.out.mono ?_; rintro e w2 ⟨rfl, hk2⟩; have q2 := hk2.q; have hs4 := hk2.size; have hs5 : w.heap.size + 1 + 1 < w2.heap.size := (by omega)) | (refine wpList_alloc_abs rfl 36 rfl (u8s zeroB) zero_sec ?_; intro w3 hz3 hs3' hn3 hk3; have q3 := hk3.q) | (refine wpList_store_agg rfl _ _ rfl ty_sec w2.heap.size 0 rfl (u8s sec) rfl (by rw [u8s_length, HSL.out]) (u8s_one _) (u8s zeroB) 36 hz3.out (by simp [u8s_length, zeroB_length]) ?_; intro w4 hw4; have hz4 := (hw4.oth (w.heap.size + 1) (by omega)).trans (hk3.block (hk2.block HZ0.out)); have hz5 := (hw4.oth (w.heap.size + 1 + 1) (by omega)).trans (hk3.block (hk2.block HZ1.out)); have hz6 := (hw4.oth w.heap.size (by omega)).trans (hk3.block (hk2.block HZS.out)); have hw5 := hw4.all (by rw [u8s_length, u8s_length, HSL.out, zeroB_length]); have HZ4 := Lib.hid hz4; have HZ5 := Lib.hid hz5; have HZ6 := Lib.hid hz6; clear hz4 hz5 hz6) | (refine wpList_load_aggW _ rfl ty_sec w2.heap.size 0 rfl (u8s sec) hw5.cells (by rw [u8s_length, HSL.out]) (by first | rfl | go_simp) ?_) | (refine wpList_load_aggW _ rfl ty_sec w.heap.size 0 rfl (u8s bs) (by simpa using Cells.of_block HZ6.out) (by rw [u8s_length, HL.out]) (by first | rfl | go_simp) ?_) | (refine wpList_store_agg rfl _ _ rfl ty_lab (w.heap.size + 1) 0 rfl [.int .i64 0, .int .i64 0, .int .i64 0, .int .i64 0, .slice none 0 0] rfl rfl (lab_one Lab.zero (.slice none 0 0) rfl) [.int .i64 0, .int .i64 0, .int .i64 0, .int .i64 0, .slice none 0 0] 71 HZ4.out (by decide) ?_; intro w6 hw6))
          replace hw6 := hw6.all rfl
          have hkf : Kept w w6 := hw6.kept (hw4.kept ((hkw.trans hk2).trans hk3) (by omega)) (by omega)
          refine bodyPost_ret (results_lab rfl _ _ (w.heap.size + 1) Lab.zero (.slice none 0 0) rfl hw6.cells) rfl ?_
          exact ⟨hkf, .inr ⟨by rw [HOk.out]; simpa using hse, rfl⟩⟩
      · have hr' : rightB (parse bs) = false := by simpa using hr
        have hput := label_Put_no (parse bs) sl wr (by rw [HP.out]; simp [parseMs_length]; omega) (by rw [HP.out]; exact HMS.out) hr'
        rw [HP.out, hv] at hput
        have HPut := Lib.hid hput; clear hput
        have hno : ofOk bs = false := by simp [ofOk, hr']
        have HNO := Lib.hid hno; clear hno
        clear hr hr' hv hcv h13 h0 h1 hkn
        go_wp2_with (first | (go_at_call 43; refine HPut.out.mono ?_; rintro e w2 ⟨rfl, hk2⟩; have q2 := hk2.q; have hs4 := hk2.size) | (refine wpList_alloc_abs rfl 36 rfl (u8s zeroB) zero_sec ?_; intro w3 hz3 hs3' hn3 hk3; have q3 := hk3.q) | (refine wpList_store_agg rfl _ _ rfl ty_sec w2.heap.size 0 rfl (u8s zeroB) rfl (by simp [u8s_length, zeroB_length]) (u8s_one _) (u8s zeroB) 36 hz3.out (by simp [u8s_length, zeroB_length]) ?_; intro w4 hw4; have hz4 := (hw4.oth (w.heap.size + 1) (by omega)).trans (hk3.block (hk2.block HZ0.out))) | (refine wpList_store_agg rfl _ _ rfl ty_lab (w.heap.size + 1) 0 rfl _ rfl rfl (lab_one Lab.zero (.slice none 0 0) rfl) [.int .i64 0, .int .i64 0, .int .i64 0, .int .i64 0, .slice none 0 0] 71 hz4 (by decide) ?_; intro w5 hw5))
        replace hw5 := hw5.all rfl
        have hkf : Kept w w5 := hw5.kept (hw4.kept ((hkw.trans hk2).trans hk3) (by omega)) (by omega)
        refine bodyPost_ret (results_lab rfl _ _ (w.heap.size + 1) Lab.zero (.slice none 0 0) rfl hw5.cells) rfl ?_
        exact ⟨hkf, .inr ⟨HNO.out, rfl⟩⟩

/-- Of, of any sector. -/
theorem label_Of_own (bs : List Int) (w : World) (hb : ∀ x ∈ bs, IsByte x) (hl : bs.length = 64) : Calls Try.prog 77 #[secV bs] w (OfOwn bs w) := by
  cases hh : ofHead bs with
  | true => exact label_Of_head bs w hb hl hh
  | false => exact label_Of_no bs w hb hl hh
theorem label_Of (bs : List Int) (w : World) (hb : ∀ x ∈ bs, IsByte x) (hl : bs.length = 64) : Calls Try.prog 77 #[secV bs] w (OfRes bs w) := (label_Of_own bs w hb hl).mono fun e w' h => h.res

end Go.Proofs.Ytcbghpcohbgcjaa
