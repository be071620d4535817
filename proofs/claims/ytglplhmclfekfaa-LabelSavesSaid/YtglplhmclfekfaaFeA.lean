/- FeA: several texts in one: Rfa Rfb Rfc Rfd Rfe. -/
import Derived.Test.YtglplhmclfekfaaFdA
import Derived.Test.YtglplhmclfekfaaEA
import Derived.OwnWalk
import Derived.Deep.QuietTactic
import Derived.BigQuiet
import Derived.Lib.LazyBuf
import Derived.Deep.RegionLaw
import Derived.Deep.RegionHeld3
import Derived.Deep.DrawnRows
/- The document's numbers in strings: ref01.most, may, Put, Get. -/
namespace Go.Proofs.Ytglplhmclfekfaa
open Go.RowKit
set_option linter.unusedVariables false
set_option linter.unusedSimpArgs false

/-- a string of these bytes -/
def strA (l : List Int) : ByteArray := ⟨(l.map fun x => UInt8.ofNat x.toNat).toArray⟩
def strV (l : List Int) : Value := .string (strA l)
theorem strA_size (l : List Int) : (strA l).size = l.length := by simp [strA, ByteArray.size]
theorem strA_append (a b : List Int) : strA a ++ strA b = strA (a ++ b) := by
  apply ByteArray.ext
  simp [strA, ByteArray.data_append]
theorem conv_str (W : World) (b off c : Nat) (l : List Int) (hc : Cells W b off (u8s l)) :
    (convert 158 9 (.slice (some ⟨b, off, none⟩) l.length c)).run Try.prog W = .ok (strV l) W := by
  rw [run_convert_bytes_string (P := Try.prog) W 158 9 5 (some ⟨b, off, none⟩) l.length c Try.underlying158 Try.underlying5 Try.underlying9]
  rw [run_bytesToString W ⟨b, off, none⟩ l.length c l]
  · have : ∀ (l : List Int) (a : Array UInt8), List.foldl (fun s x => ByteArray.push s (UInt8.ofNat x.toNat)) ⟨a⟩ l = ⟨a ++ (l.map fun x => UInt8.ofNat x.toNat).toArray⟩ := by
      intro l
      induction l with
      | nil => intro a; simp
      | cons x l ih => intro a; rw [List.foldl_cons, show ByteArray.push ⟨a⟩ (UInt8.ofNat x.toNat) = ⟨a.push (UInt8.ofNat x.toNat)⟩ from rfl, ih]; simp
    first
    | (simp [strV, strA, this]; done)
    | (have h := this l #[]; simp only [Array.empty_append] at h; simp only [strV, strA]; exact congrArg (fun x => Result.ok (Value.string x) W) h)
  · have := run_loadCells_list (P := Try.prog) W ⟨b, off, none⟩ (u8s l) fun j v hv => by
      obtain ⟨hj, rfl⟩ := List.getElem?_eq_some_iff.1 hv
      have := hc j hj
      rcases j with _ | j
      · simpa [Addr.add] using this
      · simpa [Addr.add] using this
    rw [u8s_length] at this
    simpa [u8s] using this
theorem strA_get {l : List Int} {i : Nat} (hi : i < l.length) (h : i < (strA l).size) (hb : IsByte l[i]) : (((strA l)[i]'h).toNat : Int) = l[i] := by
  obtain ⟨h0, h1⟩ := hb
  have : (strA l)[i]'h = UInt8.ofNat l[i].toNat := by
    rw [show (strA l)[i]'h = (strA l).data[i]'h from rfl]
    simp [strA]
  rw [this, UInt8.toNat_ofNat']
  omega

theorem made_zeros (n : Nat) : (madeCells (Value.int .u8 0).cells n).toList = u8s (List.replicate n 0) := by
  apply List.ext_getElem
  · simp [u8s, size_madeCells]
  · intro i h1 h2
    simp [madeCells, u8s, Value.cells, Nat.mod_one]

theorem set_zero (k : Nat) (x : Int) (r : List Int) : (u8s (List.replicate (k + 1) 0 ++ r)).set k (.int .u8 x) = u8s (List.replicate k 0 ++ x :: r) := by
  induction k with
  | zero => rfl
  | succ k ih => rw [List.replicate_succ, List.replicate_succ]; simp only [u8s, List.cons_append, List.map_cons, List.set_cons_succ]; congr 1

attribute [local go_sem ↓] Go.wp_at_zero Go.wp_at_succ
set_option maxHeartbeats 800000 in
set_option maxRecDepth 100000 in
theorem ref_most (W : Nat) (w : World) (h : W ≤ 6) :
    Calls Try.prog 188 #[.int .i64 W] w fun e w' => e = .returned (.int .i64 ((256 : Int) ^ W - 1)) ∧ w = w' := by
  go_enter Try.func188, Try.ntmps188
  go_wp2
  go_loop [3, 4] (fun n i => ∃ k : Nat, k ≤ W ∧ i = .int .i64 k ∧ n = .int .i64 ((256 : Int) ^ k)) (fun _ i => W - (intOf i).toNat)
  case atStart => exact ⟨0, Nat.zero_le _, rfl, rfl⟩
  case round =>
    obtain ⟨k, hk, rfl, rfl⟩ := hrel
    have hp : (256 : Int) ^ k ≤ 256 ^ 6 := by exact_mod_cast Nat.pow_le_pow_right (by decide) (by omega)
    have hp0 : (0 : Int) < 256 ^ k := Int.pow_pos (by decide)
    have e6 : (256 : Int) ^ 6 = 281474976710656 := by decide
    have hsn : (256 : Int) ^ (k + 1) = 256 ^ k * 256 := Int.pow_succ ..
    rw [e6] at hp
    clear e6
    have HV := Lib.hid hsn; clear hsn
    by_cases hlt : k < W
    · generalize (256 : Int) ^ k = y at *
      go_wp2
      go_round
      case rel => exact ⟨k + 1, by omega, by go_num, by rw [HV.out]⟩
      case measure => simp [intOf]; omega
    · obtain rfl : k = W := by omega
      clear HV
      obtain ⟨y, hy⟩ : ∃ y, (256 : Int) ^ k = y := ⟨_, rfl⟩
      rw [hy] at hp hp0 ⊢
      have HY := Lib.hid hy
      clear hy
      go_wp2
      go_ret
      exact ⟨ret_int (by rw [HY.out]), rfl⟩

theorem mayPut_le {v : Int} {W : Nat} (h : mayPut v W = true) : v ≤ (256 : Int) ^ W - 1 := by
  obtain ⟨_, _, _, h4⟩ := (mayPut_iff v W).1 h
  have : (2 : Int) ^ (8 * (W : Int)).toNat = 256 ^ W := by
    rw [show (8 * (W : Int)).toNat = 8 * W by omega, Int.pow_mul]; rfl
  omega

set_option maxHeartbeats 800000 in
set_option maxRecDepth 100000 in
theorem ref01_may (v : Int) (W : Nat) (w : World) (h : mayPut v W = true) :
    Calls Try.prog 183 #[.int .i64 v, .int .i64 W] w fun e w' => e = .returned (.bool true) ∧ w = w' := by
  obtain ⟨w1, w6, v0, _⟩ := (mayPut_iff v W).1 h
  have hle := mayPut_le h
  clear h
  go_enter Try.func183, Try.ntmps183
  go_wp2_with fail
  refine (ref_most W _ (by omega)).mono ?_
  rintro e w' ⟨rfl, rfl⟩
  go_wp2
  go_ret
  exact ⟨by simp [*], rfl⟩

set_option maxHeartbeats 2000000 in
set_option maxRecDepth 100000 in
theorem ref_Put (l : List Int) (v : Int) (W : Nat) (w : World) (hlen : l.length ≤ 8388608) (h : mayPut v W = true) :
    Calls Try.prog 166 #[strV l, .int .i64 v, .int .i64 W] w fun e w' => e = .returned (strV (l ++ beBytes v W)) ∧ Kept w w' := by
  obtain ⟨w1, w6, v0, _⟩ := (mayPut_iff v W).1 h
  have hvb : v ≤ 281474976710655 := by
    have h1 := mayPut_le h
    have : (256 : Int) ^ W ≤ 256 ^ 6 := by exact_mod_cast Nat.pow_le_pow_right (by decide) (by omega)
    have : (256 : Int) ^ 6 = 281474976710656 := by decide
    omega
  have HVB := Lib.hid hvb; clear hvb
  have HM := Lib.hid h; clear h
  have HL := Lib.hid hlen; clear hlen
  obtain ⟨i0, hi0, hz0, hz1, hz2⟩ : ∃ i, Try.prog.info? 5 = some i ∧ i.zero = some (.int .u8 0) ∧ i.size = 1 ∧ i.bytes = 1 := by
    obtain ⟨i, h1, h2, h3, h4⟩ := info_parts (P := Try.prog) (e := 5) (z := .int .u8 0) (size := 1) (bytes := 1) (by kernel_rfl)
    exact ⟨i, h1, h2, h3, h4⟩
  have HI := Lib.hid hi0; clear hi0
  have HZ0 := Lib.hid hz0; clear hz0
  have HZ1 := Lib.hid hz1; clear hz1
  have HZ2 := Lib.hid hz2; clear hz2
  simp only [strV]
  go_enter Try.func166, Try.ntmps166
  go_wp2_with fail
  refine (ref01_may v W _ HM.out).mono ?_
  rintro e w' ⟨rfl, rfl⟩
  go_wp2_with (refine stop_at (o := ⟨some 15, _, _, _, _, _⟩) ?_)
  refine Stop.mk ?_
  refine wpList_make_full _ rfl _ _ 158 rfl 0 5 i0 (.int .u8 0) 1 Try.underlying158 HI.out HZ0.out HZ1.out .i64 .i64 (W : Int) (W : Int) W rfl rfl rfl rfl (by rw [HZ2.out]; omega) (by simp only [maxLen]; omega) (Nat.zero_le _) ?_
  intro w4 hown hg
  have hk4 : Kept w w4 := (Kept.refl w).grown hg (fun k e => by cases e)
  have hb4 : w4.heap[w.heap.size]? = some (.cells (u8s (List.replicate W 0)).toArray 5 (0, 0)) := by
    rcases hown.2 with ⟨h, _⟩ | ⟨g, cap, cur, h, _, hh, _, _, hs, ht⟩
    · cases h
    · cases h
      rw [Nat.mul_one] at hs ht
      have hcl : cur.toList = u8s (List.replicate W 0) := by
        rw [← List.take_of_length_le (l := cur.toList) (i := W) (by simp; omega), ht]
        exact made_zeros W
      have hcur : cur = (u8s (List.replicate W 0)).toArray := by rw [← hcl]
      rw [hh, hcur]
  have HB4 := Lib.hid hb4
  have HK4 := Lib.hid hk4
  clear hown hg HI HZ0 HZ1 HZ2 hb4 hk4
  go_wp2_with fail
  go_loopw [1, 8] (fun x i wr => ∃ k j : Nat, k + j = W ∧ x = .int .i64 (v / 2 ^ (8 * j)) ∧ i = .int .i64 ((k : Int) - 1) ∧ wr.heap[w.heap.size]? = some (.cells (u8s (List.replicate k 0 ++ beBytes v j)).toArray 5 (0, 0)) ∧ Kept w wr) (fun _ i _ => (intOf i + 1).toNat)
  case atStart => exact ⟨W, 0, rfl, by simp, by go_num, by simpa [beBytes] using HB4.out, HK4.out⟩
  case round =>
    obtain ⟨k, j, hkj, rfl, rfl, hblk, hkr⟩ := hrel
    have hsz := hkr.size
    have HBK := Lib.hid hblk; clear hblk
    have HK := Lib.hid hkr; clear hkr
    rcases k with _ | k
    · obtain rfl : j = W := by omega
      simp only [List.replicate_zero, List.nil_append] at HBK
      have hcv := conv_str wr w.heap.size 0 j (beBytes v j) (Cells.of_block HBK.out)
      rw [beBytes_length] at hcv
      have hadd := run_string_add_sum (P := Try.prog) (w := wr) (strA l) (strA (beBytes v j)) (by have := HL.out; rw [strA_size, strA_size, beBytes_length]; omega)
      rw [strA_append] at hadd
      simp only [strV] at hcv
      go_wp2
      go_ret
      exact ⟨rfl, HK.out⟩
    · have hx0 : 0 ≤ v / 2 ^ (8 * j) := Int.ediv_nonneg v0 (Int.pow_nonneg (by decide))
      have hnx : v / 2 ^ (8 * j) / 256 = v / 2 ^ (8 * (j + 1)) := by
        rw [Int.ediv_ediv_of_nonneg (Int.pow_nonneg (by decide)), show 8 * (j + 1) = 8 * j + 8 from rfl, Int.pow_add]; rfl
      have hbs : beBytes v (j + 1) = v / 2 ^ (8 * j) % 256 :: beBytes v j := rfl
      have hxv : v / 2 ^ (8 * j) ≤ v := Int.ediv_le_self _ v0
      have HNX := Lib.hid hnx; clear hnx
      have HBS := Lib.hid hbs; clear hbs
      generalize v / 2 ^ (8 * j) = x at *
      have hxb : x ≤ 281474976710655 := by have := HVB.out; omega
      have hd0 : 0 ≤ x / 256 := by omega
      have hd1 : x / 256 ≤ 9223372036854775807 := by omega
      have hm0 : 0 ≤ x % 256 := Int.emod_nonneg _ (by decide)
      have hm1 : x % 256 < 256 := Int.emod_lt_of_pos _ (by decide)
      have htm : x.tmod 256 = x % 256 := Int.tmod_eq_emod_of_nonneg hx0
      have htd : x.tdiv 256 = x / 256 := Int.tdiv_eq_ediv_of_nonneg hx0
      go_wp2_with (refine stop_at (o := ⟨none, .store _ _ _, _, _, _, _⟩) ?_)
      refine Stop.mk ?_
      refine wpList_set_cell (by rfl) _ _ rfl (by kernel_rfl) w.heap.size k rfl (.int .u8 (x % 256)) rfl rfl rfl (u8s (List.replicate (k + 1) 0 ++ beBytes v j)) 5 HBK.out (by simp [u8s_length]; omega) ?_
      intro w1 hw1
      rw [set_zero] at hw1
      have hw2 := hw1.blk
      rw [← HBS.out] at hw2
      have hkw : Kept w w1 := hw1.kept HK.out (Nat.le_refl _)
      have HB1 := Lib.hid hw2
      have HK1 := Lib.hid hkw
      clear hw1 hw2 hkw HBK HK
      go_wp2_with fail
      go_roundw
      case rel => exact ⟨k, j + 1, by omega, by rw [← HNX.out], by go_num, HB1.out, HK1.out⟩
      case measure => simp [intOf] <;> omega

theorem getV_step (l : List Int) (k : Nat) (h : k < l.length) : beVal (l.take (k + 1)) = 256 * beVal (l.take k) + l[k] := by
  rw [List.take_succ_eq_append_getElem h, beVal_snoc, Int.mul_comm]

set_option maxHeartbeats 2000000 in
set_option maxRecDepth 100000 in
theorem ref_Get (l : List Int) (W : Nat) (w : World) (hb : ∀ x ∈ l, IsByte x) (h1 : 1 ≤ W) (h6 : W ≤ 6) (hW : W ≤ l.length) (hl : l.length ≤ 64) :
    Calls Try.prog 148 #[strV l, .int .i64 W] w fun e w' => e = .returned (.tuple #[.int .i64 (beVal (l.take W)), .bool true]) ∧ w = w' := by
  have hsz := strA_size l
  have HS := Lib.hid hsz
  simp only [strV]
  generalize hst : strA l = st at *
  have hw3 : ¬ ((st.size : Int) < W) := by omega
  have HST := Lib.hid hst; clear hst
  clear hsz
  go_enter Try.func148, Try.ntmps148
  go_wp2
  go_loop [6, 7] (fun v i => ∃ k : Nat, k ≤ W ∧ i = .int .i64 k ∧ v = .int .i64 (beVal (l.take k))) (fun _ i => W - (intOf i).toNat)
  case atStart => exact ⟨0, Nat.zero_le _, rfl, rfl⟩
  case round =>
    obtain ⟨k, hk, rfl, rfl⟩ := hrel
    by_cases hlt : k < W
    · have hkl : k < l.length := by omega
      have hv := beVal_bd (l.take k) (fun c hc => hb c (List.mem_of_mem_take hc))
      have hby := hb l[k] (List.getElem_mem hkl)
      have hsn := getV_step l k hkl
      have hp : (256 : Int) ^ (l.take k).length ≤ 256 ^ 5 := by
        have : (l.take k).length ≤ 5 := by simp; omega
        exact_mod_cast Nat.pow_le_pow_right (by decide) this
      have hks : k < st.size := by rw [HS.out]; exact hkl
      have hidx : (st[k].toNat : Int) = l[k] := by have := HST.out; subst this; exact strA_get hkl _ hby
      have HV := Lib.hid hsn; clear hsn
      generalize l[k] = x at *
      generalize beVal (l.take k) = y at *
      obtain ⟨hx0, hx1⟩ := hby
      obtain ⟨hy0, hy1⟩ := hv
      have hy2 : y < 1099511627776 := by
        have : (256 : Int) ^ 5 = 1099511627776 := by decide
        omega
      clear hy1 hp
      go_wp2
      go_round
      case rel => exact ⟨k + 1, by omega, by go_num, by rw [HV.out]⟩
      case measure => simp [intOf]; omega
    · obtain rfl : k = W := by omega
      go_wp2
      go_ret2
      exact ⟨rfl, rfl⟩

end Go.Proofs.Ytglplhmclfekfaa
/- The document's Right. -/
namespace Go.Proofs.Ytglplhmclfekfaa
open Go.RowKit
set_option linter.unusedVariables false
set_option linter.unusedSimpArgs false

theorem right_bad (l : Lab) (k : Nat) (hk : k < l.ms.length) (h : (mayB l.ms[k] && decide (lastId l.ms k < l.ms[k].id)) = false) : rightB l = false := by
  have : risesB (-1) (l.ms.take (k + 1)) = false := by rw [risesB_next l.ms k hk, h, Bool.and_false]
  simp [rightB, risesB_stop l.ms (k + 1) this]
theorem mem_bad {id sec st last : Int} (h : id < 0 ∨ 31 < id ∨ id ≤ last ∨ sec < 160 ∨ 4096 < sec ∨ st < 0 ∨ 2 < st) : (mayB ⟨id, sec, st⟩ && decide (last < id)) = false := by
  simp only [mayB, inB, Bool.and_eq_false_iff, decide_eq_false_iff_not]
  omega
theorem mem_good {id sec st last : Int} (h0 : 0 ≤ id) (h1 : id ≤ 31) (h2 : last < id) (h3 : 160 ≤ sec) (h4 : sec ≤ 4096) (h5 : 0 ≤ st) (h6 : st ≤ 2) : (mayB ⟨id, sec, st⟩ && decide (last < id)) = true := by
  simp only [mayB, inB, Bool.and_eq_true, decide_eq_true_eq]
  omega

attribute [local go_sem ↓] Go.wp_at_zero Go.wp_at_succ
set_option maxHeartbeats 4000000 in
set_option maxRecDepth 100000 in
theorem ref_Right (l : Lab) (sl : Value) (w : World) (hlen : l.ms.length ≤ 9223372036854775807) (hm : MSl w sl l.ms) :
    Calls Try.prog 146 #[l.val sl] w fun e w' => e = .returned (.bool (rightB l)) ∧ Kept w w' := by
  have hB : ∀ o, Kept w (w.alloc o) := fun o => (Kept.refl _).alloc o
  have hbad := right_bad l
  have hdone : risesB (-1) l.ms = true → headB l = true → rightB l = hasOwn l.ms l.member := fun h1 h2 => by simp [rightB, h1, h2]
  have hno : headB l = false → rightB l = false := fun h => by simp [rightB, h]
  obtain ⟨array, gen, member, blocks, ms⟩ := l
  obtain ⟨oa, cap, rfl⟩ := hm.form
  simp only [Lab.val]
  generalize hR : rightB ⟨array, gen, member, blocks, ms⟩ = R at *
  clear hR
  by_cases hh : headB ⟨array, gen, member, blocks, ms⟩ = true
  · have hh' := hh
    simp only [headB, inB, Bool.and_eq_true, decide_eq_true_eq] at hh'
    obtain ⟨⟨a1, a2⟩, ⟨a3, a4⟩, ⟨a5, a6⟩, ⟨a7, a8⟩⟩ := hh'
    have HM := Lib.hid hm; clear hm
    have HD := Lib.hid (fun h => hdone h hh); clear hdone hno hh
    have HBAD := Lib.hid hbad; clear hbad
    go_enter Try.func146, Try.ntmps146
    go_wp2
    go_loopw [3, 4] (fun ow i wr => ∃ k : Nat, k ≤ ms.length ∧ i = .int .i64 k ∧ ow = .bool (hasOwn (ms.take k) member) ∧ Kept (w.alloc (Obj.cells #[.int .i64 array, .int .i64 gen, .int .i64 member, .int .i64 blocks, .slice oa ms.length cap] 80)) wr ∧ risesB (-1) (ms.take k) = true) (fun _ i _ => ms.length - (intOf i).toNat)
    case atStart => exact ⟨0, Nat.zero_le _, rfl, by simp [hasOwn], Kept.refl _, by simp [risesB]⟩
    case round =>
      obtain ⟨k, hk, rfl, rfl, hbel, hris⟩ := hrel
      have HR := Lib.hid hris; clear hris
      have hsz := hbel.size
      simp only [World.size_alloc] at hsz
      have hk0 : Kept w wr := (hB _).trans hbel
      have c2 : wr.cell? ⟨w.heap.size, 0 + 2, none⟩ = some (.int .i64 member) := hbel.cell' (by simp)
      have c2' : wr.cell? ⟨w.heap.size, 2, none⟩ = some (.int .i64 member) := hbel.cell' (by simp)
      have c4 : wr.cell? ⟨w.heap.size, 4, none⟩ = some (.slice oa ms.length cap) := hbel.cell' (by simp)
      by_cases hlt : k < ms.length
      · obtain ⟨b, off, cap', hsl, hm⟩ : ∃ b off cap', Value.slice oa ms.length cap = .slice (some ⟨b, off, none⟩) ms.length cap' ∧ MRow w b off ms := by
          rcases HM.out with ⟨h, _⟩ | h
          · have h' : ms = [] := h
            subst h'; simp at hlt
          · exact h
        cases hsl
        obtain ⟨m0, m1, m2⟩ := (hm.kept hk0) k hlt
        have HN := Lib.hid (hasOwn_next ms member k hlt)
        have HT := Lib.hid (risesB_next ms k hlt)
        have HB := Lib.hid (HBAD.out k hlt)
        have HE := Lib.hid (show Mem.mk ms[k].id ms[k].sec ms[k].st = ms[k] from rfl)
        generalize ms[k] = mk at *
        obtain ⟨id, sec, st⟩ := mk
        simp only at m0 m1 m2 HN HT
        have hka : Kept wr (wr.alloc (Obj.cells #[.int .i64 id, .int .i64 sec, .int .i64 st] 160)) := (Kept.refl _).alloc _
        have e2 := hka.cell' c2'
        have e4 := hka.cell' c4
        have HKA := Lib.hid hka; clear hka
        have HMR := Lib.hid hm; clear hm
        have HBel := Lib.hid hbel; clear hbel
        have HK0 := Lib.hid hk0; clear hk0
        generalize hasOwn (ms.take k) member = ow at *
        have HL0 := Lib.hid (fun h : k = 0 => show lastId ms k = -1 by rw [h]; exact lastId_zero ms)
        have hpre : 0 < k → ∃ x j, lastId ms k = x ∧ (k : Int) - 1 = (j : Nat) ∧ j < ms.length ∧ wr.cell? ⟨b, off + j * 3, none⟩ = some (.int .i64 x) := by
          intro hpos
          obtain ⟨j, rfl⟩ : ∃ j, k = j + 1 := ⟨k - 1, by omega⟩
          refine ⟨_, j, lastId_succ ms j (by omega), by omega, by omega, ?_⟩
          exact ((HMR.out.kept HK0.out) j (by omega)).1
        generalize lastId ms k = la at *
        go_upto_region 8 with fail
        by_cases q0 : id < 0
        · go_quiet (fail)
          go_wp2
          go_ret
          exact ⟨by rw [HB.out (mem_bad (.inl q0))]; rfl, HK0.out.trans (((Kept.refl _).alloc _).drewN _)⟩
        by_cases q1 : 31 < id
        · go_quiet (fail)
          go_wp2
          go_ret
          exact ⟨by rw [HB.out (mem_bad (.inr (.inl q1)))]; rfl, HK0.out.trans (((Kept.refl _).alloc _).drewN _)⟩
        by_cases hz : k = 0
        · have hL := HL0.out hz
          have hz1 : decide ((0 : Int) < k) = false := by simp; omega
          have hz2 : decide (0 < k) = false := by simp; omega
          clear hz hpre
          by_cases q3 : sec < 160
          · go_quiet (fail)
            go_wp2
            go_ret
            exact ⟨by rw [HB.out (mem_bad (.inr (.inr (.inr (.inl q3)))))]; rfl, HK0.out.trans (((Kept.refl _).alloc _).drewN _)⟩
          by_cases q4 : 4096 < sec
          · go_quiet (fail)
            go_wp2
            go_ret
            exact ⟨by rw [HB.out (mem_bad (.inr (.inr (.inr (.inr (.inl q4))))))]; rfl, HK0.out.trans (((Kept.refl _).alloc _).drewN _)⟩
          by_cases q5 : st < 0
          · go_quiet (fail)
            go_wp2
            go_ret
            exact ⟨by rw [HB.out (mem_bad (.inr (.inr (.inr (.inr (.inr (.inl q5)))))))]; rfl, HK0.out.trans (((Kept.refl _).alloc _).drewN _)⟩
          by_cases q6 : 2 < st
          · go_quiet (fail)
            go_wp2
            go_ret
            exact ⟨by rw [HB.out (mem_bad (.inr (.inr (.inr (.inr (.inr (.inr (q6))))))))]; rfl, HK0.out.trans (((Kept.refl _).alloc _).drewN _)⟩
          rcases ow with _ | _
          all_goals
            go_quiet (fail)
            go_wp2
            go_roundw
            case rel => exact ⟨k + 1, by omega, by go_num, by rw [HN.out]; simp, HBel.out.trans (((Kept.refl _).alloc _).drewN _), by rw [HT.out, HR.out, mem_good (by omega) (by omega) (by omega) (by omega) (by omega) (by omega) (by omega)]; rfl⟩
            case measure => simp [intOf]; omega
        · obtain ⟨x, j, hx, hkm, hjl, hpc⟩ := hpre (by omega)
          have ep := HKA.out.cell' hpc
          subst hx
          have hz1 : decide ((0 : Int) < k) = true := by simp; omega
          have hz2 : decide (0 < k) = true := by simp; omega
          clear hz hpre
          by_cases q2 : id ≤ la
          · go_quiet (fail)
            go_wp2
            go_ret
            exact ⟨by rw [HB.out (mem_bad (.inr (.inr (.inl q2))))]; rfl, HK0.out.trans (((Kept.refl _).alloc _).drewN _)⟩
          by_cases q3 : sec < 160
          · go_quiet (fail)
            go_wp2
            go_ret
            exact ⟨by rw [HB.out (mem_bad (.inr (.inr (.inr (.inl q3)))))]; rfl, HK0.out.trans (((Kept.refl _).alloc _).drewN _)⟩
          by_cases q4 : 4096 < sec
          · go_quiet (fail)
            go_wp2
            go_ret
            exact ⟨by rw [HB.out (mem_bad (.inr (.inr (.inr (.inr (.inl q4))))))]; rfl, HK0.out.trans (((Kept.refl _).alloc _).drewN _)⟩
          by_cases q5 : st < 0
          · go_quiet (fail)
            go_wp2
            go_ret
            exact ⟨by rw [HB.out (mem_bad (.inr (.inr (.inr (.inr (.inr (.inl q5)))))))]; rfl, HK0.out.trans (((Kept.refl _).alloc _).drewN _)⟩
          by_cases q6 : 2 < st
          · go_quiet (fail)
            go_wp2
            go_ret
            exact ⟨by rw [HB.out (mem_bad (.inr (.inr (.inr (.inr (.inr (.inr (q6))))))))]; rfl, HK0.out.trans (((Kept.refl _).alloc _).drewN _)⟩
          rcases ow with _ | _
          all_goals
            go_quiet (fail)
            go_wp2
            go_roundw
            case rel => exact ⟨k + 1, by omega, by go_num, by rw [HN.out]; simp, HBel.out.trans (((Kept.refl _).alloc _).drewN _), by rw [HT.out, HR.out, mem_good (by omega) (by omega) (by omega) (by omega) (by omega) (by omega) (by omega)]; rfl⟩
            case measure => simp [intOf]; omega
      · go_wp2
        go_ret
        have e1 : ms.take k = ms := by rw [List.take_of_length_le]; omega
        have hr := HR.out
        rw [e1] at hr
        exact ⟨by rw [HD.out hr, e1]; rfl, hk0⟩
  · simp only [Bool.not_eq_true] at hh
    have hR := hno hh
    subst hR
    have HH := Lib.hid hh; clear hh
    clear hbad hdone hno
    go_enter Try.func146, Try.ntmps146
    go_wp2
    all_goals first
      | (go_ret; exact ⟨rfl, hB _⟩)
      | (exfalso; have := HH.out; simp [headB, inB, *] at this; done)
      | (exfalso; have := HH.out; simp [headB, inB, *] at this; omega)
end Go.Proofs.Ytglplhmclfekfaa
/- The document's text of a label. -/
namespace Go.Proofs.Ytglplhmclfekfaa
open Go.RowKit
set_option linter.unusedVariables false
set_option linter.unusedSimpArgs false

theorem ref_Put0 (v : Int) (w : World) (h : mayPut v (4 : Nat) = true) :
    Calls Try.prog 166 #[.string ⟨#[66, 87]⟩, .int .i64 v, .int .i64 4] w fun e w' => ∃ t, e = .returned (.string (strA t)) ∧ Hid (t = [66, 87] ++ beBytes v 4) ∧ Hid (t.length = 2 + 4) ∧ Kept w w' :=
  (ref_Put [66, 87] v 4 w (by decide) h).mono fun e w' ⟨he, hk⟩ => ⟨_, he, Lib.hid rfl, Lib.hid (by simp [beBytes_length]), hk⟩
theorem ref_Put1 (l : List Int) (v : Int) (w : World) (hlen : l.length ≤ 8388608) (h : mayPut v (1 : Nat) = true) :
    Calls Try.prog 166 #[.string (strA l), .int .i64 v, .int .i64 1] w fun e w' => ∃ t, e = .returned (.string (strA t)) ∧ Hid (t = l ++ beBytes v 1) ∧ Hid (t.length = l.length + 1) ∧ Kept w w' :=
  (ref_Put l v 1 w hlen h).mono fun e w' ⟨he, hk⟩ => ⟨_, he, Lib.hid rfl, Lib.hid (by simp [beBytes_length]), hk⟩
theorem ref_Put2 (l : List Int) (v : Int) (w : World) (hlen : l.length ≤ 8388608) (h : mayPut v (2 : Nat) = true) :
    Calls Try.prog 166 #[.string (strA l), .int .i64 v, .int .i64 2] w fun e w' => ∃ t, e = .returned (.string (strA t)) ∧ Hid (t = l ++ beBytes v 2) ∧ Hid (t.length = l.length + 2) ∧ Kept w w' :=
  (ref_Put l v 2 w hlen h).mono fun e w' ⟨he, hk⟩ => ⟨_, he, Lib.hid rfl, Lib.hid (by simp [beBytes_length]), hk⟩
theorem ref_Put4 (l : List Int) (v : Int) (w : World) (hlen : l.length ≤ 8388608) (h : mayPut v (4 : Nat) = true) :
    Calls Try.prog 166 #[.string (strA l), .int .i64 v, .int .i64 4] w fun e w' => ∃ t, e = .returned (.string (strA t)) ∧ Hid (t = l ++ beBytes v 4) ∧ Hid (t.length = l.length + 4) ∧ Kept w w' :=
  (ref_Put l v 4 w hlen h).mono fun e w' ⟨he, hk⟩ => ⟨_, he, Lib.hid rfl, Lib.hid (by simp [beBytes_length]), hk⟩

attribute [local go_sem ↓] Go.wp_at_zero Go.wp_at_succ
set_option maxHeartbeats 1000000 in
set_option maxRecDepth 100000 in
theorem ref_text (l : Lab) (sl : Value) (w : World) (hm : MSl w sl l.ms) (hr : rightB l = true) :
    Calls Try.prog 147 #[l.val sl] w fun e w' => e = .returned (strV l.text) ∧ Kept w w' := by
  have hF := l.fld hr
  have hM := l.mem hr
  have hN : l.ms.length ≤ 12 := by
    simp only [rightB, headB, inB, Bool.and_eq_true, decide_eq_true_eq] at hr
    omega
  obtain ⟨oa, cap, rfl⟩ := hm.form
  obtain ⟨array, gen, member, blocks, ms⟩ := l
  have F0 : Hid (mayPut array (4 : Nat) = true) := Lib.hid (hF (array, 4) (by simp [Lab.flds]))
  have F1 : Hid (mayPut gen (4 : Nat) = true) := Lib.hid (hF (gen, 4) (by simp [Lab.flds]))
  have F2 : Hid (mayPut member (1 : Nat) = true) := Lib.hid (hF (member, 1) (by simp [Lab.flds]))
  have F3 : Hid (mayPut blocks (2 : Nat) = true) := Lib.hid (hF (blocks, 2) (by simp [Lab.flds]))
  have F4 : Hid (mayPut ms.length (1 : Nat) = true) := Lib.hid (hF (ms.length, 1) (by simp [Lab.flds]))
  have HMm := Lib.hid hM; clear hM
  clear hF hr
  have HS := Lib.hid hm; clear hm
  simp only [Lab.val] at HS ⊢
  simp only at hN
  have hbox0 : ∀ (bx : Obj), bx = Obj.cells #[.int .i64 array, .int .i64 gen, .int .i64 member, .int .i64 blocks, .slice oa ms.length cap] 80 → ∀ W, Kept (w.alloc bx) W → Cells W w.heap.size 0 [.int .i64 array, .int .i64 gen, .int .i64 member, .int .i64 blocks, .slice oa ms.length cap] := by
    rintro _ rfl W hk
    exact (Cells.of_block (heap_alloc_new w _)).kept hk
  have hbox := hbox0 _ rfl
  clear hbox0
  have HB1 := Lib.hid fun W hk => (show W.cell? ⟨w.heap.size, 0, none⟩ = some (.int .i64 array) ∧ W.cell? ⟨w.heap.size, 1, none⟩ = some (.int .i64 gen) from ⟨hbox W hk 0 (by simp), hbox W hk 1 (by simp)⟩)
  have HB2 := Lib.hid fun W hk => (show W.cell? ⟨w.heap.size, 2, none⟩ = some (.int .i64 member) ∧ W.cell? ⟨w.heap.size, 3, none⟩ = some (.int .i64 blocks) ∧ W.cell? ⟨w.heap.size, 4, none⟩ = some (.slice oa ms.length cap) from ⟨hbox W hk 2 (by simp), hbox W hk 3 (by simp), hbox W hk 4 (by simp)⟩)
  clear hbox
  go_enter Try.func147, Try.ntmps147
  go_upto_region 1 with fail
  have K0 := (Kept.refl (w.alloc (Obj.cells #[.int .i64 array, .int .i64 gen, .int .i64 member, .int .i64 blocks, .slice oa ms.length cap] 80))).drew
  have hS := HB1.out _ K0
  refine wp_region_calm ?_
  refine wp_region_E (fun W => W.cell? ⟨w.heap.size, 0, none⟩ = some (.int .i64 array) ∧ W.cell? ⟨w.heap.size, 1, none⟩ = some (.int .i64 gen)) 100 (by kernel_rfl) ?_
  refine wpAnyE_take (i := 0) (v := ?_) (listed' := #[true, false, false, false, false, false, false]) (by rfl) (by kernel_rfl) (by kernel_rfl) calm_put hS (by rfl) ?_ ?_
  rotate_left
  · intro W hW; clear hW; go_simp; try (with_reducible rfl)
  simp only [Act.put, List.getElem_toArray, List.getElem_cons_succ, List.getElem_cons_zero, List.setIfInBounds_toArray, List.set_cons_zero, List.set_cons_succ]
  refine wpAnyE_take (i := 1) (v := ?_) (listed' := #[true, true, false, false, false, false, false]) (by rfl) (by kernel_rfl) (by kernel_rfl) calm_put hS (by rfl) ?_ ?_
  rotate_left
  · intro W hW; obtain ⟨q0, q1⟩ := hW; go_simp; try (with_reducible rfl)
  simp only [Act.put, List.getElem_toArray, List.getElem_cons_succ, List.getElem_cons_zero, List.setIfInBounds_toArray, List.set_cons_zero, List.set_cons_succ]
  refine wpAnyE_take (i := 3) (v := ?_) (listed' := #[true, true, false, true, false, false, false]) (by rfl) (by kernel_rfl) (by kernel_rfl) calm_put hS (by rfl) ?_ ?_
  rotate_left
  · intro W hW; clear hW; go_simp; try (with_reducible rfl)
  simp only [Act.put, List.getElem_toArray, List.getElem_cons_succ, List.getElem_cons_zero, List.setIfInBounds_toArray, List.set_cons_zero, List.set_cons_succ]
  refine wpAnyE_take (i := 4) (v := ?_) (listed' := #[true, true, false, true, true, false, false]) (by rfl) (by kernel_rfl) (by kernel_rfl) calm_put hS (by rfl) ?_ ?_
  rotate_left
  · intro W hW; obtain ⟨q0, q1⟩ := hW; go_simp; try (with_reducible rfl)
  simp only [Act.put, List.getElem_toArray, List.getElem_cons_succ, List.getElem_cons_zero, List.setIfInBounds_toArray, List.set_cons_zero, List.set_cons_succ]
  refine wpAnyE_one (i := 2) (listed' := #[true, true, true, true, true, false, false]) (by rfl) (by kernel_rfl) (by kernel_rfl) (by rfl) (fun K hK => ?_)
  simp only [Act.put, List.getElem_toArray, List.getElem_cons_succ, List.getElem_cons_zero, List.setIfInBounds_toArray, List.set_cons_zero, List.set_cons_succ]
  go_wp2_with fail
  refine Calls.mono (ref_Put0 array _ F0.out) ?_
  rintro e w2 ⟨t1, rfl, ht1, hl1, hk2⟩
  replace K0 := K0.trans hk2
  have hS := HB1.out _ K0
  refine hK _ _ (fun _ => hS) ?_; clear hK K
  refine wpAnyE_one (i := 5) (listed' := #[true, true, true, true, true, true, false]) (by rfl) (by kernel_rfl) (by kernel_rfl) (by rfl) (fun K hK => ?_)
  simp only [Act.put, List.getElem_toArray, List.getElem_cons_succ, List.getElem_cons_zero, List.setIfInBounds_toArray, List.set_cons_zero, List.set_cons_succ]
  go_wp2_with fail
  refine Calls.mono (ref_Put4 t1 gen _ (by have := hl1.out; omega) F1.out) ?_
  rintro e w3 ⟨t2, rfl, ht2, hl2, hk3⟩
  replace K0 := K0.trans hk3
  have hS := HB1.out _ K0
  refine hK _ _ (fun _ => hS) ?_; clear hK K
  refine wpAnyE_one (i := 6) (listed' := #[true, true, true, true, true, true, true]) (by rfl) (by kernel_rfl) (by kernel_rfl) (by rfl) (fun K hK => ?_)
  simp only [Act.put, List.getElem_toArray, List.getElem_cons_succ, List.getElem_cons_zero, List.setIfInBounds_toArray, List.set_cons_zero, List.set_cons_succ]
  go_wp2
  refine hK _ _ (fun _ => hS) ?_; clear hK K
  refine wpAnyE_done (by kernel_rfl) ?_ _
  refine calm_normal ?_
  go_upto_region 2 with fail
  replace K0 := K0.drew
  have hS := HB2.out _ K0
  refine wp_region_calm ?_
  refine wp_region_E (fun W => W.cell? ⟨w.heap.size, 2, none⟩ = some (.int .i64 member) ∧ W.cell? ⟨w.heap.size, 3, none⟩ = some (.int .i64 blocks) ∧ W.cell? ⟨w.heap.size, 4, none⟩ = some (.slice oa ms.length cap)) 100 (by kernel_rfl) ?_
  refine wpAnyE_take (i := 0) (v := ?_) (listed' := #[true, false, false, false, false, false, false, false, false, false, false, false]) (by rfl) (by kernel_rfl) (by kernel_rfl) calm_put hS (by rfl) ?_ ?_
  rotate_left
  · intro W hW; clear hW; go_simp; try (with_reducible rfl)
  simp only [Act.put, List.getElem_toArray, List.getElem_cons_succ, List.getElem_cons_zero, List.setIfInBounds_toArray, List.set_cons_zero, List.set_cons_succ]
  refine wpAnyE_take (i := 1) (v := ?_) (listed' := #[true, true, false, false, false, false, false, false, false, false, false, false]) (by rfl) (by kernel_rfl) (by kernel_rfl) calm_put hS (by rfl) ?_ ?_
  rotate_left
  · intro W hW; clear hW; go_simp; try (with_reducible rfl)
  simp only [Act.put, List.getElem_toArray, List.getElem_cons_succ, List.getElem_cons_zero, List.setIfInBounds_toArray, List.set_cons_zero, List.set_cons_succ]
  refine wpAnyE_take (i := 2) (v := ?_) (listed' := #[true, true, true, false, false, false, false, false, false, false, false, false]) (by rfl) (by kernel_rfl) (by kernel_rfl) calm_put hS (by rfl) ?_ ?_
  rotate_left
  · intro W hW; obtain ⟨q2, q3, q4⟩ := hW; go_simp; try (with_reducible rfl)
  simp only [Act.put, List.getElem_toArray, List.getElem_cons_succ, List.getElem_cons_zero, List.setIfInBounds_toArray, List.set_cons_zero, List.set_cons_succ]
  refine wpAnyE_take (i := 4) (v := ?_) (listed' := #[true, true, true, false, true, false, false, false, false, false, false, false]) (by rfl) (by kernel_rfl) (by kernel_rfl) calm_put hS (by rfl) ?_ ?_
  rotate_left
  · intro W hW; clear hW; go_simp; try (with_reducible rfl)
  simp only [Act.put, List.getElem_toArray, List.getElem_cons_succ, List.getElem_cons_zero, List.setIfInBounds_toArray, List.set_cons_zero, List.set_cons_succ]
  refine wpAnyE_take (i := 5) (v := ?_) (listed' := #[true, true, true, false, true, true, false, false, false, false, false, false]) (by rfl) (by kernel_rfl) (by kernel_rfl) calm_put hS (by rfl) ?_ ?_
  rotate_left
  · intro W hW; obtain ⟨q2, q3, q4⟩ := hW; go_simp; try (with_reducible rfl)
  simp only [Act.put, List.getElem_toArray, List.getElem_cons_succ, List.getElem_cons_zero, List.setIfInBounds_toArray, List.set_cons_zero, List.set_cons_succ]
  refine wpAnyE_take (i := 7) (v := ?_) (listed' := #[true, true, true, false, true, true, false, true, false, false, false, false]) (by rfl) (by kernel_rfl) (by kernel_rfl) calm_put hS (by rfl) ?_ ?_
  rotate_left
  · intro W hW; clear hW; go_simp; try (with_reducible rfl)
  simp only [Act.put, List.getElem_toArray, List.getElem_cons_succ, List.getElem_cons_zero, List.setIfInBounds_toArray, List.set_cons_zero, List.set_cons_succ]
  refine wpAnyE_take (i := 8) (v := ?_) (listed' := #[true, true, true, false, true, true, false, true, true, false, false, false]) (by rfl) (by kernel_rfl) (by kernel_rfl) calm_put hS (by rfl) ?_ ?_
  rotate_left
  · intro W hW; obtain ⟨q2, q3, q4⟩ := hW; go_simp; try (with_reducible rfl)
  simp only [Act.put, List.getElem_toArray, List.getElem_cons_succ, List.getElem_cons_zero, List.setIfInBounds_toArray, List.set_cons_zero, List.set_cons_succ]
  refine wpAnyE_take (i := 9) (v := ?_) (listed' := #[true, true, true, false, true, true, false, true, true, true, false, false]) (by rfl) (by kernel_rfl) (by kernel_rfl) calm_put hS (by rfl) ?_ ?_
  rotate_left
  · intro W hW; clear hW; go_simp; try (with_reducible rfl)
  simp only [Act.put, List.getElem_toArray, List.getElem_cons_succ, List.getElem_cons_zero, List.setIfInBounds_toArray, List.set_cons_zero, List.set_cons_succ]
  refine wpAnyE_one (i := 3) (listed' := #[true, true, true, true, true, true, false, true, true, true, false, false]) (by rfl) (by kernel_rfl) (by kernel_rfl) (by rfl) (fun K hK => ?_)
  simp only [Act.put, List.getElem_toArray, List.getElem_cons_succ, List.getElem_cons_zero, List.setIfInBounds_toArray, List.set_cons_zero, List.set_cons_succ]
  go_wp2_with fail
  refine Calls.mono (ref_Put1 t2 member _ (by have := hl1.out; have := hl2.out; omega) F2.out) ?_
  rintro e w4 ⟨t3, rfl, ht3, hl3, hk4⟩
  replace K0 := K0.trans hk4
  have hS := HB2.out _ K0
  refine hK _ _ (fun _ => hS) ?_; clear hK K
  refine wpAnyE_one (i := 6) (listed' := #[true, true, true, true, true, true, true, true, true, true, false, false]) (by rfl) (by kernel_rfl) (by kernel_rfl) (by rfl) (fun K hK => ?_)
  simp only [Act.put, List.getElem_toArray, List.getElem_cons_succ, List.getElem_cons_zero, List.setIfInBounds_toArray, List.set_cons_zero, List.set_cons_succ]
  go_wp2_with fail
  refine Calls.mono (ref_Put2 t3 blocks _ (by have := hl1.out; have := hl2.out; have := hl3.out; omega) F3.out) ?_
  rintro e w5 ⟨t4, rfl, ht4, hl4, hk5⟩
  replace K0 := K0.trans hk5
  have hS := HB2.out _ K0
  refine hK _ _ (fun _ => hS) ?_; clear hK K
  refine wpAnyE_one (i := 10) (listed' := #[true, true, true, true, true, true, true, true, true, true, true, false]) (by rfl) (by kernel_rfl) (by kernel_rfl) (by rfl) (fun K hK => ?_)
  simp only [Act.put, List.getElem_toArray, List.getElem_cons_succ, List.getElem_cons_zero, List.setIfInBounds_toArray, List.set_cons_zero, List.set_cons_succ]
  go_wp2_with fail
  refine Calls.mono (ref_Put1 t4 ms.length _ (by have := hl1.out; have := hl2.out; have := hl3.out; have := hl4.out; omega) F4.out) ?_
  rintro e w6 ⟨t5, rfl, ht5, hl5, hk6⟩
  replace K0 := K0.trans hk6
  have hS := HB2.out _ K0
  refine hK _ _ (fun _ => hS) ?_; clear hK K
  refine wpAnyE_one (i := 11) (listed' := #[true, true, true, true, true, true, true, true, true, true, true, true]) (by rfl) (by kernel_rfl) (by kernel_rfl) (by rfl) (fun K hK => ?_)
  simp only [Act.put, List.getElem_toArray, List.getElem_cons_succ, List.getElem_cons_zero, List.setIfInBounds_toArray, List.set_cons_zero, List.set_cons_succ]
  go_wp2
  refine hK _ _ (fun _ => hS) ?_; clear hK K
  refine wpAnyE_done (by kernel_rfl) ?_ _
  refine calm_normal ?_
  have HT2 : Hid (t5 = [66, 87] ++ fldBytes (Lab.flds ⟨array, gen, member, blocks, ms⟩)) := Lib.hid (by rw [ht5.out, ht4.out, ht3.out, ht2.out, ht1.out]; simp [fldBytes, Lab.flds])
  have HT2L : Hid (t5.length = 14) := Lib.hid (by rw [hl5.out, hl4.out, hl3.out, hl2.out, hl1.out])
  clear hS
  have hk0 : Kept w w6 := ((Kept.refl w).alloc _).trans K0
  have c4 := (HB2.out _ K0).2.2
  have HK0 := Lib.hid hk0; clear hk0 K0 hk2 hk3 hk4 hk5 hk6
  obtain ⟨wa, rfl⟩ : ∃ wa, wa = w6 := ⟨_, rfl⟩
  go_wp2_with fail
  go_loopw [3, 4] (fun t i wr => ∃ k : Nat, k ≤ ms.length ∧ i = .int .i64 k ∧ t = .string (strA (t5 ++ memBytes (ms.take k))) ∧ Kept wa wr) (fun _ i _ => ms.length - (intOf i).toNat)
  case atStart => exact ⟨0, Nat.zero_le _, rfl, by simp [memBytes], Kept.refl _⟩
  case round =>
    obtain ⟨k, hk, rfl, rfl, hkr⟩ := hrel
    have hsz := hkr.size
    replace c4 := hkr.cell' c4
    by_cases hlt : k < ms.length
    · obtain ⟨b, off, cap', hsl, hmr⟩ : ∃ b off cap', Value.slice oa ms.length cap = .slice (some ⟨b, off, none⟩) ms.length cap' ∧ MRow w b off ms := by
        rcases HS.out with ⟨h, _⟩ | h
        · have h' : ms = [] := h
          subst h'; simp at hlt
        · exact h
      cases hsl
      obtain ⟨m0, m1, m2⟩ := (hmr.kept (HK0.out.trans hkr)) k hlt
      clear hmr
      obtain ⟨p0, p1, p2⟩ := HMm.out _ (List.getElem_mem hlt)
      have HT := Lib.hid (memBytes_next ms k hlt)
      have HTL : Hid ((t5 ++ memBytes (ms.take k)).length ≤ 100) := Lib.hid (by
        have := HT2L.out
        rw [List.length_append, memBytes_length, List.length_take]; omega)
      generalize ms[k] = m at *
      obtain ⟨id, sec, st⟩ := m
      simp only at m0 m1 m2
      have P0 : Hid (mayPut id (1 : Nat) = true) := Lib.hid p0
      have P1 : Hid (mayPut sec (2 : Nat) = true) := Lib.hid p1
      have P2 : Hid (mayPut st (1 : Nat) = true) := Lib.hid p2
      clear p0 p1 p2
      obtain ⟨T, hT⟩ : ∃ T, t5 ++ memBytes (ms.take k) = T := ⟨_, rfl⟩
      rw [hT] at HTL ⊢
      have HTe := Lib.hid hT; clear hT
      go_upto_region 7 with fail
      have K1 := (Kept.refl (wr.alloc (Obj.cells #[.int .i64 id, .int .i64 sec, .int .i64 st] 160))).drew
      have HB3 := Lib.hid fun W (hk : Kept (wr.alloc (Obj.cells #[.int .i64 id, .int .i64 sec, .int .i64 st] 160)) W) => (show W.cell? ⟨wr.heap.size, 0, none⟩ = some (.int .i64 id) ∧ W.cell? ⟨wr.heap.size, 1, none⟩ = some (.int .i64 sec) ∧ W.cell? ⟨wr.heap.size, 2, none⟩ = some (.int .i64 st) from
        have h := (Cells.of_block (heap_alloc_new wr (Obj.cells #[.int .i64 id, .int .i64 sec, .int .i64 st] 160))).kept hk
        ⟨h 0 (by simp), h 1 (by simp), h 2 (by simp)⟩)
      have hS := HB3.out _ K1
      refine wp_region_calm ?_
      refine wp_region_E (fun W => W.cell? ⟨wr.heap.size, 0, none⟩ = some (.int .i64 id) ∧ W.cell? ⟨wr.heap.size, 1, none⟩ = some (.int .i64 sec) ∧ W.cell? ⟨wr.heap.size, 2, none⟩ = some (.int .i64 st)) 100 (by kernel_rfl) ?_
      refine wpAnyE_take (i := 0) (v := ?_) (listed' := #[true, false, false, false, false, false, false, false, false, false, false]) (by rfl) (by kernel_rfl) (by kernel_rfl) calm_put hS (by rfl) ?_ ?_
      rotate_left
      · intro W hW; clear hW; go_simp; try (with_reducible rfl)
      simp only [Act.put, List.getElem_toArray, List.getElem_cons_succ, List.getElem_cons_zero, List.setIfInBounds_toArray, List.set_cons_zero, List.set_cons_succ]
      refine wpAnyE_take (i := 1) (v := ?_) (listed' := #[true, true, false, false, false, false, false, false, false, false, false]) (by rfl) (by kernel_rfl) (by kernel_rfl) calm_put hS (by rfl) ?_ ?_
      rotate_left
      · intro W hW; clear hW; go_simp; try (with_reducible rfl)
      simp only [Act.put, List.getElem_toArray, List.getElem_cons_succ, List.getElem_cons_zero, List.setIfInBounds_toArray, List.set_cons_zero, List.set_cons_succ]
      refine wpAnyE_take (i := 2) (v := ?_) (listed' := #[true, true, true, false, false, false, false, false, false, false, false]) (by rfl) (by kernel_rfl) (by kernel_rfl) calm_put hS (by rfl) ?_ ?_
      rotate_left
      · intro W hW; obtain ⟨q0, q1, q2⟩ := hW; go_simp; try (with_reducible rfl)
      simp only [Act.put, List.getElem_toArray, List.getElem_cons_succ, List.getElem_cons_zero, List.setIfInBounds_toArray, List.set_cons_zero, List.set_cons_succ]
      refine wpAnyE_take (i := 4) (v := ?_) (listed' := #[true, true, true, false, true, false, false, false, false, false, false]) (by rfl) (by kernel_rfl) (by kernel_rfl) calm_put hS (by rfl) ?_ ?_
      rotate_left
      · intro W hW; clear hW; go_simp; try (with_reducible rfl)
      simp only [Act.put, List.getElem_toArray, List.getElem_cons_succ, List.getElem_cons_zero, List.setIfInBounds_toArray, List.set_cons_zero, List.set_cons_succ]
      refine wpAnyE_take (i := 5) (v := ?_) (listed' := #[true, true, true, false, true, true, false, false, false, false, false]) (by rfl) (by kernel_rfl) (by kernel_rfl) calm_put hS (by rfl) ?_ ?_
      rotate_left
      · intro W hW; obtain ⟨q0, q1, q2⟩ := hW; go_simp; try (with_reducible rfl)
      simp only [Act.put, List.getElem_toArray, List.getElem_cons_succ, List.getElem_cons_zero, List.setIfInBounds_toArray, List.set_cons_zero, List.set_cons_succ]
      refine wpAnyE_take (i := 7) (v := ?_) (listed' := #[true, true, true, false, true, true, false, true, false, false, false]) (by rfl) (by kernel_rfl) (by kernel_rfl) calm_put hS (by rfl) ?_ ?_
      rotate_left
      · intro W hW; clear hW; go_simp; try (with_reducible rfl)
      simp only [Act.put, List.getElem_toArray, List.getElem_cons_succ, List.getElem_cons_zero, List.setIfInBounds_toArray, List.set_cons_zero, List.set_cons_succ]
      refine wpAnyE_take (i := 8) (v := ?_) (listed' := #[true, true, true, false, true, true, false, true, true, false, false]) (by rfl) (by kernel_rfl) (by kernel_rfl) calm_put hS (by rfl) ?_ ?_
      rotate_left
      · intro W hW; obtain ⟨q0, q1, q2⟩ := hW; go_simp; try (with_reducible rfl)
      simp only [Act.put, List.getElem_toArray, List.getElem_cons_succ, List.getElem_cons_zero, List.setIfInBounds_toArray, List.set_cons_zero, List.set_cons_succ]
      refine wpAnyE_one (i := 3) (listed' := #[true, true, true, true, true, true, false, true, true, false, false]) (by rfl) (by kernel_rfl) (by kernel_rfl) (by rfl) (fun K hK => ?_)
      simp only [Act.put, List.getElem_toArray, List.getElem_cons_succ, List.getElem_cons_zero, List.setIfInBounds_toArray, List.set_cons_zero, List.set_cons_succ]
      go_wp2_with fail
      refine Calls.mono (ref_Put1 T id _ (by have := HTL.out; omega) P0.out) ?_
      rintro e w7 ⟨t6, rfl, ht6, hl6, hk7⟩
      replace K1 := K1.trans hk7
      have hS := HB3.out _ K1
      refine hK _ _ (fun _ => hS) ?_; clear hK K
      refine wpAnyE_one (i := 6) (listed' := #[true, true, true, true, true, true, true, true, true, false, false]) (by rfl) (by kernel_rfl) (by kernel_rfl) (by rfl) (fun K hK => ?_)
      simp only [Act.put, List.getElem_toArray, List.getElem_cons_succ, List.getElem_cons_zero, List.setIfInBounds_toArray, List.set_cons_zero, List.set_cons_succ]
      go_wp2_with fail
      refine Calls.mono (ref_Put2 t6 sec _ (by have := HTL.out; have := hl6.out; omega) P1.out) ?_
      rintro e w8 ⟨t7, rfl, ht7, hl7, hk8⟩
      replace K1 := K1.trans hk8
      have hS := HB3.out _ K1
      refine hK _ _ (fun _ => hS) ?_; clear hK K
      refine wpAnyE_one (i := 9) (listed' := #[true, true, true, true, true, true, true, true, true, true, false]) (by rfl) (by kernel_rfl) (by kernel_rfl) (by rfl) (fun K hK => ?_)
      simp only [Act.put, List.getElem_toArray, List.getElem_cons_succ, List.getElem_cons_zero, List.setIfInBounds_toArray, List.set_cons_zero, List.set_cons_succ]
      go_wp2_with fail
      refine Calls.mono (ref_Put1 t7 st _ (by have := HTL.out; have := hl6.out; have := hl7.out; omega) P2.out) ?_
      rintro e w9 ⟨t8, rfl, ht8, hl8, hk9⟩
      replace K1 := K1.trans hk9
      have hS := HB3.out _ K1
      refine hK _ _ (fun _ => hS) ?_; clear hK K
      refine wpAnyE_one (i := 10) (listed' := #[true, true, true, true, true, true, true, true, true, true, true]) (by rfl) (by kernel_rfl) (by kernel_rfl) (by rfl) (fun K hK => ?_)
      simp only [Act.put, List.getElem_toArray, List.getElem_cons_succ, List.getElem_cons_zero, List.setIfInBounds_toArray, List.set_cons_zero, List.set_cons_succ]
      go_wp2
      refine hK _ _ (fun _ => hS) ?_; clear hK K
      refine wpAnyE_done (by kernel_rfl) ?_ _
      refine calm_normal ?_
      go_wp2
      go_roundw
      case rel =>
        refine ⟨k + 1, by omega, by go_num, ?_, hkr.trans (((Kept.refl _).alloc _).trans K1)⟩
        rw [HT.out, ← List.append_assoc, HTe.out, ht8.out, ht7.out, ht6.out]
        simp [Mem.bytes]
      case measure => simp [intOf]; omega
    · go_wp2
      go_ret
      refine ⟨?_, HK0.out.trans hkr⟩
      have e1 : ms.take k = ms := by rw [List.take_of_length_le]; omega
      rw [e1, HT2.out, List.append_assoc]
      rfl
end Go.Proofs.Ytglplhmclfekfaa
/- The document's Put of a label. -/
namespace Go.Proofs.Ytglplhmclfekfaa
open Go.RowKit
set_option linter.unusedVariables false
set_option linter.unusedSimpArgs false

section
variable {P : Program} {o : Oper} {a : Act} {w : World} {K : Act → World → Prop} {Q : Exit → Act → World → Prop}
theorem run_load_agg {T n : Nat} (x : Operand) (ho : o.op = .load T x) (hT : AggT P T n)
    (b off : Nat) (hx : a.eval x = .pointer (some ⟨b, off, none⟩)) (xs : List Value) (hc : Cells w b off xs) (hl : xs.length = n) :
    (execOp a.eval o).run P w = .ok (.value (.agg xs.toArray)) w := by
  obtain ⟨⟨d, hd1, hd2⟩, hs⟩ := hT
  unfold execOp
  simp only [ho, hx, Instr.loadAt, Instr.sureAddr, Sem.run_bind, Sem.run_pure, Result.andThen_ok, run_loadVar_mid w b off T xs d (rangeAt_of_cells hc) hd1 hd2 (by rw [hs, hl])]
theorem strA_cells (l : List Int) (hb : ∀ x ∈ l, IsByte x) : ((strA l).data.toList.map fun x => Value.int .u8 (x.toNat : Int)) = u8s l := by
  simp only [strA, List.map_map, u8s]
  apply List.map_congr_left
  intro x hx
  obtain ⟨h0, h1⟩ := hb x hx
  simp only [Function.comp, UInt8.toNat_ofNat']
  congr 1; omega
/-- copy of a string into a row of bytes; the world a letter -/
theorem wp_copy_str {d s : Operand} {dT sT : TypeId} (hgd : o.guard = none)
    (ho : o.op = .call { callee := .builtin .copy, args := #[d, s], argTypes := #[dT, sT] }) {elem : TypeId} (hu : P.underlying dT = some (.slice elem)) (hz : ∀ w, (Go.sizeOf elem).run P w = .ok 1 w)
    (g dLen dCap : Nat) (hd : a.eval d = .slice (some ⟨g, 0, none⟩) dLen dCap) (t : List Int) (hb : ∀ x ∈ t, IsByte x) (hs : a.eval s = .string (strA t)) (hle : t.length ≤ dLen)
    (cur : List Value) {ty : TypeId} (hg : w.heap[g]? = some (.cells cur.toArray ty (0, 0))) (hfit : t.length ≤ cur.length)
    (h : ∀ w', Wrote w w' g (splice cur 0 (u8s t)) ty → K (a.put o.dst (goInt t.length)) w') : Oper.wp P o a w K Q := by
  have hmin : Nat.min t.length dLen = t.length := Nat.min_eq_left hle
  have hst := run_storeCells_at P g 0 ty (u8s t) 0 cur.toArray w hg (by simpa [u8s_length] using hfit) (u8s_one t)
  have hsz : (strA t).size = t.length := strA_size t
  have hcl := strA_cells t hb
  have hrun : (Builtin.copy_ #[dT, sT] o.type #[.slice (some ⟨g, 0, none⟩) dLen dCap, .string (strA t)]).run P w = .ok (goInt t.length) (w.setRow g (cur.take 0 ++ (u8s t ++ cur.drop (0 + (u8s t).length))).toArray) := by
    simp [Builtin.copy_, run_underlying hu, Builtin.lenOf, Builtin.firstCells, hz, hsz, hmin]
    rw [hcl, List.take_of_length_le (by rw [u8s_length]; exact Nat.le_refl _), hst]
    simp [Result.andThen]
  unfold Oper.wp
  simp [execOp, ho, resolve, invoke, builtin, hd, hs, hrun, Result.andThen]
  refine h _ ⟨?_, fun k hk => setRow_other w g k _ hk, by simp [World.setRow], rfl, rfl, rfl⟩
  simpa [splice] using setRow_heap w g _ _ ty _ hg
end
theorem text_bytes (l : Lab) : ∀ x ∈ l.text, IsByte x := fun x hx => sec_bytes l x (by simp [Lab.sec, hx])
theorem sz_u8 : ∀ w, (Go.sizeOf 5).run Try.prog w = .ok 1 w := fun w => by
  obtain ⟨i, h1, _, h3, _⟩ := info_parts (P := Try.prog) (e := 5) (z := .int .u8 0) (size := 1) (bytes := 1) (by kernel_rfl)
  simp [sizeOf, typeInfo, h1, h3]
def putSec (l : Lab) : List Int := if rightB l then l.sec else zeroB
def putErr (l : Lab) : Int := if rightB l then 0 else 1

set_option maxHeartbeats 1000000 in
set_option maxRecDepth 100000 in
theorem ref_LPut_no (l : Lab) (sl : Value) (w : World) (hlen : l.ms.length ≤ 9223372036854775807) (hm : MSl w sl l.ms) (hr : rightB l = false) :
    Calls Try.prog 115 #[l.val sl] w fun e w' => e = .returned (.tuple #[secV zeroB, .int .i64 1]) ∧ Kept w w' := by
  have hB : ∀ o, Kept w (w.alloc o) := fun o => (Kept.refl _).alloc o
  have hR := fun (W : World) (hk : Kept w W) => (ref_Right l sl W hlen (hm.kept hk))
  simp only [hr] at hR
  have HR := Lib.hid hR; clear hR
  clear hr hm
  obtain ⟨array, gen, member, blocks, ms⟩ := l
  simp only [Lab.val] at HR ⊢
  go_enter Try.func115, Try.ntmps115
  go_wp2_with (refine stop_at (o := ⟨some 2, _, _, _, _, _⟩) ?_)
  refine Stop.mk ?_
  refine wpList_alloc_abs rfl 34 rfl (u8s zeroB) zero_sec ?_
  intro w1 hz1 hs1 hn1 hk1
  have hk1' := (hB _).trans hk1
  have HB := Lib.hid ((Cells.of_block (heap_alloc_new w (Obj.cells #[.int .i64 array, .int .i64 gen, .int .i64 member, .int .i64 blocks, sl] 80))).kept hk1)
  rw [World.size_alloc] at hz1 hs1
  go_wp2_with (refine stop_at (o := ⟨some 4, _, _, _, _, _⟩) ?_)
  refine Stop.mk ?_
  refine wpList_alloc_abs rfl 34 rfl (u8s zeroB) zero_sec ?_
  intro w2 hz2 hs2 hn2 hk2
  go_wp2_with (refine stop_at (o := ⟨some 6, _, _, _, _, _⟩) ?_)
  refine Stop.mk ?_
  refine wpList_load_agg rfl _ rfl ty_lab w.heap.size 0 rfl [.int .i64 array, .int .i64 gen, .int .i64 member, .int .i64 blocks, sl] (HB.out.kept hk2) rfl ?_
  go_wp2_with fail
  refine (HR.out _ (hk1'.trans hk2)).mono ?_
  rintro e w3 ⟨rfl, hk3⟩
  go_wp2_with (refine stop_at (o := ⟨some 10, _, _, _, _, _⟩) ?_)
  refine Stop.mk ?_
  refine wpList_load_agg rfl _ rfl ty_sec w1.heap.size 0 rfl (u8s zeroB) (Cells.of_block (hk3.block hz2.out)) (by simp [u8s_length, zeroB_length]) ?_
  go_wp2_with (refine stop_at (o := ⟨none, .store _ _ _, _, _, _, _⟩) ?_)
  refine Stop.mk ?_
  refine wpList_store_agg rfl _ _ rfl ty_sec (w.heap.size + 1) 0 (by rfl) (u8s zeroB) rfl (by simp [u8s_length, zeroB_length]) (u8s_one _) (u8s zeroB) 34 ((hk2.trans hk3).block hz1.out) (by simp [u8s_length, zeroB_length]) ?_
  intro w4 hw4
  replace hw4 := hw4.all rfl
  have hkw : Kept w w4 := hw4.kept (hk1'.trans (hk2.trans hk3)) (by omega)
  go_wp2_with fail
  refine bodyPost_ret (results_sec rfl _ _ (w.heap.size + 1) zeroB rfl hw4.cells zeroB_length) rfl ⟨rfl, hkw⟩

set_option maxHeartbeats 1000000 in
set_option maxRecDepth 100000 in
theorem ref_LPut_ok (l : Lab) (sl : Value) (w : World) (hm : MSl w sl l.ms) (hr : rightB l = true) :
    Calls Try.prog 115 #[l.val sl] w fun e w' => e = .returned (.tuple #[secV l.sec, .int .i64 0]) ∧ Kept w w' := by
  have hB : ∀ o, Kept w (w.alloc o) := fun o => (Kept.refl _).alloc o
  have hN : l.ms.length ≤ 12 := by
    simp only [rightB, headB, inB, Bool.and_eq_true, decide_eq_true_eq] at hr
    omega
  have hR := fun (W : World) (hk : Kept w W) => (ref_Right l sl W (by omega) (hm.kept hk))
  simp only [hr] at hR
  have HR := Lib.hid hR; clear hR
  have HT := Lib.hid fun (W : World) (hk : Kept w W) => ref_text l sl W (hm.kept hk) hr
  have HTB := Lib.hid (text_bytes l)
  have HTL := Lib.hid l.text_length
  have hsp : Hid (splice (u8s zeroB) 0 (u8s l.text) = u8s l.sec) := Lib.hid (splice_u8s _ (by rw [Lab.text_length]; omega))
  have hsl : Hid (l.sec.length = 64) := Lib.hid (Lab.sec_length _ hN)
  have HTle : Hid (l.text.length ≤ 64) := Lib.hid (by rw [Lab.text_length]; omega)
  clear hr hm
  generalize l.text = tx at *
  generalize l.sec = sec at *
  obtain ⟨array, gen, member, blocks, ms⟩ := l
  simp only [Lab.val] at HR HT ⊢
  clear HTL hN
  go_enter Try.func115, Try.ntmps115
  go_wp2_with (refine stop_at (o := ⟨some 2, _, _, _, _, _⟩) ?_)
  refine Stop.mk ?_
  refine wpList_alloc_abs rfl 34 rfl (u8s zeroB) zero_sec ?_
  intro w1 hz1 hs1 hn1 hk1
  have hk1' := (hB _).trans hk1
  have HB := Lib.hid ((Cells.of_block (heap_alloc_new w (Obj.cells #[.int .i64 array, .int .i64 gen, .int .i64 member, .int .i64 blocks, sl] 80))).kept hk1)
  rw [World.size_alloc] at hz1 hs1
  go_wp2_with (refine stop_at (o := ⟨some 4, _, _, _, _, _⟩) ?_)
  refine Stop.mk ?_
  refine wpList_alloc_abs rfl 34 rfl (u8s zeroB) zero_sec ?_
  intro w2 hz2 hs2 hn2 hk2
  go_wp2_with (refine stop_at (o := ⟨some 6, _, _, _, _, _⟩) ?_)
  refine Stop.mk ?_
  refine wpList_load_agg rfl _ rfl ty_lab w.heap.size 0 rfl [.int .i64 array, .int .i64 gen, .int .i64 member, .int .i64 blocks, sl] (HB.out.kept hk2) rfl ?_
  go_wp2_with fail
  refine (HR.out _ (hk1'.trans hk2)).mono ?_
  rintro e w3 ⟨rfl, hk3⟩
  go_upto_region 5 with fail
  have K3 : Kept w1 w3.drew := (hk2.trans hk3).drew
  have hS := HB.out.kept K3
  have hsz1 := hk1'.size
  have hsz2 := hk2.size
  refine wp_region_calm ?_
  refine wp_region_E (fun W => Cells W w.heap.size 0 [.int .i64 array, .int .i64 gen, .int .i64 member, .int .i64 blocks, sl]) 100 (by kernel_rfl) ?_
  refine wpAnyE_take (i := 0) (v := ?_) (listed' := #[true, false, false, false]) (by rfl) (by kernel_rfl) (by kernel_rfl) calm_put hS (by rfl) ?_ ?_
  rotate_left
  · intro W hW; clear hW; go_simp; try (with_reducible rfl)
  simp only [Act.put, List.getElem_toArray, List.getElem_cons_succ, List.getElem_cons_zero, List.setIfInBounds_toArray, List.set_cons_zero, List.set_cons_succ]
  refine wpAnyE_take (i := 1) (v := .agg #[.int .i64 array, .int .i64 gen, .int .i64 member, .int .i64 blocks, sl]) (listed' := #[true, true, false, false]) (by rfl) (by kernel_rfl) (by kernel_rfl) calm_put hS (by rfl) ?_ ?_
  · intro W hW; skip; exact run_load_agg (.tmp 1) rfl ty_lab w.heap.size 0 rfl _ hW rfl
  simp only [Act.put, List.getElem_toArray, List.getElem_cons_succ, List.getElem_cons_zero, List.setIfInBounds_toArray, List.set_cons_zero, List.set_cons_succ]
  refine wpAnyE_one (i := 2) (listed' := #[true, true, true, false]) (by rfl) (by kernel_rfl) (by kernel_rfl) (by rfl) (fun K hK => ?_)
  simp only [Act.put, List.getElem_toArray, List.getElem_cons_succ, List.getElem_cons_zero, List.setIfInBounds_toArray, List.set_cons_zero, List.set_cons_succ]
  go_wp2_with fail
  refine Calls.mono (HT.out _ (hk1'.trans K3)) ?_
  rintro e w4 ⟨rfl, hk4⟩
  replace K3 := K3.trans hk4
  have hS := HB.out.kept K3
  refine hK _ _ (fun _ => hS) ?_; clear hK K
  refine wpAnyE_one (i := 3) (listed' := #[true, true, true, true]) (by rfl) (by kernel_rfl) (by kernel_rfl) (by rfl) (fun K hK => ?_)
  simp only [Act.put, List.getElem_toArray, List.getElem_cons_succ, List.getElem_cons_zero, List.setIfInBounds_toArray, List.set_cons_zero, List.set_cons_succ]
  refine wp_copy_str rfl rfl Try.underlying158 sz_u8 w1.heap.size 64 64 rfl tx HTB.out rfl HTle.out (u8s zeroB) (ty := 34) ((hk3.drew.trans hk4).block hz2.out) (by rw [u8s_length, zeroB_length]; exact HTle.out) ?_
  intro w5 hw5
  rw [hsp.out] at hw5
  have hS := (hw5.kept K3 (by omega)) |> HB.out.kept
  refine hK _ _ (fun _ => hS) ?_; clear hK K
  refine wpAnyE_done (by kernel_rfl) ?_ _
  refine calm_normal ?_
  go_wp2_with (refine stop_at (o := ⟨some 15, _, _, _, _, _⟩) ?_)
  refine Stop.mk ?_
  refine wpList_load_agg rfl _ rfl ty_sec w1.heap.size 0 rfl (u8s sec) hw5.cells (by rw [u8s_length, hsl.out]) ?_
  go_wp2_with (refine stop_at (o := ⟨none, .store _ _ _, _, _, _, _⟩) ?_)
  refine Stop.mk ?_
  refine wpList_store_agg rfl _ _ rfl ty_sec (w.heap.size + 1) 0 (by rfl) (u8s sec) rfl (by rw [u8s_length, hsl.out]) (u8s_one _) (u8s zeroB) 34 ((hw5.oth (w.heap.size + 1) (by omega)).trans (K3.block hz1.out)) (by simp [u8s_length, zeroB_length]) ?_
  intro w6 hw6
  replace hw6 := hw6.all (by rw [u8s_length, hsl.out, u8s_length, zeroB_length])
  have hkw : Kept w w6 := hw6.kept (hw5.kept (hk1'.trans K3) (by omega)) (by omega)
  go_wp2_with fail
  refine bodyPost_ret (results_sec rfl _ _ (w.heap.size + 1) sec rfl hw6.cells hsl.out) rfl ⟨rfl, hkw⟩
theorem ref_LPut (l : Lab) (sl : Value) (w : World) (hlen : l.ms.length ≤ 9223372036854775807) (hm : MSl w sl l.ms) :
    Calls Try.prog 115 #[l.val sl] w fun e w' => e = .returned (.tuple #[secV (putSec l), .int .i64 (putErr l)]) ∧ Kept w w' := by
  by_cases hr : rightB l = true
  · simpa [putSec, putErr, hr] using ref_LPut_ok l sl w hm hr
  · simpa [putSec, putErr, hr] using ref_LPut_no l sl w hlen hm (by simpa using hr)
theorem label_Put (l : Lab) (sl : Value) (w : World) (hlen : l.ms.length ≤ 9223372036854775807) (hm : MSl w sl l.ms) :
    Calls Try.prog 111 #[l.val sl] w fun e w' => e = .returned (.tuple #[secV (putSec l), .int .i64 (putErr l)]) ∧ Kept w w' := by
  by_cases hr : rightB l = true
  · simpa [putSec, putErr, hr] using label_Put_ok l sl w hm hr
  · simpa [putSec, putErr, hr] using label_Put_no l sl w hlen hm (by simpa using hr)
end Go.Proofs.Ytglplhmclfekfaa
/- The document's Of. -/
namespace Go.Proofs.Ytglplhmclfekfaa
open Go.RowKit
set_option linter.unusedVariables false
set_option linter.unusedSimpArgs false

theorem strA_extract (l : List Int) (i j : Nat) : (strA l).extract i j = strA ((l.drop i).take (j - i)) := by
  apply ByteArray.ext
  simp only [strA, ByteArray.data_extract]
  simp [List.extract_eq_take_drop, List.map_take, List.map_drop]
theorem strA_from (l : List Int) (i n : Nat) (h : l.length = n) : (strA l).extract i n = strA (l.drop i) := by
  rw [strA_extract, List.take_of_length_le (by rw [List.length_drop]; omega)]
theorem strA_toList (l : List Int) : (strA l).toList = l.map fun x => UInt8.ofNat x.toNat := by
  rw [ByteArray.toList_eq] <;> simp [strA]
theorem head_map (bs : List Int) (hb : ∀ x ∈ bs, IsByte x) (hl : bs.length = 64) : (List.take 2 (List.map (fun x => UInt8.ofNat x.toNat) bs) == [66, 87]) = (bs.take 2 == [66, 87]) := by
  obtain ⟨x0, e0, b0a, b0b, h0⟩ := byte_getD hb 0 (by omega)
  obtain ⟨x1, e1, b1a, b1b, h1⟩ := byte_getD hb 1 (by omega)
  rw [← List.map_take, take2 bs (by omega), e0, e1]
  have f0 := ofNat_byte b0a b0b 66 (by decide)
  have f1 := ofNat_byte b1a b1b 87 (by decide)
  have g0 : (UInt8.ofNat x0.toNat == 66) = (x0 == 66) := by rw [Bool.eq_iff_iff]; simpa using f0
  have g1 : (UInt8.ofNat x1.toNat == 87) = (x1 == 87) := by rw [Bool.eq_iff_iff]; simpa using f1
  simp only [List.map_cons, List.map_nil]
  show (UInt8.ofNat x0.toNat == 66 && (UInt8.ofNat x1.toNat == 87 && true)) = (x0 == 66 && (x1 == 87 && true))
  rw [g0, g1]
theorem ref_Get4 (bs : List Int) (a : Nat) (w : World) (hb : ∀ x ∈ bs, IsByte x) (hl : bs.length = 64) (ha : a + 4 ≤ 64) :
    Calls Try.prog 148 #[.string (strA (bs.drop a)), .int .i64 4] w fun e w' => e = .returned (.tuple #[.int .i64 (getB bs a 4), .bool true]) ∧ w = w' :=
  ref_Get (bs.drop a) 4 w (fun x hx => hb x (List.mem_of_mem_drop hx)) (by decide) (by decide) (by rw [List.length_drop]; omega) (by rw [List.length_drop]; omega)
theorem ref_Get2 (bs : List Int) (a : Nat) (w : World) (hb : ∀ x ∈ bs, IsByte x) (hl : bs.length = 64) (ha : a + 2 ≤ 64) :
    Calls Try.prog 148 #[.string (strA (bs.drop a)), .int .i64 2] w fun e w' => e = .returned (.tuple #[.int .i64 (getB bs a 2), .bool true]) ∧ w = w' :=
  ref_Get (bs.drop a) 2 w (fun x hx => hb x (List.mem_of_mem_drop hx)) (by decide) (by decide) (by rw [List.length_drop]; omega) (by rw [List.length_drop]; omega)
theorem getB_one (bs : List Int) (a : Nat) (h : a < bs.length) : getB bs a 1 = bs.getD a 0 := by
  have e : bs.getD a 0 = bs[a]'h := by rw [List.getD_eq_getElem?_getD, List.getElem?_eq_getElem h]; rfl
  rw [e, getB, List.drop_eq_getElem_cons h]; show beVal [bs[a]] = bs[a]; simp [beVal]

attribute [local go_sem ↓] Go.wp_at_zero Go.wp_at_succ
set_option maxHeartbeats 1000000 in
set_option maxRecDepth 100000 in
theorem ref_Of_no (bs : List Int) (w : World) (hb : ∀ x ∈ bs, IsByte x) (hl : bs.length = 64) (hh : ofHead bs = false) :
    Calls Try.prog 120 #[secV bs] w (OfRes bs w) := by
  have hno : ofOk bs = false := by simp [ofOk, hh]
  have HNO := Lib.hid hno; clear hno
  have hcv := fun W hc => conv_str W w.heap.size 0 64 bs hc
  simp only [hl] at hcv
  simp only [secV]
  obtain ⟨x13, e13, b13a, b13b, h13⟩ := byte_getD hb 13 (by omega)
  have hq := head_map bs hb hl
  simp only [ofHead, e13] at hh
  have hsz := strA_size bs
  rw [hl] at hsz
  have hx2 := strA_extract bs 0 2
  have HCV := Lib.hid hcv; clear hcv
  have hkB : ∀ o1 o2, Kept w ((w.alloc o1).alloc o2) := fun o1 o2 => ((Kept.refl _).alloc o1).alloc o2
  have hnew : ∀ o1, Cells ((w.alloc o1).alloc (Obj.cells #[.int .i64 0, .int .i64 0, .int .i64 0, .int .i64 0, .slice none 0 0] 80)) (w.heap.size + 1) 0 [.int .i64 0, .int .i64 0, .int .i64 0, .int .i64 0, .slice none 0 0] := fun o1 => Cells.new (by simp) rfl
  clear hb hl e13
  by_cases hw : (bs.take 2 == [66, 87]) = true
  · rw [hw] at hq
    have h12 : 12 < x13 := by simpa [hw] using hh
    clear hh hw
    have hx3 : (strA (bs.take 2)).toList = List.take 2 (List.map (fun x => UInt8.ofNat x.toNat) bs) := by rw [← List.map_take]; exact strA_toList _
    go_enter Try.func120, Try.ntmps120
    go_wp2_with (refine stop_at (o := ⟨some 19, _, _, _, _, _⟩) ?_)
    refine Stop.mk ?_
    have hcv := HCV.out ((w.alloc (Obj.cells (u8s bs).toArray 34)).alloc (Obj.cells #[.int .i64 0, .int .i64 0, .int .i64 0, .int .i64 0, .slice none 0 0] 80)) (((Cells.of_block (heap_alloc_new w _))).kept ((Kept.refl _).alloc _))
    simp only [strV] at hcv
    go_wp2_with fail
    refine bodyPost_ret (results_lab rfl _ _ (w.heap.size + 1) Lab.zero (.slice none 0 0) rfl ?_) rfl ?_
    · exact hnew _
    · exact ⟨hkB _ _, .inr ⟨HNO.out, rfl⟩⟩
  · simp only [Bool.not_eq_true] at hw
    rw [hw] at hq
    clear hh hw
    have hx3 : (strA (bs.take 2)).toList = List.take 2 (List.map (fun x => UInt8.ofNat x.toNat) bs) := by rw [← List.map_take]; exact strA_toList _
    go_enter Try.func120, Try.ntmps120
    go_wp2_with (refine stop_at (o := ⟨some 19, _, _, _, _, _⟩) ?_)
    refine Stop.mk ?_
    have hcv := HCV.out ((w.alloc (Obj.cells (u8s bs).toArray 34)).alloc (Obj.cells #[.int .i64 0, .int .i64 0, .int .i64 0, .int .i64 0, .slice none 0 0] 80)) (((Cells.of_block (heap_alloc_new w _))).kept ((Kept.refl _).alloc _))
    simp only [strV] at hcv
    go_wp2_with fail
    refine bodyPost_ret (results_lab rfl _ _ (w.heap.size + 1) Lab.zero (.slice none 0 0) rfl ?_) rfl ?_
    · exact hnew _
    · exact ⟨hkB _ _, .inr ⟨HNO.out, rfl⟩⟩

set_option maxHeartbeats 1000000 in
set_option maxRecDepth 100000 in
theorem ref_Of_head (bs : List Int) (w : World) (hb : ∀ x ∈ bs, IsByte x) (hl : bs.length = 64) (hh : ofHead bs = true) :
    Calls Try.prog 120 #[secV bs] w (OfRes bs w) := by
  simp only [secV]
  obtain ⟨x13, e13, b13a, b13b, h13⟩ := byte_getD hb 13 (by omega)
  have hcv := fun W hc => conv_str W w.heap.size 0 64 bs hc
  simp only [hl] at hcv
  have hq := head_map bs hb hl
  have hhd := hh
  simp only [ofHead, e13, Bool.and_eq_true, decide_eq_true_eq] at hhd
  rw [hhd.1] at hq
  have hn := hhd.2
  clear hhd
  have hsz := strA_size bs
  rw [hl] at hsz
  have hx2 := strA_extract bs 0 2
  have hx3 : (strA (bs.take 2)).toList = List.take 2 (List.map (fun x => UInt8.ofNat x.toNat) bs) := by rw [← List.map_take]; exact strA_toList _
  have hf2 := strA_from bs 2 64 hl
  have hf6 := strA_from bs 6 64 hl
  have hf11 := strA_from bs 11 64 hl
  have HFR := Lib.hid fun i => strA_from bs i 64 hl
  have HCV := Lib.hid hcv; clear hcv
  have g10 := getB_one bs 10 (by omega)
  have h10 := getD_u8s bs 10 (by omega)
  rw [← g10] at h10
  have b10 := hb _ (List.getElem_mem (show 10 < bs.length by omega))
  have e10 : bs.getD 10 0 = bs[10] := by rw [List.getD_eq_getElem?_getD, List.getElem?_eq_getElem (by omega)]; rfl
  rw [← e10, ← g10] at b10
  obtain ⟨b10a, b10b⟩ := b10
  clear e10 g10
  have HB := Lib.hid hb; clear hb
  have HL := Lib.hid hl; clear hl
  have E13 := Lib.hid e13; clear e13
  have HH := Lib.hid hh; clear hh
  obtain ⟨n, rfl⟩ := Int.eq_ofNat_of_zero_le b13a
  go_enter Try.func120, Try.ntmps120
  go_wp2_with (refine stop_at (o := ⟨some 19, _, _, _, _, _⟩) ?_)
  refine Stop.mk ?_
  have hcv := HCV.out ((w.alloc (Obj.cells (u8s bs).toArray 34)).alloc (Obj.cells #[.int .i64 0, .int .i64 0, .int .i64 0, .int .i64 0, .slice none 0 0] 80)) (((Cells.of_block (heap_alloc_new w _))).kept ((Kept.refl _).alloc _))
  simp only [strV] at hcv
  go_wp2_with fail
  refine Calls.mono (ref_Get4 bs 2 _ HB.out HL.out (by omega)) ?_
  rintro e w' ⟨rfl, rfl⟩
  go_wp2_with fail
  refine Calls.mono (ref_Get4 bs 6 _ HB.out HL.out (by omega)) ?_
  rintro e w' ⟨rfl, rfl⟩
  go_wp2_with fail
  refine Calls.mono (ref_Get2 bs 11 _ HB.out HL.out (by omega)) ?_
  rintro e w' ⟨rfl, rfl⟩
  clear hx2 hx3 hq hf2 hf6 hf11 hcv
  go_wp2_with fail
  go_loopw [12] (fun i wr => ∃ k : Nat, ∃ sl, k ≤ n ∧ i = .int .i64 (k : Int) ∧ Kept w wr ∧ w.heap.size + 3 ≤ wr.heap.size ∧
    wr.heap[w.heap.size]? = some (.cells (u8s bs).toArray 34 (0, 0)) ∧
    wr.heap[w.heap.size + 1]? = some (.cells #[.int .i64 0, .int .i64 0, .int .i64 0, .int .i64 0, .slice none 0 0] 80 (0, 0)) ∧
    wr.heap[w.heap.size + 1 + 1]? = some (.cells #[.int .i64 (getB bs 2 4), .int .i64 (getB bs 6 4), .int .i64 (getB bs 10 1), .int .i64 (getB bs 11 2), sl] 80 (0, 0)) ∧
    wr.ownsRow (w.heap.size + 3) 160 3 sl k (mvals (parseMs bs k))) (fun a _ => (100 - intOf a).toNat)
  case atStart =>
    refine ⟨0, .slice none 0 0, by omega, by simp, (((Kept.refl _).alloc _).alloc _).alloc _, by simp, ?_, ?_, ?_, World.ownsRow_nil _ _ _ _⟩
    · exact (((Kept.refl (w.alloc _)).alloc _).alloc _).block (heap_alloc_new w _)
    · have := ((Kept.refl ((w.alloc (Obj.cells (u8s bs).toArray 34)).alloc _)).alloc (Obj.cells #[.int .i64 (getB bs 2 4), .int .i64 (getB bs 6 4), .int .i64 (getB bs 10 1), .int .i64 (getB bs 11 2), .slice none 0 0] 80)).block (heap_alloc_new (w.alloc (Obj.cells (u8s bs).toArray 34)) (Obj.cells #[.int .i64 0, .int .i64 0, .int .i64 0, .int .i64 0, .slice none 0 0] 80))
      rw [World.size_alloc] at this
      exact this
    · have := heap_alloc_new ((w.alloc (Obj.cells (u8s bs).toArray 34)).alloc (Obj.cells #[.int .i64 0, .int .i64 0, .int .i64 0, .int .i64 0, .slice none 0 0] 80)) (Obj.cells #[.int .i64 (getB bs 2 4), .int .i64 (getB bs 6 4), .int .i64 (getB bs 10 1), .int .i64 (getB bs 11 2), .slice none 0 0] 80)
      rw [World.size_alloc, World.size_alloc] at this
      exact this
  case round =>
    obtain ⟨k, sl, hk, rfl, hkw, hsz, hzs, hz0, hz1, hown⟩ := hrel
    have hcs : Cells wr w.heap.size 0 (u8s bs) := by simpa using Cells.of_block hzs
    have HCS := Lib.hid hcs; clear hcs
    have HZS := Lib.hid hzs; clear hzs
    have HZ0 := Lib.hid hz0; clear hz0
    have HZ1 := Lib.hid hz1; clear hz1
    have HO := Lib.hid hown; clear hown
    have hs1 : w.heap.size + 1 + 1 < wr.heap.size := by omega
    have c4 : wr.cell? ⟨w.heap.size + 1 + 1, 4, none⟩ = some sl := by rw [cell_of_row _ _ _ _ _ _ HZ1.out]; rfl
    have c13 : wr.cell? ⟨w.heap.size, 13, none⟩ = some (.int .u8 n) := by rw [cell_of_row _ _ _ _ _ _ HZS.out]; simpa using h13
    clear h13 h10
    by_cases hlt : k < n
    · obtain ⟨A, hA⟩ : ∃ A : Nat, A = 14 + 4 * k := ⟨_, rfl⟩
      have hAk : (14 : Int) + 4 * (k : Int) = (A : Int) := by omega
      have hA64 : A + 4 ≤ 64 := by omega
      have hxA := HFR.out (A + 1)
      have hA1 : (A : Int) < 64 := by omega
      have hA3 : (A : Int) + 3 < 64 := by omega
      have hA30 : 0 ≤ (A : Int) + 3 := by omega
      have hw3 : IntKind.i64.wrap ((A : Int) + 3) = (A : Int) + 3 := IntWalk.i64_in _ (by omega)
      have htn : ((A : Int) + 3).toNat = A + 3 := by omega
      obtain ⟨y0, f0, y0a, y0b, q0⟩ := byte_getD HB.out A (by have := HL.out; omega)
      obtain ⟨y3, f3, y3a, y3b, q3⟩ := byte_getD HB.out (A + 3) (by have := HL.out; omega)
      have hAc : wr.cell? ⟨w.heap.size, A, none⟩ = some (.int .u8 y0) := by rw [cell_of_row _ _ _ _ _ _ HZS.out]; simpa using q0
      have hAd : wr.cell? ⟨w.heap.size, A + 3, none⟩ = some (.int .u8 y3) := by rw [cell_of_row _ _ _ _ _ _ HZS.out]; simpa using q3
      clear q0 q3
      have G0 : Hid (getB bs A 1 = y0) := Lib.hid (by rw [getB_one bs A (by have := HL.out; omega), f0])
      have G3 : Hid (getB bs (A + 3) 1 = y3) := Lib.hid (by rw [getB_one bs (A + 3) (by have := HL.out; omega), f3])
      clear f0 f3
      have HA := Lib.hid (fun o => ownsRow_kept HO.out (((Kept.refl wr).alloc o).drew))
      have HSr := Lib.hid (fun (a b c : Int) (t : Nat) => Src.of_cells (n := 1) (c := 1) (size := 3) (Cells.kept (Cells.new (w := wr) (c := #[.int .i64 a, .int .i64 b, .int .i64 c]) (t := t) (fr := (0, 0)) rfl rfl) ((Kept.refl _).drew)) rfl (Nat.le_refl _))
      have HK := Lib.hid hkw; clear hkw
      have HAA := Lib.hid hA; clear hA
      go_wp2_with fail
      refine Calls.mono (ref_Get2 bs (A + 1) _ HB.out HL.out (by omega)) ?_
      rintro e w' ⟨rfl, rfl⟩
      go_upto_region 13 with fail
      have hZ : ∀ o w', Below (w.heap.size + 3) ((wr.alloc o).drew) w' → w'.heap[w.heap.size + 1 + 1]? = some (.cells #[.int .i64 (getB bs 2 4), .int .i64 (getB bs 6 4), .int .i64 (getB bs 10 1), .int .i64 (getB bs 11 2), sl] 80 (0, 0)) := by
        intro o w' h
        rw [h.block _ (by omega)]
        exact (((Kept.refl wr).alloc o).drew).block HZ1.out
      have hZ4 : ∀ o w', Below (w.heap.size + 3) ((wr.alloc o).drew) w' → w'.cell? ⟨w.heap.size + 1 + 1, 4, none⟩ = some sl ∧ w'.frozen? ⟨w.heap.size + 1 + 1, 4, none⟩ = false := fun o w' h =>
        ⟨(cell_of_row _ _ _ _ _ _ (hZ o w' h)).trans rfl, frozen_of_row _ _ _ _ _ (hZ o w' h)⟩
      have HZ := Lib.hid hZ; clear hZ
      have HZ4 := Lib.hid hZ4; clear hZ4
      have hS : wr.drew.cell? ⟨w.heap.size + 1 + 1, 4, none⟩ = some sl ∧ wr.drew.cell? ⟨w.heap.size, A, none⟩ = some (.int .u8 y0) ∧ wr.drew.cell? ⟨w.heap.size, A + 3, none⟩ = some (.int .u8 y3) := ⟨by simpa using c4, by simpa using hAc, by simpa using hAd⟩
      have hS1 := Lib.hid (fun W (hk : Kept wr W) => (show W.cell? ⟨w.heap.size + 1 + 1, 4, none⟩ = some sl ∧ W.cell? ⟨w.heap.size, A, none⟩ = some (.int .u8 y0) ∧ W.cell? ⟨w.heap.size, A + 3, none⟩ = some (.int .u8 y3) from ⟨hk.cell' c4, hk.cell' hAc, hk.cell' hAd⟩))
      have hS2 := Lib.hid (fun o W (hb : Below (w.heap.size + 3) ((wr.alloc o).drew) W) (h4 : W.cell? ⟨w.heap.size + 1 + 1, 4, none⟩ = some sl) => (show W.cell? ⟨w.heap.size + 1 + 1, 4, none⟩ = some sl ∧ W.cell? ⟨w.heap.size, A, none⟩ = some (.int .u8 y0) ∧ W.cell? ⟨w.heap.size, A + 3, none⟩ = some (.int .u8 y3) from
        ⟨h4, (hb.cell (by simp)).trans ((((Kept.refl wr).alloc o).drew).cell' hAc), (hb.cell (by simp)).trans ((((Kept.refl wr).alloc o).drew).cell' hAd)⟩))
      clear c4 c13 hAc hAd
      refine wp_region_calm ?_
      refine wp_region_E (fun W => W.cell? ⟨w.heap.size + 1 + 1, 4, none⟩ = some sl ∧ W.cell? ⟨w.heap.size, A, none⟩ = some (.int .u8 y0) ∧ W.cell? ⟨w.heap.size, A + 3, none⟩ = some (.int .u8 y3)) 16 (by kernel_rfl) ?_
      refine wpAnyE_take (i := 0) (v := ?_) (listed' := #[true, false, false, false, false, false, false, false, false, false, false, false, false, false, false, false, false]) (by rfl) (by kernel_rfl) (by kernel_rfl) calm_put hS (by rfl) ?_ ?_
      rotate_left
      · intro W hW; clear hW; go_simp; try (with_reducible rfl)
      simp only [Act.put, List.getElem_toArray, List.getElem_cons_succ, List.getElem_cons_zero, List.setIfInBounds_toArray, List.set_cons_zero, List.set_cons_succ]
      refine wpAnyE_take (i := 1) (v := ?_) (listed' := #[true, true, false, false, false, false, false, false, false, false, false, false, false, false, false, false, false]) (by rfl) (by kernel_rfl) (by kernel_rfl) calm_put hS (by rfl) ?_ ?_
      rotate_left
      · intro W hW; obtain ⟨s4, sA, sD⟩ := hW; go_simp; try (with_reducible rfl)
      simp only [Act.put, List.getElem_toArray, List.getElem_cons_succ, List.getElem_cons_zero, List.setIfInBounds_toArray, List.set_cons_zero, List.set_cons_succ]
      refine wpAnyE_take (i := 2) (v := ?_) (listed' := #[true, true, true, false, false, false, false, false, false, false, false, false, false, false, false, false, false]) (by rfl) (by kernel_rfl) (by kernel_rfl) calm_put hS (by rfl) ?_ ?_
      rotate_left
      · intro W hW; clear hW; go_simp; try (with_reducible rfl)
      simp only [Act.put, List.getElem_toArray, List.getElem_cons_succ, List.getElem_cons_zero, List.setIfInBounds_toArray, List.set_cons_zero, List.set_cons_succ]
      refine wpAnyE_take (i := 3) (v := ?_) (listed' := #[true, true, true, true, false, false, false, false, false, false, false, false, false, false, false, false, false]) (by rfl) (by kernel_rfl) (by kernel_rfl) calm_put hS (by rfl) ?_ ?_
      rotate_left
      · intro W hW; clear hW; go_simp; try (with_reducible rfl)
      simp only [Act.put, List.getElem_toArray, List.getElem_cons_succ, List.getElem_cons_zero, List.setIfInBounds_toArray, List.set_cons_zero, List.set_cons_succ]
      refine wpAnyE_take (i := 4) (v := ?_) (listed' := #[true, true, true, true, true, false, false, false, false, false, false, false, false, false, false, false, false]) (by rfl) (by kernel_rfl) (by kernel_rfl) calm_put hS (by rfl) ?_ ?_
      rotate_left
      · intro W hW; obtain ⟨s4, sA, sD⟩ := hW; go_simp; try (with_reducible rfl)
      simp only [Act.put, List.getElem_toArray, List.getElem_cons_succ, List.getElem_cons_zero, List.setIfInBounds_toArray, List.set_cons_zero, List.set_cons_succ]
      refine wpAnyE_take (i := 5) (v := ?_) (listed' := #[true, true, true, true, true, true, false, false, false, false, false, false, false, false, false, false, false]) (by rfl) (by kernel_rfl) (by kernel_rfl) calm_put hS (by rfl) ?_ ?_
      rotate_left
      · intro W hW; clear hW; go_simp; try (with_reducible rfl)
      simp only [Act.put, List.getElem_toArray, List.getElem_cons_succ, List.getElem_cons_zero, List.setIfInBounds_toArray, List.set_cons_zero, List.set_cons_succ]
      refine wpAnyE_take (i := 6) (v := ?_) (listed' := #[true, true, true, true, true, true, true, false, false, false, false, false, false, false, false, false, false]) (by rfl) (by kernel_rfl) (by kernel_rfl) calm_put hS (by rfl) ?_ ?_
      rotate_left
      · intro W hW; clear hW; go_simp; try (with_reducible rfl)
      simp only [Act.put, List.getElem_toArray, List.getElem_cons_succ, List.getElem_cons_zero, List.setIfInBounds_toArray, List.set_cons_zero, List.set_cons_succ]
      refine wpAnyE_take (i := 7) (v := ?_) (listed' := #[true, true, true, true, true, true, true, true, false, false, false, false, false, false, false, false, false]) (by rfl) (by kernel_rfl) (by kernel_rfl) calm_put hS (by rfl) ?_ ?_
      rotate_left
      · intro W hW; clear hW; go_simp; try (with_reducible rfl)
      simp only [Act.put, List.getElem_toArray, List.getElem_cons_succ, List.getElem_cons_zero, List.setIfInBounds_toArray, List.set_cons_zero, List.set_cons_succ]
      refine wpAnyE_take (i := 8) (v := ?_) (listed' := #[true, true, true, true, true, true, true, true, true, false, false, false, false, false, false, false, false]) (by rfl) (by kernel_rfl) (by kernel_rfl) calm_put hS (by rfl) ?_ ?_
      rotate_left
      · intro W hW; clear hW; go_simp; try (with_reducible rfl)
      simp only [Act.put, List.getElem_toArray, List.getElem_cons_succ, List.getElem_cons_zero, List.setIfInBounds_toArray, List.set_cons_zero, List.set_cons_succ]
      refine wpAnyE_take (i := 9) (v := ?_) (listed' := #[true, true, true, true, true, true, true, true, true, true, false, false, false, false, false, false, false]) (by rfl) (by kernel_rfl) (by kernel_rfl) calm_put hS (by rfl) ?_ ?_
      rotate_left
      · intro W hW; clear hW; go_simp; try (with_reducible rfl)
      simp only [Act.put, List.getElem_toArray, List.getElem_cons_succ, List.getElem_cons_zero, List.setIfInBounds_toArray, List.set_cons_zero, List.set_cons_succ]
      refine wpAnyE_take (i := 10) (v := ?_) (listed' := #[true, true, true, true, true, true, true, true, true, true, true, false, false, false, false, false, false]) (by rfl) (by kernel_rfl) (by kernel_rfl) calm_put hS (by rfl) ?_ ?_
      rotate_left
      · intro W hW; obtain ⟨s4, sA, sD⟩ := hW; go_simp; try (with_reducible rfl)
      simp only [Act.put, List.getElem_toArray, List.getElem_cons_succ, List.getElem_cons_zero, List.setIfInBounds_toArray, List.set_cons_zero, List.set_cons_succ]
      refine wpAnyE_take (i := 11) (v := ?_) (listed' := #[true, true, true, true, true, true, true, true, true, true, true, true, false, false, false, false, false]) (by rfl) (by kernel_rfl) (by kernel_rfl) calm_put hS (by rfl) ?_ ?_
      rotate_left
      · intro W hW; clear hW; go_simp; try (with_reducible rfl)
      simp only [Act.put, List.getElem_toArray, List.getElem_cons_succ, List.getElem_cons_zero, List.setIfInBounds_toArray, List.set_cons_zero, List.set_cons_succ]
      refine wpAnyE_take (i := 12) (v := ?_) (listed' := #[true, true, true, true, true, true, true, true, true, true, true, true, true, false, false, false, false]) (by rfl) (by kernel_rfl) (by kernel_rfl) calm_put hS (by rfl) ?_ ?_
      rotate_left
      · intro W hW; clear hW; go_simp; try (with_reducible rfl)
      simp only [Act.put, List.getElem_toArray, List.getElem_cons_succ, List.getElem_cons_zero, List.setIfInBounds_toArray, List.set_cons_zero, List.set_cons_succ]
      refine wpAnyE_one (i := 13) (listed' := #[true, true, true, true, true, true, true, true, true, true, true, true, true, true, false, false, false]) (by rfl) (by kernel_rfl) (by kernel_rfl) (by rfl) (fun K hK => ?_)
      simp only [Act.put, List.getElem_toArray, List.getElem_cons_succ, List.getElem_cons_zero, List.setIfInBounds_toArray, List.set_cons_zero, List.set_cons_succ]
      go_wp2
      refine hK _ _ (fun _ => hS1.out _ ((((Kept.refl wr).alloc _).drew))) ?_; clear hK K
      refine wpAnyE_one (i := 14) (listed' := #[true, true, true, true, true, true, true, true, true, true, true, true, true, true, true, false, false]) (by rfl) (by kernel_rfl) (by kernel_rfl) (by rfl) (fun K hK => ?_)
      simp only [Act.put, List.getElem_toArray, List.getElem_cons_succ, List.getElem_cons_zero, List.setIfInBounds_toArray, List.set_cons_zero, List.set_cons_succ]
      refine wp_append_app _ _ (by rfl) ty_mems (w.heap.size + 3) sl k (mvals (parseMs bs k)) (by rfl) (.inl (HA.out _)) _ 1 _ (by rfl) (HSr.out _ _ _ _) (by intro u hu; simp at hu; rcases hu with rfl | rfl | rfl <;> rfl) (by simp only [maxLen]; omega) (by omega) (by simp; omega) ?_
      intro v' w' _ _ hbw hown'
      obtain ⟨d4, f4⟩ := HZ4.out _ _ hbw
      have hS := hS2.out _ _ hbw d4
      have ho1 := hown' (.inl (by omega))
      clear hown'
      obtain ⟨g, cp, rfl, _, _⟩ := ho1.form (by omega)
      have HO' := Lib.hid ho1
      clear ho1
      refine hK _ _ (fun _ => hS) ?_; clear hK K
      clear hS1 hS2
      refine wpAnyE_take (i := 15) (v := ?_) (listed' := #[true, true, true, true, true, true, true, true, true, true, true, true, true, true, true, true, false]) (by rfl) (by kernel_rfl) (by kernel_rfl) calm_put hS (by rfl) ?_ ?_
      rotate_left
      · intro W hW; clear hW; go_simp; try (with_reducible rfl)
      simp only [Act.put, List.getElem_toArray, List.getElem_cons_succ, List.getElem_cons_zero, List.setIfInBounds_toArray, List.set_cons_zero, List.set_cons_succ]
      refine wpAnyE_one (i := 16) (listed' := #[true, true, true, true, true, true, true, true, true, true, true, true, true, true, true, true, true]) (by rfl) (by kernel_rfl) (by kernel_rfl) (by rfl) (fun K hK => ?_)
      simp only [Act.put, List.getElem_toArray, List.getElem_cons_succ, List.getElem_cons_zero, List.setIfInBounds_toArray, List.set_cons_zero, List.set_cons_succ]
      go_wp2
      refine hK _ _ (fun h => absurd rfl h) ?_; clear hK K
      refine wpAnyE_done (by kernel_rfl) ?_ _
      refine calm_normal ?_
      go_wp2
      go_roundw
      case measure => simp [intOf]; omega
      have z : Kept w w' := ((HK.out.trans ((Kept.refl wr).alloc _)).drew).below (by omega) hbw
      have hzw := HZ.out _ _ hbw
      have k3 : ∀ j, j < w.heap.size + 3 → w'.heap[j]? = wr.heap[j]? := fun j hj => by
        rw [hbw.block j hj]
        exact (((Kept.refl wr).alloc _).drew).block_eq (by omega)
      have hkl : w.heap.size + 3 ≤ w'.heap.size := by have := Below.size hbw; simp at this; omega
      refine ⟨k + 1, _, by omega, by go_num, z.setCell (by simp; omega) _, by simpa using hkl, ?_, ?_, heap_setCell_same w' _ 4 _ _ _ hzw, ?_⟩
      · rw [heap_setCell_other _ _ _ _ (by simp; omega), k3 _ (by omega)]; exact HZS.out
      · rw [heap_setCell_other _ _ _ _ (by simp), k3 _ (by omega)]; exact HZ0.out
      · refine ownsRow_setCell_below ?_ (by simp) _
        rw [parseMs_next, mvals_append]
        have e : mvals [memAt bs k] = [.int .i64 y0, .int .i64 (getB bs (A + 1) 2), .int .i64 y3] := by
          simp only [mvals, memAt, Mem.vals, List.flatMap_cons, List.flatMap_nil, List.append_nil]
          have := HAA.out
          rw [show 15 + 4 * k = A + 1 by omega, show 17 + 4 * k = A + 3 by omega, show 14 + 4 * k = A by omega, G0.out, G3.out]
        rw [e]
        exact HO'.out
    · have hkn : k = n := by omega
      have hP : parse bs = ⟨getB bs 2 4, getB bs 6 4, getB bs 10 1, getB bs 11 2, parseMs bs k⟩ := by
        rw [parse, E13.out, hkn]; simp
      have hms : MSl wr sl (parseMs bs k) := MSl.of_owns (by rw [parseMs_length]; exact HO.out)
      have hput := fun W (hk : Kept wr W) => ref_LPut (parse bs) sl W (by rw [hP]; simp [parseMs_length]; omega) (by rw [hP]; exact hms.kept hk)
      have hslen : (putSec (parse bs)).length = 64 := by
        unfold putSec
        split
        · exact Lab.sec_length (parse bs) (by rw [hP]; simp [parseMs_length]; omega)
        · exact zeroB_length
      have hok : ofOk bs = (decide (putErr (parse bs) = 0) && (putSec (parse bs) == bs)) := by
        simp only [ofOk, HH.out, putErr, putSec, Bool.true_and]
        by_cases h : rightB (parse bs) = true <;> simp [h]
      have herr : putErr (parse bs) = 0 ∨ putErr (parse bs) = 1 := by
        unfold putErr; split <;> simp
      have hval : (parse bs).val sl = .agg #[.int .i64 (getB bs 2 4), .int .i64 (getB bs 6 4), .int .i64 (getB bs 10 1), .int .i64 (getB bs 11 2), sl] := by rw [hP]; rfl
      rw [hval] at hput
      have HVAL := Lib.hid hval; clear hval
      have HP := Lib.hid hP; clear hP
      have HMS := Lib.hid hms; clear hms
      have HPut := Lib.hid hput; clear hput
      have HOK := Lib.hid hok; clear hok
      have HONE := Lib.hid (lab_one ⟨getB bs 2 4, getB bs 6 4, getB bs 10 1, getB bs 11 2, parseMs bs k⟩ sl HMS.out.one)
      have hq := run_equal_secA (putSec (parse bs)) bs hslen HL.out
      have HSL := Lib.hid hslen; clear hslen
      have HQ := Lib.hid hq; clear hq
      have heqg := eqg_sec
      have HEQG := Lib.hid heqg; clear heqg
      have HLT : Hid (∀ g' cap, sl = .slice (some ⟨g', 0, none⟩) k cap → ∀ w2 : World, wr.heap.size ≤ w2.heap.size → g' ≠ w2.heap.size) := Lib.hid (fun g' cap e w2 h => by
        rcases owns_form HO.out with ⟨rfl, _⟩ | ⟨g, cp, rfl, _, hg, _⟩
        · cases e
        · cases e; omega)
      have HK := Lib.hid hkw; clear hkw
      have hlt' : ¬ ((k : Int) < (n : Int)) := by omega
      generalize putSec (parse bs) = sec at *
      generalize putErr (parse bs) = er at *
      clear c4 hkn
      go_wp2_with (refine stop_at (o := ⟨some 90, _, _, _, _, _⟩) ?_)
      refine Stop.mk ?_
      refine wpList_load_agg rfl _ rfl ty_lab (w.heap.size + 1 + 1) 0 rfl [.int .i64 (getB bs 2 4), .int .i64 (getB bs 6 4), .int .i64 (getB bs 10 1), .int .i64 (getB bs 11 2), sl] (by simpa using Cells.of_block HZ1.out) rfl ?_
      go_wp2_with fail
      refine Calls.mono (HPut.out _ (Kept.refl _)) ?_
      rintro e w2 ⟨rfl, hk2⟩
      go_wp2_with (refine stop_at (o := ⟨some 16, _, _, _, _, _⟩) ?_)
      refine Stop.mk ?_
      refine wpList_alloc_abs rfl 34 rfl (u8s zeroB) zero_sec ?_
      intro w3 hz3 hs3 hn3 hk3
      have hs4 := hk2.size
      go_wp2_with (refine stop_at (o := ⟨none, .store _ _ _, _, _, _, _⟩) ?_)
      refine Stop.mk ?_
      refine wpList_store_agg rfl _ _ rfl ty_sec w2.heap.size 0 rfl (u8s sec) rfl (by rw [u8s_length, HSL.out]) (u8s_one _) (u8s zeroB) 34 hz3.out (by simp [u8s_length, zeroB_length]) ?_
      intro w4 hw4
      have hz4 := (hw4.oth (w.heap.size + 1) (by omega)).trans (hk3.block (hk2.block HZ0.out))
      have hz5 := (hw4.oth (w.heap.size + 1 + 1) (by omega)).trans (hk3.block (hk2.block HZ1.out))
      have hz6 := (hw4.oth w.heap.size (by omega)).trans (hk3.block (hk2.block HZS.out))
      have hw5 := hw4.all (by rw [u8s_length, u8s_length, HSL.out, zeroB_length])
      have HZ4 := Lib.hid hz4; have HZ5 := Lib.hid hz5; have HZ6 := Lib.hid hz6; clear hz4 hz5 hz6
      have hs5 := hk3.size
      have hs6 := hw4.size
      have hkw4 : Kept w w4 := hw4.kept (HK.out.trans (hk2.trans hk3)) (by omega)
      have HW4 := Lib.hid hw4; clear hw4
      by_cases her : er = 0
      · subst her
        go_wp2_with (refine stop_at (o := ⟨some 97, _, _, _, _, _⟩) ?_)
        refine Stop.mk ?_
        refine wpList_load_aggW _ rfl ty_sec w2.heap.size 0 rfl (u8s sec) hw5.cells (by rw [u8s_length, HSL.out]) rfl ?_
        go_wp2_with (refine stop_at (o := ⟨some 98, _, _, _, _, _⟩) ?_)
        refine Stop.mk ?_
        refine wpList_load_aggW _ rfl ty_sec w.heap.size 0 rfl (u8s bs) (by simpa using Cells.of_block HZ6.out) (by rw [u8s_length, HL.out]) rfl ?_
        have hq := HQ.out
        have heqg := HEQG.out
        by_cases hse : (sec == bs) = true
        · rw [hse] at hq
          go_wp2_with (refine stop_at (o := ⟨some 102, _, _, _, _, _⟩) ?_)
          refine Stop.mk ?_
          refine wpList_load_agg rfl _ rfl ty_lab (w.heap.size + 1 + 1) 0 rfl [.int .i64 (getB bs 2 4), .int .i64 (getB bs 6 4), .int .i64 (getB bs 10 1), .int .i64 (getB bs 11 2), sl] (by simpa using Cells.of_block HZ5.out) rfl ?_
          go_wp2_with (refine stop_at (o := ⟨none, .store _ _ _, _, _, _, _⟩) ?_)
          refine Stop.mk ?_
          refine wpList_store_agg rfl _ _ rfl ty_lab (w.heap.size + 1) 0 rfl [.int .i64 (getB bs 2 4), .int .i64 (getB bs 6 4), .int .i64 (getB bs 10 1), .int .i64 (getB bs 11 2), sl] rfl rfl HONE.out [.int .i64 0, .int .i64 0, .int .i64 0, .int .i64 0, .slice none 0 0] 80 HZ4.out (by decide) ?_
          intro w6 hw6
          replace hw6 := hw6.all rfl
          have hkf : Kept w w6 := hw6.kept hkw4 (by omega)
          go_wp2_with fail
          refine bodyPost_ret (results_lab rfl _ _ (w.heap.size + 1) ⟨getB bs 2 4, getB bs 6 4, getB bs 10 1, getB bs 11 2, parseMs bs k⟩ sl rfl hw6.cells) rfl ?_
          refine ⟨hkf, .inl ⟨by rw [HOK.out]; simpa using hse, sl, by rw [HP.out]; rfl, ?_⟩⟩
          have ho2 := ownsRow_kept (ownsRow_kept HO.out hk2) hk3
          have ho3 := ownsRow_wrote hw6 (ownsRow_wrote_up HW4.out ho2 (fun g' cap e => HLT.out g' cap e w2 hs4)) (by omega)
          rw [HP.out]
          exact MSl.of_owns (by rw [parseMs_length]; exact ho3)
        · have hse' : (sec == bs) = false := by simpa using hse
          rw [hse'] at hq
          go_wp2_with (refine stop_at (o := ⟨none, .store _ _ _, _, _, _, _⟩) ?_)
          refine Stop.mk ?_
          refine wpList_store_agg rfl _ _ rfl ty_lab (w.heap.size + 1) 0 rfl [.int .i64 0, .int .i64 0, .int .i64 0, .int .i64 0, .slice none 0 0] rfl rfl (lab_one Lab.zero (.slice none 0 0) rfl) [.int .i64 0, .int .i64 0, .int .i64 0, .int .i64 0, .slice none 0 0] 80 HZ4.out (by decide) ?_
          intro w6 hw6
          replace hw6 := hw6.all rfl
          have hkf : Kept w w6 := hw6.kept hkw4 (by omega)
          go_wp2_with fail
          refine bodyPost_ret (results_lab rfl _ _ (w.heap.size + 1) Lab.zero (.slice none 0 0) rfl hw6.cells) rfl ?_
          exact ⟨hkf, .inr ⟨by rw [HOK.out]; simpa using hse', rfl⟩⟩
      · obtain rfl : er = 1 := by rcases herr with h | h; exact absurd h her; exact h
        go_wp2_with (refine stop_at (o := ⟨none, .store _ _ _, _, _, _, _⟩) ?_)
        refine Stop.mk ?_
        refine wpList_store_agg rfl _ _ rfl ty_lab (w.heap.size + 1) 0 rfl [.int .i64 0, .int .i64 0, .int .i64 0, .int .i64 0, .slice none 0 0] rfl rfl (lab_one Lab.zero (.slice none 0 0) rfl) [.int .i64 0, .int .i64 0, .int .i64 0, .int .i64 0, .slice none 0 0] 80 HZ4.out (by decide) ?_
        intro w6 hw6
        replace hw6 := hw6.all rfl
        have hkf : Kept w w6 := hw6.kept hkw4 (by omega)
        go_wp2_with fail
        refine bodyPost_ret (results_lab rfl _ _ (w.heap.size + 1) Lab.zero (.slice none 0 0) rfl hw6.cells) rfl ?_
        exact ⟨hkf, .inr ⟨by rw [HOK.out]; rfl, rfl⟩⟩
/-- Of, of any sector. -/
theorem ref_Of (bs : List Int) (w : World) (hb : ∀ x ∈ bs, IsByte x) (hl : bs.length = 64) : Calls Try.prog 120 #[secV bs] w (OfRes bs w) := by
  cases hh : ofHead bs with
  | true => exact ref_Of_head bs w hb hl hh
  | false => exact ref_Of_no bs w hb hl hh
/-- what Of tells -/
def ofLab (bs : List Int) : Lab := if ofOk bs then parse bs else Lab.zero
def ofErr (bs : List Int) : Int := if ofOk bs then 0 else 2
theorem OfRes.tells {bs : List Int} {w : World} {e : Ending} {w' : World} (h : OfRes bs w e w') : ∃ sl, e = .returned (.tuple #[(ofLab bs).val sl, .int .i64 (ofErr bs)]) ∧ MSl w' sl (ofLab bs).ms ∧ Kept w w' := by
  obtain ⟨hk, ⟨h, sl, he, hm⟩ | ⟨h, he⟩⟩ := h
  · exact ⟨sl, by simp [ofLab, ofErr, h, he], by simpa [ofLab, h] using hm, hk⟩
  · exact ⟨.slice none 0 0, by simp [ofLab, ofErr, h, he], .inl ⟨by simp [ofLab, h, Lab.zero], rfl⟩, hk⟩
end Go.Proofs.Ytglplhmclfekfaa
