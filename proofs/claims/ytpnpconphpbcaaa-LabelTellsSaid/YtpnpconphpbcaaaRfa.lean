/- The document's numbers in strings: ref01.most, may, Put, Get. -/
import Derived.Test.YtpnpconphpbcaaaLabE
import Derived.Test.YtpnpconphpbcaaaRule
import Derived.OwnWalk
namespace Go.Proofs.Ytpnpconphpbcaaa
open Go.RowKit
set_option linter.unusedVariables false
set_option linter.unusedSimpArgs false

/-- a string of these bytes -/
def strA (l : List Int) : ByteArray := ⟨(l.map fun x => UInt8.ofNat x.toNat).toArray⟩
def strV (l : List Int) : Value := .string (strA l)
theorem strA_size (l : List Int) : (strA l).size = l.length := by simp [strA, ByteArray.size]
theorem strA_append (a b : List Int) : strA a ++ strA b = strA (a ++ b) := by
  apply ByteArray.ext
  simp [strA, ByteArray.data_append]
theorem conv_str (W : World) (b off c : Nat) (l : List Int) (hc : Cells W b off (u8s l)) :
    (convert 63 9 (.slice (some ⟨b, off, none⟩) l.length c)).run Try.prog W = .ok (strV l) W := by
  rw [run_convert_bytes_string (P := Try.prog) W 63 9 5 (some ⟨b, off, none⟩) l.length c Try.underlying63 Try.underlying5 Try.underlying9]
  rw [run_bytesToString W ⟨b, off, none⟩ l.length c l]
  · have : ∀ (l : List Int) (a : Array UInt8), List.foldl (fun s x => ByteArray.push s (UInt8.ofNat x.toNat)) ⟨a⟩ l = ⟨a ++ (l.map fun x => UInt8.ofNat x.toNat).toArray⟩ := by
      intro l
      induction l with
      | nil => intro a; simp
      | cons x l ih => intro a; rw [List.foldl_cons, show ByteArray.push ⟨a⟩ (UInt8.ofNat x.toNat) = ⟨a.push (UInt8.ofNat x.toNat)⟩ from rfl, ih]; simp
    first
    | (simp [strV, strA, this]; done)
    | (have h := this l #[]; simp only [Array.empty_append] at h; simp only [strV, strA]; exact congrArg (fun x => Result.ok (Value.string x) W) h)
  · have := run_loadCells_list (P := Try.prog) W ⟨b, off, none⟩ (u8s l) fun j v hv => by
      obtain ⟨hj, rfl⟩ := List.getElem?_eq_some_iff.1 hv
      have := hc j hj
      rcases j with _ | j
      · simpa [Addr.add] using this
      · simpa [Addr.add] using this
    rw [u8s_length] at this
    simpa [u8s] using this
theorem strA_get {l : List Int} {i : Nat} (hi : i < l.length) (h : i < (strA l).size) (hb : IsByte l[i]) : (((strA l)[i]'h).toNat : Int) = l[i] := by
  obtain ⟨h0, h1⟩ := hb
  have : (strA l)[i]'h = UInt8.ofNat l[i].toNat := by
    rw [show (strA l)[i]'h = (strA l).data[i]'h from rfl]
    simp [strA]
  rw [this, UInt8.toNat_ofNat']
  omega

theorem made_zeros (n : Nat) : (madeCells (Value.int .u8 0).cells n).toList = u8s (List.replicate n 0) := by
  apply List.ext_getElem
  · simp [u8s, size_madeCells]
  · intro i h1 h2
    simp [madeCells, u8s, Value.cells, Nat.mod_one]

theorem set_zero (k : Nat) (x : Int) (r : List Int) : (u8s (List.replicate (k + 1) 0 ++ r)).set k (.int .u8 x) = u8s (List.replicate k 0 ++ x :: r) := by
  induction k with
  | zero => rfl
  | succ k ih => rw [List.replicate_succ, List.replicate_succ]; simp only [u8s, List.cons_append, List.map_cons, List.set_cons_succ]; congr 1

attribute [local go_sem ↓] Go.wp_at_zero Go.wp_at_succ
set_option maxHeartbeats 800000 in
set_option maxRecDepth 100000 in
theorem ref_most (W : Nat) (w : World) (h : W ≤ 6) :
    Calls Try.prog 57 #[.int .i64 W] w fun e w' => e = .returned (.int .i64 ((256 : Int) ^ W - 1)) ∧ w = w' := by
  go_enter Try.func57, Try.ntmps57
  go_wp2
  go_loop [3, 4] (fun n i => ∃ k : Nat, k ≤ W ∧ i = .int .i64 k ∧ n = .int .i64 ((256 : Int) ^ k)) (fun _ i => W - (intOf i).toNat)
  case atStart => exact ⟨0, Nat.zero_le _, rfl, rfl⟩
  case round =>
    obtain ⟨k, hk, rfl, rfl⟩ := hrel
    have hp : (256 : Int) ^ k ≤ 256 ^ 6 := by exact_mod_cast Nat.pow_le_pow_right (by decide) (by omega)
    have hp0 : (0 : Int) < 256 ^ k := Int.pow_pos (by decide)
    have e6 : (256 : Int) ^ 6 = 281474976710656 := by decide
    have hsn : (256 : Int) ^ (k + 1) = 256 ^ k * 256 := Int.pow_succ ..
    rw [e6] at hp
    clear e6
    have HV := Lib.hid hsn; clear hsn
    by_cases hlt : k < W
    · generalize (256 : Int) ^ k = y at *
      go_wp2
      go_round
      case rel => exact ⟨k + 1, by omega, by go_num, by rw [HV.out]⟩
      case measure => simp [intOf]; omega
    · obtain rfl : k = W := by omega
      clear HV
      obtain ⟨y, hy⟩ : ∃ y, (256 : Int) ^ k = y := ⟨_, rfl⟩
      rw [hy] at hp hp0 ⊢
      have HY := Lib.hid hy
      clear hy
      go_wp2
      go_ret
      exact ⟨ret_int (by rw [HY.out]), rfl⟩

theorem mayPut_le {v : Int} {W : Nat} (h : mayPut v W = true) : v ≤ (256 : Int) ^ W - 1 := by
  obtain ⟨_, _, _, h4⟩ := (mayPut_iff v W).1 h
  have : (2 : Int) ^ (8 * (W : Int)).toNat = 256 ^ W := by
    rw [show (8 * (W : Int)).toNat = 8 * W by omega, Int.pow_mul]; rfl
  omega

set_option maxHeartbeats 800000 in
set_option maxRecDepth 100000 in
theorem ref_may (v : Int) (W : Nat) (w : World) (h : mayPut v W = true) :
    Calls Try.prog 54 #[.int .i64 v, .int .i64 W] w fun e w' => e = .returned (.bool true) ∧ w = w' := by
  obtain ⟨w1, w6, v0, _⟩ := (mayPut_iff v W).1 h
  have hle := mayPut_le h
  clear h
  go_enter Try.func54, Try.ntmps54
  go_wp2_with fail
  refine (ref_most W _ (by omega)).mono ?_
  rintro e w' ⟨rfl, rfl⟩
  go_wp2
  go_ret
  exact ⟨by simp [*], rfl⟩

set_option maxHeartbeats 2000000 in
set_option maxRecDepth 100000 in
theorem ref_Put (l : List Int) (v : Int) (W : Nat) (w : World) (hlen : l.length ≤ 8388608) (h : mayPut v W = true) :
    Calls Try.prog 50 #[strV l, .int .i64 v, .int .i64 W] w fun e w' => e = .returned (strV (l ++ beBytes v W)) ∧ Kept w w' := by
  obtain ⟨w1, w6, v0, _⟩ := (mayPut_iff v W).1 h
  have hvb : v ≤ 281474976710655 := by
    have h1 := mayPut_le h
    have : (256 : Int) ^ W ≤ 256 ^ 6 := by exact_mod_cast Nat.pow_le_pow_right (by decide) (by omega)
    have : (256 : Int) ^ 6 = 281474976710656 := by decide
    omega
  have HVB := Lib.hid hvb; clear hvb
  have HM := Lib.hid h; clear h
  have HL := Lib.hid hlen; clear hlen
  obtain ⟨i0, hi0, hz0, hz1, hz2⟩ : ∃ i, Try.prog.info? 5 = some i ∧ i.zero = some (.int .u8 0) ∧ i.size = 1 ∧ i.bytes = 1 := by
    obtain ⟨i, h1, h2, h3, h4⟩ := info_parts (P := Try.prog) (e := 5) (z := .int .u8 0) (size := 1) (bytes := 1) (by kernel_rfl)
    exact ⟨i, h1, h2, h3, h4⟩
  have HI := Lib.hid hi0; clear hi0
  have HZ0 := Lib.hid hz0; clear hz0
  have HZ1 := Lib.hid hz1; clear hz1
  have HZ2 := Lib.hid hz2; clear hz2
  simp only [strV]
  go_enter Try.func50, Try.ntmps50
  go_wp2_with fail
  refine (ref_may v W _ HM.out).mono ?_
  rintro e w' ⟨rfl, rfl⟩
  go_wp2_with (refine stop_at (o := ⟨some 15, _, _, _, _, _⟩) ?_)
  refine Stop.mk ?_
  refine wpList_make_full _ rfl _ _ 63 rfl 0 5 i0 (.int .u8 0) 1 Try.underlying63 HI.out HZ0.out HZ1.out .i64 .i64 (W : Int) (W : Int) W rfl rfl rfl rfl (by rw [HZ2.out]; omega) (by simp only [maxLen]; omega) (Nat.zero_le _) ?_
  intro w4 hown hg
  have hk4 : Kept w w4 := (Kept.refl w).grown hg (fun k e => by cases e)
  have hb4 : w4.heap[w.heap.size]? = some (.cells (u8s (List.replicate W 0)).toArray 5 (0, 0)) := by
    rcases hown.2 with ⟨h, _⟩ | ⟨g, cap, cur, h, _, hh, _, _, hs, ht⟩
    · cases h
    · cases h
      rw [Nat.mul_one] at hs ht
      have hcl : cur.toList = u8s (List.replicate W 0) := by
        rw [← List.take_of_length_le (l := cur.toList) (i := W) (by simp; omega), ht]
        exact made_zeros W
      have hcur : cur = (u8s (List.replicate W 0)).toArray := by rw [← hcl]
      rw [hh, hcur]
  have HB4 := Lib.hid hb4
  have HK4 := Lib.hid hk4
  clear hown hg HI HZ0 HZ1 HZ2 hb4 hk4
  go_wp2_with fail
  go_loopw [1, 8] (fun x i wr => ∃ k j : Nat, k + j = W ∧ x = .int .i64 (v / 2 ^ (8 * j)) ∧ i = .int .i64 ((k : Int) - 1) ∧ wr.heap[w.heap.size]? = some (.cells (u8s (List.replicate k 0 ++ beBytes v j)).toArray 5 (0, 0)) ∧ Kept w wr) (fun _ i _ => (intOf i + 1).toNat)
  case atStart => exact ⟨W, 0, rfl, by simp, by go_num, by simpa [beBytes] using HB4.out, HK4.out⟩
  case round =>
    obtain ⟨k, j, hkj, rfl, rfl, hblk, hkr⟩ := hrel
    have hsz := hkr.size
    have HBK := Lib.hid hblk; clear hblk
    have HK := Lib.hid hkr; clear hkr
    rcases k with _ | k
    · obtain rfl : j = W := by omega
      simp only [List.replicate_zero, List.nil_append] at HBK
      have hcv := conv_str wr w.heap.size 0 j (beBytes v j) (Cells.of_block HBK.out)
      rw [beBytes_length] at hcv
      have hadd := run_string_add_sum (P := Try.prog) (w := wr) (strA l) (strA (beBytes v j)) (by have := HL.out; rw [strA_size, strA_size, beBytes_length]; omega)
      rw [strA_append] at hadd
      simp only [strV] at hcv
      go_wp2
      go_ret
      exact ⟨rfl, HK.out⟩
    · have hx0 : 0 ≤ v / 2 ^ (8 * j) := Int.ediv_nonneg v0 (Int.pow_nonneg (by decide))
      have hnx : v / 2 ^ (8 * j) / 256 = v / 2 ^ (8 * (j + 1)) := by
        rw [Int.ediv_ediv_of_nonneg (Int.pow_nonneg (by decide)), show 8 * (j + 1) = 8 * j + 8 from rfl, Int.pow_add]; rfl
      have hbs : beBytes v (j + 1) = v / 2 ^ (8 * j) % 256 :: beBytes v j := rfl
      have hxv : v / 2 ^ (8 * j) ≤ v := Int.ediv_le_self _ v0
      have HNX := Lib.hid hnx; clear hnx
      have HBS := Lib.hid hbs; clear hbs
      generalize v / 2 ^ (8 * j) = x at *
      have hxb : x ≤ 281474976710655 := by have := HVB.out; omega
      have hd0 : 0 ≤ x / 256 := by omega
      have hd1 : x / 256 ≤ 9223372036854775807 := by omega
      have hm0 : 0 ≤ x % 256 := Int.emod_nonneg _ (by decide)
      have hm1 : x % 256 < 256 := Int.emod_lt_of_pos _ (by decide)
      have htm : x.tmod 256 = x % 256 := Int.tmod_eq_emod_of_nonneg hx0
      have htd : x.tdiv 256 = x / 256 := Int.tdiv_eq_ediv_of_nonneg hx0
      go_wp2_with (refine stop_at (o := ⟨none, .store _ _ _, _, _, _, _⟩) ?_)
      refine Stop.mk ?_
      refine wpList_set_cell (by rfl) _ _ rfl (by kernel_rfl) w.heap.size k rfl (.int .u8 (x % 256)) rfl rfl rfl (u8s (List.replicate (k + 1) 0 ++ beBytes v j)) 5 HBK.out (by simp [u8s_length]; omega) ?_
      intro w1 hw1
      rw [set_zero] at hw1
      have hw2 := hw1.blk
      rw [← HBS.out] at hw2
      have hkw : Kept w w1 := hw1.kept HK.out (Nat.le_refl _)
      have HB1 := Lib.hid hw2
      have HK1 := Lib.hid hkw
      clear hw1 hw2 hkw HBK HK
      go_wp2_with fail
      go_roundw
      case rel => exact ⟨k, j + 1, by omega, by rw [← HNX.out], by go_num, HB1.out, HK1.out⟩
      case measure => simp [intOf] <;> omega

theorem getV_step (l : List Int) (k : Nat) (h : k < l.length) : beVal (l.take (k + 1)) = 256 * beVal (l.take k) + l[k] := by
  rw [List.take_succ_eq_append_getElem h, beVal_snoc, Int.mul_comm]

set_option maxHeartbeats 2000000 in
set_option maxRecDepth 100000 in
theorem ref_Get (l : List Int) (W : Nat) (w : World) (hb : ∀ x ∈ l, IsByte x) (h1 : 1 ≤ W) (h6 : W ≤ 6) (hW : W ≤ l.length) (hl : l.length ≤ 64) :
    Calls Try.prog 37 #[strV l, .int .i64 W] w fun e w' => e = .returned (.tuple #[.int .i64 (beVal (l.take W)), .bool true]) ∧ w = w' := by
  have hsz := strA_size l
  have HS := Lib.hid hsz
  simp only [strV]
  generalize hst : strA l = st at *
  have hw3 : ¬ ((st.size : Int) < W) := by omega
  have HST := Lib.hid hst; clear hst
  clear hsz
  go_enter Try.func37, Try.ntmps37
  go_wp2
  go_loop [6, 7] (fun v i => ∃ k : Nat, k ≤ W ∧ i = .int .i64 k ∧ v = .int .i64 (beVal (l.take k))) (fun _ i => W - (intOf i).toNat)
  case atStart => exact ⟨0, Nat.zero_le _, rfl, rfl⟩
  case round =>
    obtain ⟨k, hk, rfl, rfl⟩ := hrel
    by_cases hlt : k < W
    · have hkl : k < l.length := by omega
      have hv := beVal_bd (l.take k) (fun c hc => hb c (List.mem_of_mem_take hc))
      have hby := hb l[k] (List.getElem_mem hkl)
      have hsn := getV_step l k hkl
      have hp : (256 : Int) ^ (l.take k).length ≤ 256 ^ 5 := by
        have : (l.take k).length ≤ 5 := by simp; omega
        exact_mod_cast Nat.pow_le_pow_right (by decide) this
      have hks : k < st.size := by rw [HS.out]; exact hkl
      have hidx : (st[k].toNat : Int) = l[k] := by have := HST.out; subst this; exact strA_get hkl _ hby
      have HV := Lib.hid hsn; clear hsn
      generalize l[k] = x at *
      generalize beVal (l.take k) = y at *
      obtain ⟨hx0, hx1⟩ := hby
      obtain ⟨hy0, hy1⟩ := hv
      have hy2 : y < 1099511627776 := by
        have : (256 : Int) ^ 5 = 1099511627776 := by decide
        omega
      clear hy1 hp
      go_wp2
      go_round
      case rel => exact ⟨k + 1, by omega, by go_num, by rw [HV.out]⟩
      case measure => simp [intOf]; omega
    · obtain rfl : k = W := by omega
      go_wp2
      go_ret2
      exact ⟨rfl, rfl⟩

end Go.Proofs.Ytpnpconphpbcaaa
