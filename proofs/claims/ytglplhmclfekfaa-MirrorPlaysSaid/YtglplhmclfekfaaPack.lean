/- pack.may, pack.Put, pack.Get. -/
import Derived.Test.YtglplhmclfekfaaApp
import Derived.Test.YtglplhmclfekfaaBits
namespace Go.Proofs.Ytglplhmclfekfaa
open Go.RowKit
set_option linter.unusedVariables false

theorem ty_bytes : ElemT Try.prog 158 5 1 1 := by
  obtain ⟨i, h1, h2, h3, h4⟩ := info_parts (P := Try.prog) (e := 5) (z := .int .u8 0) (size := 1) (bytes := 1) (by kernel_rfl)
  exact ⟨by kernel_rfl, ⟨i, _, h1, h2, h3, h4, by rfl⟩, by decide⟩

/-- may v be written in width bytes? -/
def mayPut (v width : Int) : Bool := decide (1 ≤ width) && (decide (width ≤ 6) && (decide (0 ≤ v) && (v / 2 ^ (8 * width).toNat == 0)))
theorem mayPut_iff (v width : Int) : mayPut v width = true ↔ 1 ≤ width ∧ width ≤ 6 ∧ 0 ≤ v ∧ v < 2 ^ (8 * width).toNat := by
  have hp : (0 : Int) < 2 ^ (8 * width).toNat := Int.pow_pos (by decide)
  simp only [mayPut, Bool.and_eq_true, decide_eq_true_eq, beq_iff_eq]
  constructor
  · rintro ⟨a, b, c, d⟩
    refine ⟨a, b, c, ?_⟩
    have := Int.lt_ediv_add_one_mul_self v hp
    rw [d] at this; simpa using this
  · rintro ⟨a, b, c, d⟩
    exact ⟨a, b, c, Int.ediv_eq_zero_of_lt c d⟩

set_option maxHeartbeats 400000 in
theorem pack_may (v width : Int) (w : World) :
    Calls Try.prog 164 #[.int .i64 v, .int .i64 width] w fun e w' => e = .returned (.bool (mayPut v width)) ∧ w = w' := by
  go_enter Try.func164, Try.ntmps164
  go_wp2
  · go_ret
    refine ⟨ret_bool ?_, rfl⟩
    simp [mayPut, *]
  · go_ret
    refine ⟨ret_bool ?_, rfl⟩
    have : ¬ 0 ≤ v := by omega
    simp [mayPut, this]
  · go_ret
    refine ⟨ret_bool ?_, rfl⟩
    have : ¬ width ≤ 6 := by omega
    simp [mayPut, this]
  · go_ret
    refine ⟨ret_bool ?_, rfl⟩
    have : ¬ 1 ≤ width := by omega
    simp [mayPut, this]

/-- the k lowest bytes of v, the highest first -/
def beBytes (v : Int) : Nat → List Int
  | 0 => []
  | k + 1 => (v / 2 ^ (8 * k)) % 256 :: beBytes v k
theorem beBytes_length (v : Int) (k : Nat) : (beBytes v k).length = k := by induction k <;> simp_all [beBytes]
def u8s (l : List Int) : List Value := l.map (.int .u8)
theorem u8s_length (l : List Int) : (u8s l).length = l.length := by simp [u8s]
theorem u8s_append (l k : List Int) : u8s (l ++ k) = u8s l ++ u8s k := by simp [u8s]
theorem u8s_one (l : List Int) : ∀ u ∈ u8s l, u.oneCell' = true := by
  intro u hu
  simp only [u8s, List.mem_map] at hu
  obtain ⟨n, _, rfl⟩ := hu
  rfl

theorem pack_may_t (v width : Int) (w : World) (h : mayPut v width = true) :
    Calls Try.prog 164 #[.int .i64 v, .int .i64 width] w fun e w' => e = .returned (.bool true) ∧ w = w' :=
  (pack_may v width w).mono fun e w' ⟨he, hw⟩ => ⟨by rw [he, h], hw⟩
theorem pack_may_f (v width : Int) (w : World) (h : mayPut v width = false) :
    Calls Try.prog 164 #[.int .i64 v, .int .i64 width] w fun e w' => e = .returned (.bool false) ∧ w = w' :=
  (pack_may v width w).mono fun e w' ⟨he, hw⟩ => ⟨by rw [he, h], hw⟩

set_option maxHeartbeats 800000 in
set_option maxRecDepth 100000 in
theorem pack_PutN (sv : Value) (bs : List Int) (v : Int) (W : Nat) (w : World) (hs : Src w 1 sv bs.length (u8s bs)) (hlen : bs.length ≤ 2147483648) (hm : mayPut v W = true) :
    Calls Try.prog 139 #[sv, .int .i64 v, .int .i64 W] w fun e w' =>
      ∃ sv', e = .returned sv' ∧ w'.ownsRow w.heap.size 5 1 sv' (bs.length + W) (u8s (bs ++ beBytes v W)) ∧ Kept w w' := by
  obtain ⟨w1, w6, v0, vp⟩ := (mayPut_iff v W).1 hm
  have hs0 := hs
  obtain ⟨hl, ax, c, rfl, hlc, hnone, hc⟩ := hs
  have HM := Lib.hid hm; clear hm
  have HN := Lib.hid hnone; clear hnone
  have HC := Lib.hid hc; clear hc
  have HS := Lib.hid hs0; clear hs0
  clear hl vp
  go_enter Try.func139, Try.ntmps139
  go_wp2_with (go_at_call 164; refine (pack_may_t _ _ _ HM.out).mono ?_; rintro e w' ⟨rfl, rfl⟩)
  clear HM
  go_loopw [0, 7] (fun b i wr => ∃ k : Nat, ∃ pre, k ≤ W ∧ i = .int .i64 ((k : Int) - 1) ∧ pre.length + k = W ∧ pre ++ beBytes v k = beBytes v W ∧ App wr w.heap.size 5 1 b (bs.length + pre.length) (u8s (bs ++ pre)) ∧
    (k < W → wr.ownsRow w.heap.size 5 1 b (bs.length + pre.length) (u8s (bs ++ pre))) ∧ Kept w wr) (fun _ i _ => (intOf i + 1).toNat)
  case atStart => exact ⟨W, [], Nat.le_refl _, rfl, by simp, by simp, by simpa using App.full HS.out, fun h => by omega, Kept.refl _⟩
  case round =>
    obtain ⟨k, pre, hk, rfl, hpl, hpre, happ, hown, hbel⟩ := hrel
    have HP := Lib.hid hpre; clear hpre
    have HO := Lib.hid hown; clear hown
    have hsz := hbel.size
    rcases k with _ | k
    · go_wp2
      go_ret
      have hpl' : pre.length = W := by omega
      have hp := HP.out
      simp only [beBytes, List.append_nil] at hp
      subst hp
      rw [hpl'] at HO
      exact ⟨_, rfl, HO.out (by omega), hbel⟩
    · have ka : ∀ o, Kept wr (wr.alloc o) := fun o => (Kept.refl _).alloc o
      have hb1 := beBytes_length v k
      go_wp2_with (at_builtin; refine (id ?roundEnd))
      refine wpList_append_app _ rfl _ _ rfl ty_bytes w.heap.size u0 (bs.length + pre.length) (u8s (bs ++ pre)) rfl (happ.kept (ka _)) _ 1 [.int .u8 (v / 2 ^ (8 * k) % 256)] rfl Src.one (by intro u hu; simp at hu; subst hu; rfl) (by simp only [maxLen]; omega) (by omega) (by simp; omega) ?nx
      intro v' w' happ' _ hb' hown'
      have e1 : u8s (bs ++ pre) ++ [.int .u8 (v / 2 ^ (8 * k) % 256)] = u8s (bs ++ (pre ++ [v / 2 ^ (8 * k) % 256])) := by simp [u8s]
      have e2 : bs.length + pre.length + 1 = bs.length + (pre ++ [v / 2 ^ (8 * k) % 256]).length := by simp; omega
      rw [e1, e2] at happ' hown'
      have HA := Lib.hid happ'; clear happ'
      have HB := Lib.hid hown'; clear hown'
      clear e1 e2 happ HO HC HS HN
      have hk2 : Kept w w' := (hbel.trans (ka _)).below (Nat.le_refl _) hb'
      clear hb'
      go_wp2
      go_roundw
      case rel => exact ⟨k, pre ++ [v / 2 ^ (8 * k) % 256], by omega, by go_num, by simp; omega, by rw [← HP.out]; simp [beBytes], HA.out, fun _ => HB.out (.inl (by omega)), hk2⟩
      case measure => simp [intOf] <;> omega

theorem pack_Put (sv : Value) (bs : List Int) (v width : Int) (w : World) (hs : Src w 1 sv bs.length (u8s bs)) (hlen : bs.length ≤ 2147483648) (hm : mayPut v width = true) :
    Calls Try.prog 139 #[sv, .int .i64 v, .int .i64 width] w fun e w' =>
      ∃ sv', e = .returned sv' ∧ w'.ownsRow w.heap.size 5 1 sv' (bs ++ beBytes v width.toNat).length (u8s (bs ++ beBytes v width.toNat)) ∧ Kept w w' := by
  obtain ⟨w1, _⟩ := (mayPut_iff v width).1 hm
  obtain ⟨W, rfl⟩ := Int.eq_ofNat_of_zero_le (show 0 ≤ width by omega)
  refine (pack_PutN sv bs v W w hs hlen hm).mono fun e w' ⟨sv', he, ho, hk⟩ => ⟨sv', he, ?_, hk⟩
  rw [List.length_append, beBytes_length]; exact ho

/-- the number that bytes say, the highest first -/
def beVal (l : List Int) : Int := l.foldl (fun a c => a * 256 + c) 0
theorem beVal_snoc (l : List Int) (c : Int) : beVal (l ++ [c]) = beVal l * 256 + c := by simp [beVal]
def IsByte (c : Int) : Prop := 0 ≤ c ∧ c ≤ 255
theorem beVal_bd (l : List Int) (h : ∀ c ∈ l, IsByte c) : 0 ≤ beVal l ∧ beVal l < 256 ^ l.length := by
  suffices ∀ (r : List Int), (∀ c ∈ r, IsByte c) → 0 ≤ beVal r.reverse ∧ beVal r.reverse < 256 ^ r.length by
    have := this l.reverse (fun c hc => h c (by simpa using hc)); simpa using this
  intro r
  induction r with
  | nil => intro _; simp [beVal]
  | cons c r ih =>
    intro h
    have ih' := ih (fun c hc => h c (by simp [hc]))
    have hc := h c (by simp)
    obtain ⟨a, b⟩ := hc
    rw [List.reverse_cons, beVal_snoc, List.length_cons, Int.pow_succ]
    omega

theorem getD_u8s (bs : List Int) (k : Nat) (h : k < bs.length) : (u8s bs)[k]? = some (.int .u8 (bs.getD k 0)) := by
  simp [u8s, h]

set_option maxHeartbeats 800000 in
set_option maxRecDepth 100000 in
theorem pack_GetN (b off n c : Nat) (bs : List Int) (W : Nat) (w : World) (hb : ∀ x ∈ bs, IsByte x) (hs : Cells w b off (u8s bs)) (hl : bs.length = n) (hnc : n ≤ c) (hn : n ≤ 2147483648) (h1 : 1 ≤ W) (h6 : W ≤ 6) (hW : W ≤ n) :
    Calls Try.prog 141 #[.slice (some ⟨b, off, none⟩) n c, .int .i64 W] w fun e w' => e = .returned (.tuple #[.int .i64 (beVal (bs.take W)), .bool true]) ∧ w = w' := by
  have HS := Lib.hid hs; clear hs
  have HL := Lib.hid hl; clear hl
  have hw1 : ¬ ((W : Int) < 1) := by omega
  have hw2 : ¬ ((6 : Int) < W) := by omega
  have hw3 : ¬ ((n : Int) < W) := by omega
  go_enter Try.func141, Try.ntmps141
  go_wp2
  go_loop [6, 25] (fun v i => ∃ k : Nat, k ≤ W ∧ i = .int .i64 k ∧ v = .int .i64 (beVal (bs.take k))) (fun _ i => W - (intOf i).toNat)
  case atStart => exact ⟨0, Nat.zero_le _, rfl, rfl⟩
  case round =>
    obtain ⟨k, hk, rfl, rfl⟩ := hrel
    by_cases hlt : k < W
    · have hkl : k < bs.length := by rw [HL.out]; omega
      have hc : w.cell? ⟨b, off + k, none⟩ = some (.int .u8 bs[k]) := by
        have := HS.out k (by rw [u8s_length]; exact hkl)
        simpa [u8s] using this
      have hby := hb bs[k] (List.getElem_mem hkl)
      have hv := beVal_bd (bs.take k) (fun c hc => hb c (List.mem_of_mem_take hc))
      have hsn : beVal (bs.take (k + 1)) = beVal (bs.take k) * 256 + bs[k] := by
        rw [List.take_succ_eq_append_getElem hkl, beVal_snoc]
      have hp : (256 : Int) ^ (bs.take k).length ≤ 256 ^ 5 := by
        have : (bs.take k).length ≤ 5 := by simp; omega
        exact_mod_cast Nat.pow_le_pow_right (by decide) this
      have HV := Lib.hid hsn; clear hsn
      generalize bs[k] = x at *
      generalize beVal (bs.take k) = y at *
      obtain ⟨hx0, hx1⟩ := hby
      obtain ⟨hy0, hy1⟩ := hv
      have hy2 : y < 1099511627776 := by
        have : (256 : Int) ^ 5 = 1099511627776 := by decide
        omega
      clear hy1 hp
      go_wp2
      rw [i64_shl8_or y x hy0 hy2 hx0 hx1]
      go_round
      case rel => exact ⟨k + 1, by omega, by go_num, by rw [HV.out]⟩
      case measure => simp [intOf]; omega
    · obtain rfl : k = W := by omega
      go_wp2
      go_ret2
      exact ⟨rfl, rfl⟩

theorem pack_Get (b off n c : Nat) (bs : List Int) (width : Int) (w : World) (hb : ∀ x ∈ bs, IsByte x) (hs : Cells w b off (u8s bs)) (hl : bs.length = n) (hnc : n ≤ c) (hn : n ≤ 2147483648) (h1 : 1 ≤ width) (h6 : width ≤ 6) (hW : width ≤ n) :
    Calls Try.prog 141 #[.slice (some ⟨b, off, none⟩) n c, .int .i64 width] w fun e w' => e = .returned (.tuple #[.int .i64 (beVal (bs.take width.toNat)), .bool true]) ∧ w = w' := by
  obtain ⟨W, rfl⟩ := Int.eq_ofNat_of_zero_le (show 0 ≤ width by omega)
  exact pack_GetN b off n c bs W w hb hs hl hnc hn (by omega) (by omega) (by omega)

end Go.Proofs.Ytglplhmclfekfaa
