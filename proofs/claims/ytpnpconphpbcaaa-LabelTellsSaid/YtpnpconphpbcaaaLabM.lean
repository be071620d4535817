/- LabelMembers: the walk. -/
import Derived.Test.YtpnpconphpbcaaaLabE
import Derived.Deep.QuietTactic
import Derived.BigQuiet
import Derived.Deep.DeepCutAuto
import Derived.ProofKit
import Derived.Deep.Slices
import Derived.Deep.Fields
import Derived.ChangeSame
namespace Go.Proofs.Ytpnpconphpbcaaa
open Go.RowKit
set_option linter.unusedVariables false
set_option linter.unusedSimpArgs false

/-- a slice of members that came in -/
def MSrc (w : World) (sl : Value) (ms : List Mem) : Prop :=
  (∃ oa cap, sl = .slice oa 0 cap ∧ ms = [] ∧ (oa = none → cap = 0)) ∨ ∃ b off cap, sl = .slice (some ⟨b, off, none⟩) ms.length cap ∧ ms.length ≤ cap ∧ cap ≤ maxLen ∧ Cells w b off (mvals ms)

theorem Cells.take {w : World} {b off : Nat} {xs : List Value} (h : Cells w b off xs) (n : Nat) : Cells w b off (xs.take n) := by
  intro j hj
  rw [List.getElem_take]
  exact h j (by simp at hj; omega)
theorem mvals_take (ms : List Mem) : ∀ n, mvals (ms.take n) = (mvals ms).take (n * 3) := by
  induction ms with
  | nil => intro n; simp [mvals]
  | cons m ms ih =>
    intro n
    cases n with
    | zero => simp [mvals]
    | succ n =>
      rw [List.take_succ_cons]
      have := ih n
      simp only [mvals, List.flatMap_cons] at this ⊢
      rw [this, show (n + 1) * 3 = m.vals.length + n * 3 from by simp [Mem.vals]; omega, List.take_length_add_append]
/-- the first n of them, as a slice -/
theorem MSrc.src {w : World} {b off cap n : Nat} {ms : List Mem} (hc : Cells w b off (mvals ms)) (hn : n ≤ ms.length) (hcap : ms.length ≤ cap) : Src w 3 (.slice (some ⟨b, off, none⟩) n cap) (ms.take n).length (mvals (ms.take n)) := by
  rw [show (ms.take n).length = n from by simp; omega]
  refine Src.of_cells ?_ ?_ (by omega)
  · rw [mvals_take]; exact hc.take _
  · rw [mvals_length]; simp; omega

theorem Src.zero {w : World} {size c : Nat} {ax : Option Addr} (h : ax = none → c = 0) : Src w size (.slice ax 0 c) 0 [] := ⟨by simp, ax, c, rfl, Nat.zero_le _, fun e => ⟨rfl, h e⟩, fun b hb j u hu => by simp at hu⟩

section
variable {ops : Array Oper} {rest : List Oper} {o : Oper} {a : Act} {w : World} {Q : Exit → Act → World → Prop}
/-- append([]Member{}, l...) -/
theorem wpList_append_fresh (hgd : o.guard = none) (s x : Operand)
    (ho : o.op = .call { callee := .builtin .append, args := #[s, x], argTypes := #[22, 22] }) (g : Nat) (hs : a.eval s = .slice (some ⟨g, 0, none⟩) 0 0)
    (xv : Value) (hxe : a.eval x = xv) (ms : List Mem) (hx : Src w 3 xv ms.length (mvals ms)) (hlen : ms.length ≤ 1000)
    (h : ∀ v' w', MSl w' v' ms → Kept w w' → wpList Try.prog ops Q rest (a.put o.dst v') w') : wpList Try.prog ops Q (o :: rest) a w := by
  by_cases h0 : ms = []
  · subst h0
    obtain ⟨_, ax, c, rfl, _⟩ := hx
    exact wpList_append_zero w hgd s x ho ty_mems (some ⟨g, 0, none⟩) ax 0 c hs hxe (by decide) (h _ _ (.inr ⟨g, 0, 0, rfl, fun i hi => by simp at hi⟩) (Kept.refl _))
  · have hp : 0 < ms.length := List.length_pos_iff.2 h0
    refine wpList_append_app w hgd s x ho ty_mems w.heap.size _ 0 [] hs (.inr ⟨rfl, _, rfl, by simp, by simp⟩) xv ms.length (mvals ms) hxe hx (mvals_one ms) (by simp only [maxLen]; omega) (by omega) (Nat.le_refl _) ?_
    intro v' w' _ _ hbw hown
    have ho := hown (.inl hp)
    rw [Nat.zero_add, List.nil_append] at ho
    exact h v' w' (MSl.of_owns ho) hbw
end

theorem hasOwn_next (ms : List Mem) (own : Int) (k : Nat) (h : k < ms.length) : hasOwn (ms.take (k + 1)) own = (hasOwn (ms.take k) own || (ms[k].id == own)) := by
  unfold hasOwn; rw [List.take_succ_eq_append_getElem h, List.any_append]; simp

attribute [local go_sem ↓] Go.wp_at_zero Go.wp_at_succ
set_option maxHeartbeats 4000000 in
set_option maxRecDepth 100000 in
theorem law_members (oa0 : Option Addr) (n0 cap0 : Nat) (ms0 : List Mem) (own : Int) (w : World) (hs : MSrc w (.slice oa0 n0 cap0) ms0) :
    Calls Try.prog 5 #[.slice oa0 n0 cap0, .int .i64 own] w fun e w' => e = .returned (.bool true) ∧ Kept w w' := by
  have HSRC := Lib.hid hs; clear hs
  go_enter Try.func5, Try.ntmps5
  go_upto_region 2 with (go_at_call 10; refine (law_shown _).mono ?_; rintro e w1 ⟨rfl, hk1⟩)
  go_cut [0] (fun s0 wc => ∃ ms oa cap2, s0 = .slice oa ms.length cap2 ∧ ms = ms0.take 14 ∧ MSl wc s0 ms ∧ Kept w wc)
  case first =>
    obtain ⟨oa1, cap1, h, rfl, hn⟩ | ⟨b, off, cap, h, hcap, hmax, hc⟩ := HSRC.out
    · cases h
      obtain rfl | ⟨ad, rfl⟩ : oa0 = none ∨ ∃ ad, oa0 = some ad := by cases oa0 <;> simp
      · obtain rfl := hn rfl
        go_wp2_with (refine wpList_append_fresh rfl _ _ (by rfl) w1.heap.size rfl _ rfl [] Src.nil (by simp) ?_; intro v' w2 hm2 hk2)
        go_meet
        case rel =>
          obtain ⟨cap2, oa, rfl⟩ : ∃ cap oa, v' = .slice oa 0 cap := by
            rcases hm2 with ⟨_, rfl⟩ | ⟨b, off, cap, rfl, _⟩
            · exact ⟨_, _, rfl⟩
            · exact ⟨_, _, rfl⟩
          exact ⟨[], oa, cap2, rfl, rfl, hm2, (hk1.trans ((Kept.refl _).alloc _)).trans hk2⟩
      · go_wp2_with (refine wpList_append_fresh rfl _ _ (by rfl) w1.heap.size rfl _ rfl [] (Src.zero (ax := some ad) (c := cap0) (by simp)) (by simp) ?_; intro v' w2 hm2 hk2)
        go_meet
        case rel =>
          obtain ⟨cap2, oa, rfl⟩ : ∃ cap oa, v' = .slice oa 0 cap := by
            rcases hm2 with ⟨_, rfl⟩ | ⟨b, off, cap, rfl, _⟩
            · exact ⟨_, _, rfl⟩
            · exact ⟨_, _, rfl⟩
          exact ⟨[], oa, cap2, rfl, rfl, hm2, (hk1.trans ((Kept.refl _).alloc _)).trans hk2⟩
    cases h
    simp only [maxLen] at hmax
    have hS := fun n hn => MSrc.src (n := n) hc hn hcap
    have HS := Lib.hid hS; clear hS
    clear hc HSRC
    by_cases h14 : ms0.length ≤ 14
    · go_wp2_with (refine wpList_append_fresh rfl _ _ (by rfl) w1.heap.size rfl _ rfl (ms0.take ms0.length) ((HS.out _ (Nat.le_refl _)).kept (hk1.trans ((Kept.refl _).alloc _))) (by simp; omega) ?_; intro v' w2 hm2 hk2)
      go_meet
      case rel =>
        have e : ms0.take 14 = ms0 := List.take_of_length_le h14
        rw [List.take_length] at hm2
        obtain ⟨cap2, oa, rfl⟩ : ∃ cap oa, v' = .slice oa ms0.length cap := by
          rcases hm2 with ⟨rfl, rfl⟩ | ⟨b, off, cap, rfl, _⟩
          · exact ⟨_, _, rfl⟩
          · exact ⟨_, _, rfl⟩
        exact ⟨ms0, oa, cap2, rfl, e.symm, hm2, (hk1.trans ((Kept.refl _).alloc _)).trans hk2⟩
    · go_wp2_with (refine wpList_append_fresh rfl _ _ (by rfl) w1.heap.size rfl _ rfl (ms0.take 14) ((HS.out 14 (by omega)).kept (hk1.trans ((Kept.refl _).alloc _))) (by simp; omega) ?_; intro v' w2 hm2 hk2)
      go_meet
      case rel =>
        obtain ⟨cap2, oa, rfl⟩ : ∃ cap oa, v' = .slice oa (ms0.take 14).length cap := by
          rcases hm2 with ⟨h, rfl⟩ | ⟨b, off, cap, rfl, _⟩
          · exact ⟨_, _, by rw [h]; rfl⟩
          · exact ⟨_, _, rfl⟩
        exact ⟨ms0.take 14, oa, cap2, rfl, rfl, hm2, (hk1.trans ((Kept.refl _).alloc _)).trans hk2⟩
  case rest =>
    obtain ⟨ms, oa, cap2, rfl, hms, hm, hkc⟩ := hcut
    have hl : ms.length ≤ 14 := by rw [hms]; simp; omega
    clear hms hk1 HSRC
    have HM := Lib.hid hm; clear hm
    go_upto_region 3 with fail
    go_cut [6] (fun s6 wd => s6 = .bool (inB (ms.length : Int) 3 12) ∧ wd = wc)
    case first =>
      by_cases h3 : 3 ≤ ms.length
      · by_cases h12 : ms.length ≤ 12
        · go_wp2
          go_meet
          case rel => exact ⟨by simp [inB]; omega, rfl⟩
        · go_wp2
          go_meet
          case rel => exact ⟨by simp [inB]; omega, rfl⟩
      · go_wp2
        go_meet
        case rel => exact ⟨by simp [inB]; omega, rfl⟩
    case rest =>
      obtain ⟨rfl, rfl⟩ := hcut
      go_wp2
      go_loopw [6, 7, 8] (fun ok inn i wr => ∃ k : Nat, k ≤ ms.length ∧ i = .int .i64 k ∧ ok = .bool (inB (ms.length : Int) 3 12 && risesB (-1) (ms.take k)) ∧ inn = .bool (hasOwn (ms.take k) own) ∧ Kept wc wr) (fun _ _ i _ => ms.length - (intOf i).toNat)
      case atStart => exact ⟨0, Nat.zero_le _, rfl, by simp [risesB], by simp [hasOwn], Kept.refl _⟩
      case round =>
        obtain ⟨k, hk, rfl, rfl, rfl, hkr⟩ := hrel
        have hsz := hkr.size
        by_cases hlt : k < ms.length
        · obtain ⟨b2, off2, cap3, hsl, hm⟩ : ∃ b off cap', Value.slice oa ms.length cap2 = .slice (some ⟨b, off, none⟩) ms.length cap' ∧ MRow wc b off ms := by
            rcases HM.out with ⟨h, _⟩ | h
            · have h' : ms = [] := h
              subst h'; simp at hlt
            · exact h
          cases hsl
          obtain ⟨m0, m1, m2⟩ := (hm.kept hkr) k hlt
          have hT : (inB (ms.length : Int) 3 12 && risesB (-1) (ms.take (k + 1))) = ((inB (ms.length : Int) 3 12 && risesB (-1) (ms.take k)) && (mayB ms[k] && decide (lastId ms k < ms[k].id))) := by
            rw [risesB_next ms k hlt, ← Bool.and_assoc]
          have hO := hasOwn_next ms own k hlt
          have HT := Lib.hid hT; clear hT
          have HO := Lib.hid hO; clear hO
          have hp : 0 < k → wr.cell? ⟨b2, off2 + (k - 1) * 3, none⟩ = some (.int .i64 (lastId ms k)) := fun h => by
            have := ((hm.kept hkr) (k - 1) (by omega)).1
            rw [show k = (k - 1) + 1 from by omega, lastId_succ ms (k - 1) (by omega)]
            simpa using this
          have HP := Lib.hid hp; clear hp
          clear hm
          go_upto_region 9 with fail
          have hmay : mayB ms[k] = (inB ms[k].id 0 31 && (inB ms[k].sec 160 4096 && inB ms[k].st 0 2)) := rfl
          rw [hmay] at HT
          generalize (inB (ms.length : Int) 3 12 && risesB (-1) (ms.take k)) = ob at *
          have hl0 : k = 0 → 0 ≤ ms[k].id → decide (lastId ms k < ms[k].id) = true := fun h h' => by subst h; rw [lastId_zero]; simp; omega
          have HL0 := Lib.hid hl0; clear hl0
          generalize lastId ms k = lst at *
          generalize ms[k].id = x at *
          generalize ms[k].sec = y at *
          generalize ms[k].st = z at *
          generalize hasOwn (ms.take k) own = hb at *
          have hw1 : IntKind.i64.wrap ((k : Int) - 1) = (k : Int) - 1 := IntWalk.i64_in _ (by omega)
          go_cut [6] (fun s6 we => s6 = .bool (ob && ((inB x 0 31 && (inB y 160 4096 && inB z 0 2)) && decide (lst < x))) ∧ Kept (wr.alloc (.cells #[.int .i64 x, .int .i64 y, .int .i64 z] 38)) we)
          case first =>
            have hcs : ob = false ∨ (ob = true ∧ (x < 0 ∨ (0 ≤ x ∧ (31 < x ∨ (x ≤ 31 ∧ (y < 160 ∨ (160 ≤ y ∧ (4096 < y ∨ (y ≤ 4096 ∧ (z < 0 ∨ (0 ≤ z ∧ (2 < z ∨ (z ≤ 2 ∧ ((k = 0) ∨ (0 < k ∧ (lst < x ∨ x ≤ lst)))))))))))))))) := by
              cases ob <;> simp; omega
            rcases hcs with rfl | ⟨rfl, h0 | ⟨h0, h1 | ⟨h1, h2 | ⟨h2, h3 | ⟨h3, h4 | ⟨h4, h5 | ⟨h5, h6 | ⟨h6, h7 | h7⟩⟩⟩⟩⟩⟩⟩⟩
            · go_quiet (fail)
              go_wp2
              go_meet
              case rel => exact ⟨by simp, (Kept.refl _).drewN _⟩
            · have g0 : decide (0 ≤ x) = false := by simpa using h0
              go_quiet (fail)
              go_wp2
              go_meet
              case rel => exact ⟨by simp [inB, *], (Kept.refl _).drewN _⟩
            · have g0 : decide (0 ≤ x) = true := by simpa using h0
              have g1 : decide (x ≤ 31) = false := by simpa using h1
              go_quiet (fail)
              go_wp2
              go_meet
              case rel => exact ⟨by simp [inB, *], (Kept.refl _).drewN _⟩
            · have g0 : decide (0 ≤ x) = true := by simpa using h0
              have g1 : decide (x ≤ 31) = true := by simpa using h1
              have g2 : decide (160 ≤ y) = false := by simpa using h2
              go_quiet (fail)
              go_wp2
              go_meet
              case rel => exact ⟨by simp [inB, *], (Kept.refl _).drewN _⟩
            · have g0 : decide (0 ≤ x) = true := by simpa using h0
              have g1 : decide (x ≤ 31) = true := by simpa using h1
              have g2 : decide (160 ≤ y) = true := by simpa using h2
              have g3 : decide (y ≤ 4096) = false := by simpa using h3
              go_quiet (fail)
              go_wp2
              go_meet
              case rel => exact ⟨by simp [inB, *], (Kept.refl _).drewN _⟩
            · have g0 : decide (0 ≤ x) = true := by simpa using h0
              have g1 : decide (x ≤ 31) = true := by simpa using h1
              have g2 : decide (160 ≤ y) = true := by simpa using h2
              have g3 : decide (y ≤ 4096) = true := by simpa using h3
              have g4 : decide (0 ≤ z) = false := by simpa using h4
              go_quiet (fail)
              go_wp2
              go_meet
              case rel => exact ⟨by simp [inB, *], (Kept.refl _).drewN _⟩
            · have g0 : decide (0 ≤ x) = true := by simpa using h0
              have g1 : decide (x ≤ 31) = true := by simpa using h1
              have g2 : decide (160 ≤ y) = true := by simpa using h2
              have g3 : decide (y ≤ 4096) = true := by simpa using h3
              have g4 : decide (0 ≤ z) = true := by simpa using h4
              have g5 : decide (z ≤ 2) = false := by simpa using h5
              go_quiet (fail)
              go_wp2
              go_meet
              case rel => exact ⟨by simp [inB, *], (Kept.refl _).drewN _⟩
            · have g0 : decide (0 ≤ x) = true := by simpa using h0
              have g1 : decide (x ≤ 31) = true := by simpa using h1
              have g2 : decide (160 ≤ y) = true := by simpa using h2
              have g3 : decide (y ≤ 4096) = true := by simpa using h3
              have g4 : decide (0 ≤ z) = true := by simpa using h4
              have g5 : decide (z ≤ 2) = true := by simpa using h5
              have g6 : ((k : Int) == 0) = true := by simp [h6]
              have g6' : decide ((k : Int) = 0) = true := by simp [h6]
              have hlt0 : decide (lst < x) = true := HL0.out h6 h0
              go_quiet (fail)
              go_wp2
              go_meet
              case rel => exact ⟨by simp [inB, *], (Kept.refl _).drewN _⟩
            · have g0 : decide (0 ≤ x) = true := by simpa using h0
              have g1 : decide (x ≤ 31) = true := by simpa using h1
              have g2 : decide (160 ≤ y) = true := by simpa using h2
              have g3 : decide (y ≤ 4096) = true := by simpa using h3
              have g4 : decide (0 ≤ z) = true := by simpa using h4
              have g5 : decide (z ≤ 2) = true := by simpa using h5
              have g6 : ((k : Int) == 0) = false := by simp; omega
              have g6' : decide ((k : Int) = 0) = false := by simp; omega
              have hi : ((k : Int) - 1).toNat = k - 1 := by omega
              have hcl : (wr.alloc (.cells #[.int .i64 x, .int .i64 y, .int .i64 z] 38)).cell? ⟨b2, off2 + (k - 1) * 3, none⟩ = some (.int .i64 lst) := ((Kept.refl wr).alloc _).cell' (HP.out h6)
              have g7 : decide (lst < x) = true := by simpa using h7
              go_quiet (fail)
              go_wp2
              go_meet
              case rel => exact ⟨by simp [inB, *], (Kept.refl _).drewN _⟩
            · have g0 : decide (0 ≤ x) = true := by simpa using h0
              have g1 : decide (x ≤ 31) = true := by simpa using h1
              have g2 : decide (160 ≤ y) = true := by simpa using h2
              have g3 : decide (y ≤ 4096) = true := by simpa using h3
              have g4 : decide (0 ≤ z) = true := by simpa using h4
              have g5 : decide (z ≤ 2) = true := by simpa using h5
              have g6 : ((k : Int) == 0) = false := by simp; omega
              have g6' : decide ((k : Int) = 0) = false := by simp; omega
              have hi : ((k : Int) - 1).toNat = k - 1 := by omega
              have hcl : (wr.alloc (.cells #[.int .i64 x, .int .i64 y, .int .i64 z] 38)).cell? ⟨b2, off2 + (k - 1) * 3, none⟩ = some (.int .i64 lst) := ((Kept.refl wr).alloc _).cell' (HP.out h6)
              have g7 : decide (lst < x) = false := by simpa using h7
              go_quiet (fail)
              go_wp2
              go_meet
              case rel => exact ⟨by simp [inB, *], (Kept.refl _).drewN _⟩
          case rest =>
            obtain ⟨rfl, hke⟩ := hcut
            have e0 := hke.cell' (p := ⟨wr.heap.size, 0, none⟩) (v := .int .i64 x) (by simp)
            have hkE : Kept wr wc := ((Kept.refl wr).alloc _).trans hke
            cases hb with
            | false =>
              go_wp2
              go_roundw
              case rel => exact ⟨k + 1, by omega, by go_num, by rw [HT.out], by rw [HO.out]; simp, hkr.trans hkE⟩
              case measure => simp [intOf]; omega
            | true =>
              go_wp2
              go_roundw
              case rel => exact ⟨k + 1, by omega, by go_num, by rw [HT.out], by rw [HO.out]; simp, hkr.trans hkE⟩
              case measure => simp [intOf]; omega
        · have hkn : k = ms.length := by omega
          have e1 : ms.take k = ms := by rw [hkn, List.take_length]
          rw [e1]
          have hb1 : rightB ⟨1, 1, own, 1, ms⟩ = (inB (ms.length : Int) 3 12 && risesB (-1) ms && hasOwn ms own) := by
            simp [rightB, headB, inB, Bool.and_assoc]
          have hR := label_Right ⟨1, 1, own, 1, ms⟩ (.slice oa ms.length cap2) wr (by simp; omega) (HM.out.kept hkr)
          simp only [Lab.val] at hR
          have HR := Lib.hid hR; clear hR
          generalize hasOwn ms own = hb at *
          generalize (inB (ms.length : Int) 3 12 && risesB (-1) ms) = ob at *
          have HB1 := Lib.hid hb1; clear hb1
          cases ob
          · go_wp2_with (go_at_call 17; refine HR.out.mono ?_; rintro e w9 ⟨rfl, hk9⟩)
            go_ret
            exact ⟨by rw [HB1.out]; simp, hkc.trans (hkr.trans hk9)⟩
          · go_wp2_with (go_at_call 17; refine HR.out.mono ?_; rintro e w9 ⟨rfl, hk9⟩)
            go_ret
            exact ⟨by rw [HB1.out]; simp, hkc.trans (hkr.trans hk9)⟩

theorem mvals_cells {w : World} {b off : Nat} {ms : List Mem} (h : ∀ i (hi : i < ms.length), w.cell? ⟨b, off + i * 3 + 0, none⟩ = some (.int .i64 ms[i].id) ∧ w.cell? ⟨b, off + i * 3 + 1, none⟩ = some (.int .i64 ms[i].sec) ∧ w.cell? ⟨b, off + i * 3 + 2, none⟩ = some (.int .i64 ms[i].st)) :
    Cells w b off (mvals ms) := by
  intro j hj
  have hl := mvals_length ms
  have hi : j / 3 < ms.length := by omega
  have hr : j % 3 < 3 := Nat.mod_lt _ (by decide)
  have hj' : j / 3 * 3 + j % 3 = j := Nat.div_add_mod' j 3
  have e := flatMap_at ms Mem.vals 3 (fun _ _ => rfl) (j / 3) (j % 3) hi hr
  obtain ⟨h0, h1, h2⟩ := h (j / 3) hi
  rw [hj'] at e
  have e2 : (mvals ms)[j]? = some (mvals ms)[j] := List.getElem?_eq_getElem hj
  have e3 : some (mvals ms)[j] = (ms[j / 3].vals)[j % 3]? := e2.symm.trans e
  have hc : j % 3 = 0 ∨ j % 3 = 1 ∨ j % 3 = 2 := by omega
  rcases hc with hc | hc | hc
  · rw [e3, hc, show off + j = off + j / 3 * 3 + 0 from by omega, h0]; rfl
  · rw [e3, hc, show off + j = off + j / 3 * 3 + 1 from by omega, h1]; rfl
  · rw [e3, hc, show off + j = off + j / 3 * 3 + 2 from by omega, h2]; rfl

set_option maxRecDepth 100000 in
/-- MEMBERS THAT COME IN AS AN ARGUMENT -/
theorem open_mems {H : Type} {enc : TypeId × Value → H} {w : World} {base : Nat} {spare : Nat → Bool} {held : Bool} {fuel : Nat} {v : Value} {x : DataW H × List MemPlace}
    (h : DataW.trod enc Try.prog w base spare held fuel 22 [v] = some x) : ∃ ms, MSrc w v ms := by
  rcases Go.Deep.open_slice Try.underlying22 h with ⟨hcs, _⟩ | ⟨a, len, cap, m, n, D, Pl, hcs, _, hl, hmx, hm, _, hi⟩
  · simp at hcs; exact ⟨[], .inl ⟨none, 0, hcs, rfl, fun _ => rfl⟩⟩
  simp at hcs
  subst hcs
  have hlm : len ≤ m := by rw [hm]; split <;> omega
  have hC : Try.prog.cellsOf 38 = 3 := by kernel_rfl
  have hC1 : Try.prog.cellsOf 3 = 1 := by kernel_rfl
  have key : ∀ i, ∃ y : Mem, i < len → w.cell? ((a.add (i * 3)).add 0) = some (.int .i64 y.id) ∧ w.cell? ((a.add (i * 3)).add 1) = some (.int .i64 y.sec) ∧ w.cell? ((a.add (i * 3)).add 2) = some (.int .i64 y.st) := by
    intro i
    by_cases hil : i < len
    · obtain ⟨cs', hc, ht⟩ := hi i (by omega)
      rw [hC] at hc
      obtain ⟨_, hcl, hat⟩ := World.cells?_some hc
      obtain ⟨xs, n', _, _, _, hxl, hf⟩ := DataW.trod_struct Try.underlying38 ht
      replace hxl : xs.length = 3 := hxl
      rcases cs' with _ | ⟨c0, _ | ⟨c1, _ | ⟨c2, _ | ⟨c3, r⟩⟩⟩⟩ <;> simp at hcl
      have f0 : DataW.trod enc Try.prog w base spare held n' 3 ((([c0, c1, c2] : List Value).drop 0).take (Try.prog.cellsOf 3)) = xs[0]? := hf 0 _ rfl
      have f1 : DataW.trod enc Try.prog w base spare held n' 3 ((([c0, c1, c2] : List Value).drop 1).take (Try.prog.cellsOf 3)) = xs[1]? := hf 1 _ rfl
      have f2 : DataW.trod enc Try.prog w base spare held n' 3 ((([c0, c1, c2] : List Value).drop 2).take (Try.prog.cellsOf 3)) = xs[2]? := hf 2 _ rfl
      rw [hC1, List.getElem?_eq_getElem (by omega)] at f0 f1 f2
      obtain ⟨z0, hz0, _, _⟩ := DataW.trod_int Try.underlying3 f0
      obtain ⟨z1, hz1, _, _⟩ := DataW.trod_int Try.underlying3 f1
      obtain ⟨z2, hz2, _, _⟩ := DataW.trod_int Try.underlying3 f2
      simp at hz0 hz1 hz2
      subst hz0 hz1 hz2
      exact ⟨⟨z0, z1, z2⟩, fun _ => ⟨hat 0 (by omega), hat 1 (by omega), hat 2 (by omega)⟩⟩
    · exact ⟨⟨0, 0, 0⟩, fun h' => absurd h' hil⟩
  obtain ⟨f, hf⟩ := Classical.axiomOfChoice key
  by_cases h0 : len = 0
  · subst h0; exact ⟨[], .inl ⟨_, _, rfl, rfl, by simp⟩⟩
  · obtain ⟨b, off, spot⟩ := a
    have hsp := World.cell?_spot (hf 0 (by omega)).1
    have hspot : spot = none := by simpa [Addr.add] using hsp
    subst hspot
    refine ⟨(List.range len).map f, .inr ⟨b, off, cap, by simp, by simpa using hl, hmx, mvals_cells fun i hi => ?_⟩⟩
    have hi' : i < len := by simpa using hi
    have := hf i hi'
    simp only [Addr.add_mid] at this
    simpa using this

end Go.Proofs.Ytpnpconphpbcaaa
