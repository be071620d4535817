/- The label laws' cut; the document's Same. -/
import Derived.Test.YtpnpconphpbcaaaLabM
namespace Go.Proofs.Ytpnpconphpbcaaa
open Go.RowKit
set_option linter.unusedVariables false
set_option linter.unusedSimpArgs false

theorem ownsRow_same {w w1 : World} {base e size n : Nat} {v : Value} {xs : List Value} (h : ∀ k, base ≤ k → w1.heap[k]? = w.heap[k]?) (ho : w.ownsRow base e size v n xs) : w1.ownsRow base e size v n xs := by
  refine ⟨ho.1, ?_⟩
  rcases ho.2 with h2 | ⟨g', cap, cur, hv, hb, hh, r⟩
  · exact .inl h2
  · exact .inr ⟨g', cap, cur, hv, hb, by rw [h g' hb]; exact hh, r⟩
theorem MSl.form {w : World} {v : Value} {ms : List Mem} (h : MSl w v ms) : ∃ oa cap, v = .slice oa ms.length cap := by
  rcases h with ⟨rfl, rfl⟩ | ⟨b, off, cap, rfl, _⟩
  · exact ⟨_, _, rfl⟩
  · exact ⟨_, _, rfl⟩

section
variable {ops : Array Oper} {rest : List Oper} {o : Oper} {a : Act} {w : World} {Q : Exit → Act → World → Prop}
/-- append([]Member{}, l...): what comes out outlives a write to what was there. -/
theorem wpList_append_fresh' (hgd : o.guard = none) (s x : Operand)
    (ho : o.op = .call { callee := .builtin .append, args := #[s, x], argTypes := #[22, 22] }) (g : Nat) (hs : a.eval s = .slice (some ⟨g, 0, none⟩) 0 0)
    (xv : Value) (hxe : a.eval x = xv) (ms : List Mem) (hx : Src w 3 xv ms.length (mvals ms)) (hlen : ms.length ≤ 1000)
    (h : ∀ v' w', MSl w' v' ms → Kept w w' → (∀ W : World, (∀ k, w.heap.size ≤ k → W.heap[k]? = w'.heap[k]?) → MSl W v' ms) → wpList Try.prog ops Q rest (a.put o.dst v') w') : wpList Try.prog ops Q (o :: rest) a w := by
  by_cases h0 : ms = []
  · subst h0
    obtain ⟨_, ax, c, rfl, _⟩ := hx
    have hm : ∀ W, MSl W (.slice (some ⟨g, 0, none⟩) 0 0) [] := fun W => .inr ⟨g, 0, 0, rfl, fun i hi => by simp at hi⟩
    exact wpList_append_zero w hgd s x ho ty_mems (some ⟨g, 0, none⟩) ax 0 c hs hxe (by decide) (h _ _ (hm _) (Kept.refl _) (fun _ _ => hm _))
  · have hp : 0 < ms.length := List.length_pos_iff.2 h0
    refine wpList_append_app w hgd s x ho ty_mems w.heap.size _ 0 [] hs (.inr ⟨rfl, _, rfl, by simp, by simp⟩) xv ms.length (mvals ms) hxe hx (mvals_one ms) (by simp only [maxLen]; omega) (by omega) (Nat.le_refl _) ?_
    intro v' w' _ _ hbw hown
    have ho := hown (.inl hp)
    rw [Nat.zero_add, List.nil_append] at ho
    exact h v' w' (MSl.of_owns ho) hbw (fun W hW => MSl.of_owns (ownsRow_same hW ho))
end

def Lab.cut (l : Lab) : Lab := ⟨l.array, l.gen, l.member, l.blocks, l.ms.take 20⟩
theorem size_slices : (Try.prog.info? 22).map (·.size) = some 1 := by kernel_rfl

attribute [local go_sem ↓] Go.wp_at_zero Go.wp_at_succ
set_option maxHeartbeats 2000000 in
set_option maxRecDepth 100000 in
theorem law_cut (l : Lab) (oa0 : Option Addr) (n0 cap0 : Nat) (w : World) (hs : MSrc w (.slice oa0 n0 cap0) l.ms) :
    Calls Try.prog 11 #[l.val (.slice oa0 n0 cap0)] w fun e w' => ∃ sl, e = .returned (l.cut.val sl) ∧ MSl w' sl (l.ms.take 20) ∧ Kept w w' ∧ ∀ W : World, (∀ k, w.heap.size ≤ k → W.heap[k]? = w'.heap[k]?) → MSl W sl (l.ms.take 20) := by
  obtain ⟨array, gen, member, blocks, ms0⟩ := l
  simp only [Lab.val, Lab.cut] at hs ⊢
  have HSRC := Lib.hid hs; clear hs
  go_enter Try.func11, Try.ntmps11
  go_upto_region 1 with fail
  go_cut [] (fun wc => ∃ sl, wc.heap[w.heap.size]? = some (.cells #[.int .i64 array, .int .i64 gen, .int .i64 member, .int .i64 blocks, sl] 24 (0, 0)) ∧
    wc.heap[w.heap.size + 1]? = some (.cells #[.int .i64 0, .int .i64 0, .int .i64 0, .int .i64 0, .slice none 0 0] 24 (0, 0)) ∧ MSl wc sl (ms0.take 20) ∧ Kept w wc ∧
    ∀ W : World, (∀ k, w.heap.size + 2 ≤ k → W.heap[k]? = wc.heap[k]?) → MSl W sl (ms0.take 20))
  case first =>
    have HB := Lib.hid (fun (c : Value) (W : World) (hk : Kept (((w.alloc (.cells #[.int .i64 array, .int .i64 gen, .int .i64 member, .int .i64 blocks, c] 24)).alloc (.cells #[.int .i64 0, .int .i64 0, .int .i64 0, .int .i64 0, .slice none 0 0] 24)).alloc (.cells #[] 38)) W) =>
      hk.block (((((Kept.refl (w.alloc (.cells #[.int .i64 array, .int .i64 gen, .int .i64 member, .int .i64 blocks, c] 24))).alloc _).alloc _).block (heap_alloc_new w _))))
    have HZ := Lib.hid (fun (c : Value) (W : World) (hk : Kept (((w.alloc (.cells #[.int .i64 array, .int .i64 gen, .int .i64 member, .int .i64 blocks, c] 24)).alloc (.cells #[.int .i64 0, .int .i64 0, .int .i64 0, .int .i64 0, .slice none 0 0] 24)).alloc (.cells #[] 38)) W) => by
      have := hk.block (((Kept.refl ((w.alloc (.cells #[.int .i64 array, .int .i64 gen, .int .i64 member, .int .i64 blocks, c] 24)).alloc (.cells #[.int .i64 0, .int .i64 0, .int .i64 0, .int .i64 0, .slice none 0 0] 24))).alloc (.cells #[] 38)).block (heap_alloc_new (w.alloc (.cells #[.int .i64 array, .int .i64 gen, .int .i64 member, .int .i64 blocks, c] 24)) _))
      rw [World.size_alloc] at this
      exact this)
    obtain ⟨oa1, cap1, h, rfl, hn⟩ | ⟨b, off, cap, h, hcap, hmax, hc⟩ := HSRC.out
    · cases h
      obtain rfl | ⟨ad, rfl⟩ : oa0 = none ∨ ∃ ad, oa0 = some ad := by cases oa0 <;> simp
      · obtain rfl := hn rfl
        go_wp2_with (first
          | (refine wpList_append_fresh' rfl _ _ (by rfl) (w.heap.size + 1 + 1) rfl _ rfl [] Src.nil (by simp; try omega) ?_; intro v' w2 hm2 hk2 hst; obtain ⟨oa2, cap2, rfl⟩ := hm2.form; have hb2 := Lib.hid (HB.out _ w2 hk2); have hb3 := Lib.hid (HZ.out _ w2 hk2); have hs2 := hk2.size)
          | (refine wpList_store_one rfl _ _ rfl size_slices w.heap.size 4 rfl _ rfl rfl rfl [.int .i64 array, .int .i64 gen, .int .i64 member, .int .i64 blocks, .slice none 0 0] 24 hb2.out (by simp) ?_; intro w4 hw4))
        go_meet
        case rel =>
          simp only [World.size_alloc] at hs2 hst
          exact ⟨_, hw4.blk, (hw4.oth (w.heap.size + 1) (by omega)).trans hb3.out, hst _ (fun k hk => hw4.oth k (by omega)), hw4.kept (((((Kept.refl w).alloc _).alloc _).alloc _).trans hk2) (Nat.le_refl _), fun W hW => hst W (fun k hk => (hW k (by omega)).trans (hw4.oth k (by omega)))⟩
      · go_wp2_with (first
          | (refine wpList_append_fresh' rfl _ _ (by rfl) (w.heap.size + 1 + 1) rfl _ rfl [] (Src.zero (ax := some ad) (c := cap0) (by simp)) (by simp; try omega) ?_; intro v' w2 hm2 hk2 hst; obtain ⟨oa2, cap2, rfl⟩ := hm2.form; have hb2 := Lib.hid (HB.out _ w2 hk2); have hb3 := Lib.hid (HZ.out _ w2 hk2); have hs2 := hk2.size)
          | (refine wpList_store_one rfl _ _ rfl size_slices w.heap.size 4 rfl _ rfl rfl rfl [.int .i64 array, .int .i64 gen, .int .i64 member, .int .i64 blocks, .slice (some ad) 0 cap0] 24 hb2.out (by simp) ?_; intro w4 hw4))
        go_meet
        case rel =>
          simp only [World.size_alloc] at hs2 hst
          exact ⟨_, hw4.blk, (hw4.oth (w.heap.size + 1) (by omega)).trans hb3.out, hst _ (fun k hk => hw4.oth k (by omega)), hw4.kept (((((Kept.refl w).alloc _).alloc _).alloc _).trans hk2) (Nat.le_refl _), fun W hW => hst W (fun k hk => (hW k (by omega)).trans (hw4.oth k (by omega)))⟩
    cases h
    simp only [maxLen] at hmax
    have hS := fun n hn => MSrc.src (n := n) hc hn hcap
    have HS := Lib.hid hS; clear hS
    clear hc HSRC
    by_cases h20 : ms0.length ≤ 20
    · go_wp2_with (first
        | (refine wpList_append_fresh' rfl _ _ (by rfl) (w.heap.size + 1 + 1) rfl _ rfl (ms0.take ms0.length) ((HS.out _ (Nat.le_refl _)).kept ((((Kept.refl w).alloc _).alloc _).alloc _)) (by simp; try omega) ?_; intro v' w2 hm2 hk2 hst; obtain ⟨oa2, cap2, rfl⟩ := hm2.form; have hb2 := Lib.hid (HB.out _ w2 hk2); have hb3 := Lib.hid (HZ.out _ w2 hk2); have hs2 := hk2.size)
        | (refine wpList_store_one rfl _ _ rfl size_slices w.heap.size 4 rfl _ rfl rfl rfl [.int .i64 array, .int .i64 gen, .int .i64 member, .int .i64 blocks,   .slice (some ⟨b, off, none⟩) ms0.length cap0] 24 hb2.out (by simp) ?_; intro w4 hw4))
      go_meet
      case rel =>
        simp only [World.size_alloc] at hs2 hst
        rw [List.take_of_length_le h20]
        simp only [List.take_length] at hst
        exact ⟨_, hw4.blk, (hw4.oth (w.heap.size + 1) (by omega)).trans hb3.out, hst _ (fun k hk => hw4.oth k (by omega)), hw4.kept (((((Kept.refl w).alloc _).alloc _).alloc _).trans hk2) (Nat.le_refl _), fun W hW => hst W (fun k hk => (hW k (by omega)).trans (hw4.oth k (by omega)))⟩
    · go_wp2_with (first
        | (refine wpList_append_fresh' rfl _ _ (by rfl) (w.heap.size + 1 + 1) rfl _ rfl (ms0.take 20) ((HS.out 20 (by omega)).kept ((((Kept.refl w).alloc _).alloc _).alloc _)) (by simp; try omega) ?_; intro v' w2 hm2 hk2 hst; obtain ⟨oa2, cap2, rfl⟩ := hm2.form; have hb2 := Lib.hid (HB.out _ w2 hk2); have hb3 := Lib.hid (HZ.out _ w2 hk2); have hs2 := hk2.size)
        | (refine wpList_store_one rfl _ _ rfl size_slices w.heap.size 4 rfl _ rfl rfl rfl [.int .i64 array, .int .i64 gen, .int .i64 member, .int .i64 blocks,   .slice (some ⟨b, off, none⟩) ms0.length cap0] 24 hb2.out (by simp) ?_; intro w4 hw4))
      go_meet
      case rel =>
        simp only [World.size_alloc] at hs2 hst
        simp only [List.length_take] at hst
        exact ⟨_, hw4.blk, (hw4.oth (w.heap.size + 1) (by omega)).trans hb3.out, hst _ (fun k hk => hw4.oth k (by omega)), hw4.kept (((((Kept.refl w).alloc _).alloc _).alloc _).trans hk2) (Nat.le_refl _), fun W hW => hst W (fun k hk => (hW k (by omega)).trans (hw4.oth k (by omega)))⟩
  case rest =>
    obtain ⟨sl, h0, h1, hm, hk, hstay⟩ := hcut
    have H0 := Lib.hid h0; clear h0
    have H1 := Lib.hid h1; clear h1
    have HM := Lib.hid hm; clear hm
    have HST := Lib.hid hstay; clear hstay
    have HONE := Lib.hid (lab_one ⟨array, gen, member, blocks, []⟩ sl HM.out.one)
    go_wp2_with (first
      | (refine wpList_load_agg rfl _ rfl ty_lab w.heap.size 0 rfl [.int .i64 array, .int .i64 gen, .int .i64 member, .int .i64 blocks, sl] (by simpa using Cells.of_block H0.out) rfl ?_)
      | (refine wpList_store_agg rfl _ _ rfl ty_lab (w.heap.size + 1) 0 rfl [.int .i64 array, .int .i64 gen, .int .i64 member, .int .i64 blocks, sl] rfl rfl HONE.out [.int .i64 0, .int .i64 0, .int .i64 0, .int .i64 0, .slice none 0 0] 24 H1.out (by decide) ?_; intro w6 hw6))
    replace hw6 := hw6.all rfl
    refine bodyPost_ret (results_lab1 rfl _ _ (w.heap.size + 1) ⟨array, gen, member, blocks, ms0.take 20⟩ sl rfl hw6.cells) rfl ?_
    exact ⟨sl, rfl, HST.out w6 (fun k hk => hw6.oth k (by omega)), hw6.kept hk (by omega), fun W hW => HST.out W (fun k hk => (hW k (by omega)).trans (hw6.oth k (by omega)))⟩

end Go.Proofs.Ytpnpconphpbcaaa
