/- ref14: Groups. -/
import Derived.Test.YtglplhmclfekfaaUrf
namespace Go.Proofs.Ytglplhmclfekfaa
open Go.RowKit
set_option linter.unusedVariables false
set_option linter.unusedSimpArgs false

/-- the least number above 'last' among the first i, or -1 -/
def bestN (N : List Int) (last : Int) : Nat → Int
  | 0 => -1
  | i + 1 => if last < N.getD i 0 ∧ (bestN N last i < 0 ∨ N.getD i 0 < bestN N last i) then N.getD i 0 else bestN N last i
/-- no number twice, none below 0 -/
structure NFine (N : List Int) : Prop where
  nod : ∀ j k, j < N.length → k < N.length → N.getD j 0 = N.getD k 0 → j = k
  pos : ∀ k, k < N.length → 0 ≤ N.getD k 0
  top : ∀ k, k < N.length → N.getD k 0 ≤ 9223372036854775807
section
variable {N : List Int}
theorem bestN_spec (hp : ∀ k, k < N.length → 0 ≤ N.getD k 0) {last : Int} : ∀ {i}, i ≤ N.length →
    (bestN N last i = -1 ∧ ∀ j, j < i → N.getD j 0 ≤ last) ∨ ∃ j, j < i ∧ bestN N last i = N.getD j 0 ∧ last < bestN N last i ∧ ∀ j', j' < i → last < N.getD j' 0 → bestN N last i ≤ N.getD j' 0
  | 0, _ => .inl ⟨rfl, fun j h => by omega⟩
  | i + 1, h => by
    have h0 := hp i (by omega)
    have ih := bestN_spec hp (last := last) (i := i) (by omega)
    unfold bestN
    generalize bestN N last i = b at *
    by_cases hc : last < N.getD i 0 ∧ (b < 0 ∨ N.getD i 0 < b)
    · rw [if_pos hc]
      refine .inr ⟨i, by omega, rfl, hc.1, fun j' hj' hl => ?_⟩
      by_cases e : j' = i
      · rw [e]; exact Int.le_refl _
      · rcases ih with ⟨rfl, h1⟩ | ⟨j, hj, h1, h2, h3⟩
        · have := h1 j' (by omega); omega
        · have := h3 j' (by omega) hl
          have := hp j (by omega)
          rcases hc.2 with h4 | h4 <;> omega
    · rw [if_neg hc]
      rcases ih with ⟨rfl, h1⟩ | ⟨j, hj, h1, h2, h3⟩
      · refine .inl ⟨rfl, fun j' hj' => ?_⟩
        by_cases e : j' = i
        · rw [e]; omega
        · exact h1 j' (by omega)
      · refine .inr ⟨j, by omega, h1, h2, fun j' hj' hl => ?_⟩
        by_cases e : j' = i
        · rw [e] at hl ⊢
          have := hp j (by omega)
          omega
        · exact h3 j' (by omega) hl
theorem mem_N {n : Int} : n ∈ N ↔ ∃ k, k < N.length ∧ N.getD k 0 = n := by
  rw [List.mem_iff_getElem]
  constructor
  · rintro ⟨k, hk, rfl⟩
    exact ⟨k, hk, by simp [List.getD_eq_getElem?_getD, hk]⟩
  · rintro ⟨k, hk, rfl⟩
    exact ⟨k, hk, by simp [List.getD_eq_getElem?_getD, hk]⟩
theorem NFine.nums (h : NFine N) : N.Nodup := by
  rw [List.Nodup, List.pairwise_iff_getElem]
  intro a b ha hb hab e
  have := h.nod a b ha hb (by simp [List.getD_eq_getElem?_getD, ha, hb, e])
  omega
/-- k rounds have been -/
structure DsN (N : List Int) (k : Nat) (out : List Int) (last : Int) : Prop where
  len : out.length = k
  ris : out.Pairwise (· < ·)
  mem : ∀ n ∈ out, n ∈ N ∧ n ≤ last
  rest : ∀ j, j < N.length → N.getD j 0 ≤ last → N.getD j 0 ∈ out
theorem DsN.zero (h : NFine N) : DsN N 0 [] (-1) := ⟨rfl, List.Pairwise.nil, (fun n hn => by cases hn), (fun j hj hl => by have := h.pos j hj; omega)⟩
theorem DsN.step {k : Nat} {out : List Int} {last : Int} (h : DsN N k out last) (hf : NFine N) (hk : k < N.length) : DsN N (k + 1) (out ++ [bestN N last N.length]) (bestN N last N.length) := by
  rcases bestN_spec hf.pos (last := last) (Nat.le_refl N.length) with ⟨_, h1⟩ | ⟨j, hj, h1, h2, h3⟩
  · have hsub : N ⊆ out := fun n hn => by
      obtain ⟨j, hj, rfl⟩ := mem_N.1 hn
      exact h.rest j hj (h1 j hj)
    have := hf.nums.length_le_of_subset hsub
    rw [h.len] at this
    omega
  · generalize bestN N last N.length = b at *
    refine ⟨by simp [h.len], ?_, fun n hn => ?_, fun j' hj' hl => ?_⟩
    · rw [List.pairwise_append]
      refine ⟨h.ris, by simp, fun x hx y hy => ?_⟩
      have : y = b := by simpa using hy
      have := (h.mem x hx).2
      omega
    · rw [List.mem_append] at hn
      rcases hn with hn | hn
      · exact ⟨(h.mem n hn).1, by have := (h.mem n hn).2; omega⟩
      · have : n = b := by simpa using hn
        rw [this]
        exact ⟨mem_N.2 ⟨j, hj, h1.symm⟩, Int.le_refl _⟩
    · rw [List.mem_append]
      by_cases hc : N.getD j' 0 ≤ last
      · exact .inl (h.rest j' hj' hc)
      · have := h3 j' hj' (by omega)
        exact .inr (by rw [List.mem_singleton]; omega)
theorem DsN.all {out : List Int} {last : Int} (h : DsN N N.length out last) (hf : NFine N) (n : Int) : n ∈ out ↔ n ∈ N := by
  refine ⟨fun hn => (h.mem n hn).1, fun hn => ?_⟩
  by_cases e : n ∈ out
  · exact e
  · exfalso
    have hnd : (n :: out).Nodup := List.nodup_cons.2 ⟨e, h.ris.imp (fun hab => by omega)⟩
    have := hnd.length_le_of_subset (l₂ := N) (fun x hx => by
      rcases List.mem_cons.1 hx with rfl | hx
      · exact hn
      · exact (h.mem x hx).1)
    rw [List.length_cons, h.len] at this
    omega
/-- rising lists of the same numbers are one -/
theorem rising_one {a b : List Int} (ha : a.Pairwise (· < ·)) (hb : b.Pairwise (· < ·)) (h : ∀ n, n ∈ a ↔ n ∈ b) : a = b := by
  have na : a.Nodup := ha.imp fun h => by omega
  have nb : b.Nodup := hb.imp fun h => by omega
  have hp : a.Perm b := by
    rw [List.perm_iff_count]
    intro n
    have h1 := na.count (a := n)
    have h2 := nb.count (a := n)
    rw [h1, h2]
    by_cases e : n ∈ a
    · rw [if_pos e, if_pos ((h n).1 e)]
    · rw [if_neg e, if_neg (fun h' => e ((h n).2 h'))]
  exact hp.eq_of_pairwise (le := (· < ·)) (fun x y _ _ h1 h2 => by omega) ha hb
end
theorem ids_at {G : UG} {k : Nat} (hk : k < G.length) : (G.map Prod.fst).getD k 0 = G[k].1 := by simp [List.getD_eq_getElem?_getD, hk]
theorem UR.nfine {G : UG} {L : UL} {T : Tab} (h : UR G L T) : NFine (G.map Prod.fst) := by
  refine ⟨fun j k hj hk e => ?_, fun k hk => ?_, fun k hk => ?_⟩
  · rw [List.getD_eq_getElem?_getD, List.getD_eq_getElem?_getD, List.getElem?_eq_getElem hj, List.getElem?_eq_getElem hk] at e
    have hn := h.nod
    rw [List.Nodup, List.pairwise_iff_getElem] at hn
    rcases Nat.lt_trichotomy j k with h1 | h1 | h1
    · exact absurd e (hn j k hj hk h1)
    · exact h1
    · exact absurd e.symm (hn k j hk hj h1)
  · have hk' : k < G.length := by simpa using hk
    rw [ids_at hk']; exact (h.ids _ (List.getElem_mem hk')).1
  · have hk' : k < G.length := by simpa using hk
    rw [ids_at hk']; exact (h.ids _ (List.getElem_mem hk')).2
theorem UR.mem_ids {G : UG} {L : UL} {T : Tab} (h : UR G L T) (n : Int) : n ∈ G.map Prod.fst ↔ T.g n ≠ none := by
  rw [List.mem_map]
  constructor
  · rintro ⟨p, hp, rfl⟩ e
    obtain ⟨z, hz, _⟩ := (h.grp p.1 p.2).1 hp
    rw [Tab.sz_none.2 e] at hz; cases hz
  · intro hn
    cases hz : T.sz n with
    | none => exact absurd (Tab.sz_none.1 hz) hn
    | some z => exact ⟨(n, (z : Int)), (h.grp _ _).2 ⟨z, hz, rfl⟩, rfl⟩
theorem own_ge {W : World} {e sz n : Nat} {v : Value} {xs : List Value} {base : Nat} (h : W.ownsRow 0 e sz v n xs) (hn : ∀ B, v.ownBlock = some B → base ≤ B) : W.ownsRow base e sz v n xs := by
  refine ⟨h.1, ?_⟩
  rcases h.2 with h0 | ⟨g, cap, cur, rfl, _, hr⟩
  · exact .inl h0
  · exact .inr ⟨g, cap, cur, rfl, hn g rfl, hr⟩
section
variable {w : World} {q c : Nat} {G : UG} {L : UL} {T : Tab} {vg vl : Value}
set_option maxHeartbeats 1000000
set_option maxRecDepth 100000
theorem ur_Groups (h : UX w q G L T c vg vl) (hc : c ≤ 1000) :
    Calls Try.prog 82 #[.pointer (some ⟨q, 0, none⟩)] w fun e w' => ∃ (x : Value) (ks : List Int), e = .returned x ∧ (∀ n, n ∈ ks ↔ T.g n ≠ none) ∧ ks.Pairwise (· < ·) ∧ ks.length ≤ c ∧ w'.ownsRow w.heap.size 3 1 x ks.length (ints ks) ∧ Kept w w' := by
  have c0 := h.ud.c0
  obtain ⟨ao, cap, hv⟩ := h.ud.formG
  have HV := Lib.hid hv
  rw [hv] at c0
  have hgl := h.gl
  have H := Lib.hid h
  have hf := h.ur.nfine
  have HF := Lib.hid hf
  have HIDS := Lib.hid h.ur.mem_ids
  obtain ⟨N, hN⟩ : ∃ N, N = G.map Prod.fst := ⟨_, rfl⟩
  have HAT := Lib.hid (fun k (hk : k < G.length) => (ids_at hk : _ = G[k].1))
  rw [← hN] at HF hf HIDS HAT
  have hNl : N.length = G.length := by rw [hN]; simp
  have hk1 := (Kept.refl w).alloc (Obj.cells #[] 3)
  have hb1 := heap_alloc_new w (Obj.cells #[] 3)
  have HO1 : Hid ((w.alloc (Obj.cells #[] 3)).ownsRow 0 3 1 (.slice (some ⟨w.heap.size, 0, none⟩) 0 0) 0 (ints [])) := Lib.hid (own_made hb1)
  have HK1 := Lib.hid hk1
  have HD0 := Lib.hid (DsN.zero hf)
  clear h hv hf hk1 hb1 hN
  go_enter Try.func82, Try.ntmps82
  go_wp2
  go_loopw [3, 4, 5] (fun ov la n wr => ∃ (o : Value) (k : Nat) (out : List Int) (last : Int), o = ov ∧ k ≤ G.length ∧ n = .int .i64 k ∧ la = .int .i64 last ∧ Hid (wr.ownsRow 0 3 1 o k (ints out)) ∧ Hid (DsN N k out last) ∧ Hid (Kept w wr) ∧ Hid (∀ B, o.ownBlock = some B → w.heap.size ≤ B)) (fun _ _ n _ => G.length - (intOf n).toNat)
  case atStart => exact ⟨_, 0, [], -1, rfl, Nat.zero_le _, rfl, rfl, HO1, HD0, HK1, Lib.hid (fun B hB => by simp [Value.ownBlock] at hB; omega)⟩
  case round =>
    clear HO1 HD0 HK1
    obtain ⟨o, k, out, last, rfl, hk, rfl, rfl, HO, HD, HK, HN⟩ := hrel
    have c0r := HK.out.cell' c0
    by_cases hlt : k < G.length
    · have hlen0 : G.length ≠ 0 := by omega
      go_wp2
      go_loopw [6, 7] (fun b i wq => ∃ j : Nat, j ≤ G.length ∧ i = .int .i64 j ∧ b = .int .i64 (bestN N last j) ∧ wr = wq) (fun _ i _ => G.length - (intOf i).toNat)
      case atStart => exact ⟨0, Nat.zero_le _, rfl, rfl, rfl⟩
      case round =>
        obtain ⟨j, hj, rfl, rfl, rfl⟩ := hrel
        by_cases hjl : j < G.length
        · obtain ⟨g, cap', hv', c1, _⟩ := H.out.ud.atG hjl
          rw [HV.out] at hv'
          injection hv' with ha _ hcap
          subst ha
          clear hcap
          have c1r := HK.out.cell' c1
          have hs : bestN N last (j + 1) = if last < N.getD j 0 ∧ (bestN N last j < 0 ∨ N.getD j 0 < bestN N last j) then N.getD j 0 else bestN N last j := rfl
          rw [HAT.out j hjl] at hs
          generalize hb2 : bestN N last (j + 1) = b2 at *
          generalize bestN N last j = b at *
          generalize G[j].1 = x at *
          have HB2 := Lib.hid hb2
          by_cases h1 : last < x
          · by_cases h2 : b < 0
            · have HS : Hid (b2 = x) := Lib.hid (by rw [hs, if_pos ⟨h1, .inl h2⟩])
              clear hs hb2
              go_wp2
              go_roundw
              case rel => exact ⟨j + 1, hjl, by go_num, by rw [HB2.out, HS.out], trivial⟩
              case measure => simp [intOf]; omega
            · by_cases h3 : x < b
              · have HS : Hid (b2 = x) := Lib.hid (by rw [hs, if_pos ⟨h1, .inr h3⟩])
                clear hs hb2
                go_wp2
                go_roundw
                case rel => exact ⟨j + 1, hjl, by go_num, by rw [HB2.out, HS.out], trivial⟩
                case measure => simp [intOf]; omega
              · have HS : Hid (b2 = b) := Lib.hid (by rw [hs, if_neg (by omega)])
                clear hs hb2
                go_wp2
                go_roundw
                case rel => exact ⟨j + 1, hjl, by go_num, by rw [HB2.out, HS.out], trivial⟩
                case measure => simp [intOf]; omega
          · have HS : Hid (b2 = b) := Lib.hid (by rw [hs, if_neg (by omega)])
            clear hs hb2
            go_wp2
            go_roundw
            case rel => exact ⟨j + 1, hjl, by go_num, by rw [HB2.out, HS.out], trivial⟩
            case measure => simp [intOf]; omega
        · have hjj : j = G.length := by omega
          subst hjj
          have HST := Lib.hid (HD.out.step HF.out (by omega))
          rw [hNl] at HST
          generalize bestN N last G.length = b at *
          have hk4 := (Kept.refl wr).alloc (Obj.cells #[Value.int .i64 b] 3)
          have hb4 := heap_alloc_new wr (Obj.cells #[Value.int .i64 b] 3)
          have HO4 := Lib.hid (own_same HO.out fun g' hg' => hk4.block_eq (own_lt HO.out hg'))
          obtain ⟨v', w5, hrun, hown, hgrw⟩ := own_append ty_ints HO4.out (by omega) (by decide) [Value.int .i64 b] rfl (b := wr.heap.size) (fun j u hu => by rw [cell_of_row _ _ j _ _ _ hb4]; simpa using hu) (by intro u hu; simp at hu; rcases hu with rfl; rfl) 56
          obtain ⟨hk5, hn5⟩ := hgrw.kept (HK.out.trans hk4) HN.out
          have HK5 := Lib.hid hk5
          have HN5 := Lib.hid hn5
          have HOWN : Hid (w5.ownsRow 0 3 1 v' (k + 1) (ints (out ++ [b]))) := Lib.hid (by simpa [ints] using hown)
          have HRUN := Lib.hid hrun
          clear hk4 hb4 HO4 hrun hown hgrw hk5 hn5
          go_wp2_with (refine stop_at (o := ⟨some 64, _, _, _, _, _⟩) ?_)
          refine Stop.mk ?_
          refine wpList_plain rfl fun K hK => ?_
          refine wp_append_runU rfl rfl rfl HRUN.out ?_
          refine hK _ _ ?_
          clear hK K HRUN
          go_wp2
          go_roundw
          case rel => exact ⟨_, k + 1, out ++ [b], b, rfl, hlt, by go_num, rfl, HOWN, HST, HK5, HN5⟩
          case measure => simp [intOf]; omega
    · have hkk : k = G.length := by omega
      subst hkk
      rw [← hNl] at HD
      have HR := Lib.hid (HD.out.all HF.out)
      have HL := Lib.hid HD.out.len
      have HP := Lib.hid HD.out.ris
      clear HD
      go_wp2
      go_ret
      exact ⟨_, out, rfl, fun n => (HR.out n).trans (HIDS.out n), HP.out, by rw [HL.out]; omega, by rw [HL.out, hNl]; exact own_ge HO.out HN.out, HK.out⟩
end
end Go.Proofs.Ytglplhmclfekfaa
