/- UsageEmptiest: the walk. -/
import Derived.Test.YtpnpconphpbcaaaUem
namespace Go.Proofs.Ytpnpconphpbcaaa
open Go.RowKit Go.ChangeMaps Go.MapKept
set_option linter.unusedVariables false
set_option linter.unusedSimpArgs false

def cntOf (l : List Int) (i : Nat) : Nat := (bits .and .i64 (l.getD i 0) 7).toNat
theorem cntOf_eq (l : List Int) (i : Nat) (h : i < l.length) : bits .and .i64 l[i] 7 = (cntOf l i : Int) ∧ cntOf l i ≤ 7 := by
  obtain ⟨y, hy, hyl⟩ := and_i64 l[i] 3 (by decide) (m := 7) (by decide)
  have e : l.getD i 0 = l[i] := by simp [List.getD_eq_getElem?_getD, h]
  unfold cntOf
  rw [e, hy]
  simp
  omega
section
variable {w W : World} {R : Nat → Prop} {p : Nat} {T : Tab}
set_option maxHeartbeats 4000000
set_option maxRecDepth 100000
theorem law_emptiest (v : Value) (l : List Int) (v2 : Value) (l2 : List Int) (w : World) (hs : ISl w v l) (hs2 : ISl w v2 l2) :
    Calls Try.prog 6 #[v, v2] w fun e w' => e = .returned (.bool true) ∧ Kept w w' := by
  have HS := Lib.hid hs
  obtain ⟨oa, cap, rfl, hcap, hmax, _⟩ := hs
  have HS2 := Lib.hid hs2
  obtain ⟨oa2, cap2, rfl, hcap2, hmax2, _⟩ := hs2
  unfold maxLen at hmax hmax2
  go_enter Try.func6, Try.ntmps6
  go_wp2_with (first
    | (go_at_call 19; refine (usage_shown _).mono ?_; rintro e w1 ⟨rfl, hk1⟩)
    | (go_at_call 20; refine (own_New w _ hk1).mono ?_; rintro e w2 ⟨p, rfl, h2, _⟩; have H2 := Lib.hid (h2.less (R' := fun _ => False) (fun _ h => h.elim)); clear h2 hk1))
  go_loopw [7, 8] (fun n i wr => ∃ (k : Nat) (T : Tab), k ≤ l.length ∧ k ≤ 6 ∧ i = .int .i64 k ∧ n = .int .i64 k ∧ EV T (cntOf l) k ∧ Own w (fun _ => False) wr p T) (fun _ i _ => l.length - (intOf i).toNat)
  case atStart => exact ⟨0, _, by omega, by omega, rfl, rfl, EV.zero _, H2.out⟩
  case round =>
    clear H2
    obtain ⟨k, T, hk, hk6, rfl, rfl, hv, hO⟩ := hrel
    have HO := Lib.hid hO; clear hO
    have HE := Lib.hid hv; clear hv
    by_cases hlt : k < l.length ∧ k < 6
    · obtain ⟨hlt, h6⟩ := hlt
      obtain ⟨b, off, rfl, _⟩ := (HS.out.kept HO.out.keeps).at k hlt
      obtain ⟨hc1, hc2⟩ := cntOf_eq l k hlt
      have HOP := Lib.hid (own_Open HO.out (k : Int) 8 (by omega) (by decide) (by decide) (HE.out.no k (.inr (Int.le_refl _))))
      have HEW := Lib.hid HE.out.open_
      have hck : ∃ c, cntOf l k = c := ⟨_, rfl⟩
      obtain ⟨c, hck⟩ := hck
      rw [hck] at hc1 hc2
      have HCK := Lib.hid hck; clear hck
      have hce : ∀ W, Kept w W → W.cell? ⟨b, off + k, none⟩ = some (.int .i64 l[k]) := fun W hk => by
        obtain ⟨b', off', e, h⟩ := (HS.out.kept hk).at k hlt
        cases e; exact h
      have HCE := Lib.hid hce; clear hce
      generalize l[k] = xk at *
      go_wp2_with (go_at_call 21; refine HOP.out.mono ?_; rintro e w3 ⟨rfl, h3, _⟩; have H3 := Lib.hid h3; clear h3)
      clear HOP
      obtain ⟨wa, rfl⟩ : ∃ wa, wa = wr := ⟨_, rfl⟩
      go_loopw [9] (fun j wr => ∃ (q : Nat) (T : Tab), q ≤ c ∧ j = .int .i64 q ∧ EW T (cntOf l) k q ∧ Own w (fun _ => False) wr p T) (fun j _ => c - (intOf j).toNat)
      case atStart => exact ⟨0, _, by omega, rfl, HEW.out, H3.out⟩
      case round =>
        clear H3 HEW HE HO
        obtain ⟨q, T, hq, rfl, hew, hO⟩ := hrel
        have HO := Lib.hid hO; clear hO
        have HE := Lib.hid hew; clear hew
        have ck := HCE.out _ HO.out.keeps
        by_cases hqc : q < c
        · have HP := Lib.hid (own_Put HO.out HE.out.ok (k : Int) (8 * (k : Int) + (q : Int)) q (HE.out.dead (by omega)) (by omega))
          have HE' := Lib.hid (HE.out.put (by omega : q < 8))
          have HCA := Lib.hid (show ((8 * k + q : Nat) : Int) = 8 * (k : Int) + (q : Int) from by omega)
          rw [HCA.out] at HE'
          go_wp2_with (go_at_call 22; refine HP.out.mono ?_; rintro e w4 ⟨rfl, h4, _⟩; have H4 := Lib.hid h4; clear h4)
          go_roundw
          case rel => exact ⟨q + 1, _, by omega, by go_num, HE'.out, H4.out⟩
          case measure => simp [intOf]; omega
        · have hqe := Lib.hid (show q = c from by omega)
          go_wp2
          go_roundw
          case rel =>
            refine ⟨k + 1, T, by omega, by omega, by go_num, by go_num, ?_, HO.out⟩
            have h := HE.out
            rw [hqe.out, ← HCK.out] at h
            exact h.done (by rw [HCK.out]; exact hc2)
          case measure => simp [intOf]; omega
    · have hkk : l.length ≤ k ∨ (k < l.length ∧ 6 ≤ k) := by omega
      have hkl : k ≤ l.length := hk
      have HEM := Lib.hid (fun (W : World) (hW : Own w (fun _ => False) W p T) => own_Emptiest hW HE.out.ok _ l2 (HS2.out.kept hW.keeps))
      have HEACH := Lib.hid (fun (x : Nat) (hx : (x : Int) ∈ l2) (hn : x < k) => emp_each HE.out l2 hx hn)
      have HFIN := Lib.hid (emp_fin HE.out l2)
      generalize hem : emp T l2 = em at *
      obtain ⟨eg, eok⟩ := em
      clear hlt hem HE
      rcases hkk with hkk | ⟨hkk, h6⟩
      all_goals
        go_wp2_with (go_at_call 23; refine (HEM.out _ HO.out).mono ?_; rintro e w3 ⟨rfl, h3, _⟩; have H3 := Lib.hid h3; clear h3)
        clear HEM HO
        obtain ⟨wa, rfl⟩ : ∃ wa, wa = wr := ⟨_, rfl⟩
        have H3K := Lib.hid H3.out.keeps
        go_loop [12, 13, 14] (fun a b i => ∃ q : Nat, q ≤ l2.length ∧ i = .int .i64 q ∧ a = .bool (someB k (l2.take q)) ∧ b = .bool (inG k eg (l2.take q))) (fun _ _ i => l2.length - (intOf i).toNat)
        case atStart => exact ⟨0, by omega, rfl, rfl, rfl⟩
        case round =>
          obtain ⟨q, hq, rfl, rfl, rfl⟩ := hrel
          by_cases hql : q < l2.length
          · obtain ⟨b2, off2, rfl, c2⟩ := (HS2.out.kept H3K.out).at q hql
            have hsn := someB_next k l2 q hql
            have hin := inG_next k eg l2 q hql
            have hmem : l2[q] ∈ l2 := List.getElem_mem hql
            generalize l2[q] = x at *
            have HSN := Lib.hid hsn; clear hsn
            have HIN := Lib.hid hin; clear hin
            by_cases hx : 0 ≤ x ∧ x < k
            · obtain ⟨hx0, hx1⟩ := hx
              obtain ⟨X, rfl⟩ := Int.eq_ofNat_of_zero_le hx0
              obtain ⟨G, hG, hGk, hok, hle, heq⟩ := HEACH.out X hmem (by omega)
              have hG' : eg = (G : Int) := hG
              have hok' : eok = true := hok
              subst hG' hok'
              have hval : validB k (X : Int) = true := (validB_iff _ _).2 (by omega)
              rw [hval] at HSN HIN
              obtain ⟨bx, ox, rfl, cx⟩ := (HS.out.kept H3K.out).at X (by omega)
              obtain ⟨bg, og, eg_, cg⟩ := (HS.out.kept H3K.out).at G (by omega)
              cases eg_
              obtain ⟨hcx, hcx7⟩ := cntOf_eq l X (by omega)
              obtain ⟨hcg, hcg7⟩ := cntOf_eq l G (by omega)
              generalize l[X] = ex at *
              generalize l[G] = egg at *
              generalize cntOf l X = nx at *
              generalize cntOf l G = ng at *
              have hXk : X < k := by omega
              clear hmem hval hG hok hx0 hx1
              generalize hbi : inG k (G : Int) (l2.take q) = bi at *
              generalize hbs : someB k (l2.take q) = bs at *
              clear hbi hbs
              have HEQ := Lib.hid heq; clear heq
              have hcmp : (((nx : Int) == (ng : Int)) = false ∧ ng < nx) ∨ (((nx : Int) == (ng : Int)) = true ∧ nx = ng ∧ G ≤ X) := by
                by_cases h : nx = ng
                · exact .inr ⟨by simp [h], h, HEQ.out h.symm⟩
                · exact .inl ⟨by simp; omega, by omega⟩
              have hin3 : (bi = true) ∨ (bi = false ∧ ((X : Int) == (G : Int)) = true) ∨ (bi = false ∧ ((X : Int) == (G : Int)) = false) := by
                cases bi
                · cases ((X : Int) == (G : Int)) <;> simp
                · simp
              clear HEACH HFIN HEQ
              rcases hcmp with ⟨hq1, hq2⟩ | ⟨hq1, hq2, hq3⟩
              · rcases hin3 with rfl | ⟨rfl, hxg⟩ | ⟨rfl, hxg⟩
                all_goals
                  go_wp2
                  go_round
                  case rel => exact ⟨q + 1, by omega, by go_num, by rw [HSN.out]; simp, by rw [HIN.out]; first | rfl | (rw [hxg]; rfl) | simp⟩
                  case measure => simp [intOf]; omega
              · have HQ2 := Lib.hid hq2; clear hq2
                rcases hin3 with rfl | ⟨rfl, hxg⟩ | ⟨rfl, hxg⟩
                all_goals
                  go_wp2
                  go_round
                  case rel => exact ⟨q + 1, by omega, by go_num, by rw [HSN.out]; simp, by rw [HIN.out]; first | rfl | (rw [hxg]; rfl) | simp⟩
                  case measure => simp [intOf]; omega
            · have hval : validB k x = false := by
                rw [Bool.eq_false_iff]; intro h; exact hx ((validB_iff _ _).1 h)
              rw [hval] at HSN HIN
              clear HEACH HFIN hmem hval
              have hxx : x < 0 ∨ (0 ≤ x ∧ (k : Int) ≤ x) := by omega
              clear hx
              generalize hbi : inG k eg (l2.take q) = bi at *
              generalize hbs : someB k (l2.take q) = bs at *
              clear hbi hbs
              rcases hxx with hxx | ⟨hx0, hxx⟩
              all_goals
                go_wp2
                go_round
                case rel => exact ⟨q + 1, by omega, by go_num, by rw [HSN.out]; simp, by rw [HIN.out]; simp⟩
                case measure => simp [intOf]; omega
          · obtain rfl : q = l2.length := by omega
            have f1 : someB k (l2.take l2.length) = eok := by rw [List.take_length]; exact HFIN.out.1.symm
            have f2 : inG k eg (l2.take l2.length) = eok := by rw [List.take_length]; exact HFIN.out.2.trans HFIN.out.1.symm
            rw [f1, f2]
            clear f1 f2 HFIN HEACH
            cases eok
            all_goals
              go_wp2
              go_ret
              exact ⟨rfl, H3K.out⟩
end
end Go.Proofs.Ytpnpconphpbcaaa
