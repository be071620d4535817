/- Emptiest. -/
import Derived.Test.YtglplhmclfekfaaUsi
namespace Go.Proofs.Ytglplhmclfekfaa
open Go.RowKit Go.ChangeMaps Go.MapKept
set_option linter.unusedVariables false
set_option linter.unusedSimpArgs false

/-- a slice that reads l -/
def ISl (w : World) (v : Value) (l : List Int) : Prop := ∃ oa cap, v = .slice oa l.length cap ∧ l.length ≤ cap ∧ cap ≤ maxLen ∧ ∀ k (hk : k < l.length), ∃ b off, oa = some ⟨b, off, none⟩ ∧ w.cell? ⟨b, off + k, none⟩ = some (.int .i64 l[k])
theorem ISl.kept {w w' : World} {v : Value} {l : List Int} (h : ISl w v l) (hk : Kept w w') : ISl w' v l := by
  obtain ⟨oa, cap, rfl, h1, h2, h3⟩ := h
  refine ⟨oa, cap, rfl, h1, h2, fun k hkl => ?_⟩
  obtain ⟨b, off, e, hc⟩ := h3 k hkl
  exact ⟨b, off, e, hk.cell' hc⟩
theorem ISl.at {w : World} {oa : Option Addr} {n cap : Nat} {l : List Int} (h : ISl w (.slice oa n cap) l) (k : Nat) (hk : k < l.length) : ∃ b off, oa = some ⟨b, off, none⟩ ∧ w.cell? ⟨b, off + k, none⟩ = some (.int .i64 l[k]) := by
  obtain ⟨oa', cap', e, h1, h2, h3⟩ := h
  cases e
  exact h3 k hk
def cntG (T : Tab) (n : Int) : Nat := match T.g n with | some l => (liveL l).length | none => 0
theorem cntG_some {T : Tab} {n : Int} {l : List Int} (h : T.g n = some l) : cntG T n = (liveL l).length := by simp [cntG, h]
def empStep (T : Tab) (s : Int × Bool) (x : Int) : Int × Bool :=
  match T.g x with
  | none => s
  | some _ => if s.2 = false ∨ cntG T x < cntG T s.1 ∨ (cntG T x = cntG T s.1 ∧ x < s.1) then (x, true) else s
def emp (T : Tab) (l : List Int) : Int × Bool := l.foldl (empStep T) (0, false)
theorem emp_next (T : Tab) (l : List Int) (k : Nat) (h : k < l.length) : emp T (l.take (k + 1)) = empStep T (emp T (l.take k)) l[k] := by
  unfold emp; rw [List.take_succ_eq_append_getElem h, List.foldl_append]; rfl
theorem emp_in (T : Tab) (l : List Int) : (emp T l).2 = true → (emp T l).1 ∈ l ∧ T.g (emp T l).1 ≠ none := by
  suffices ∀ r : List Int, (emp T r.reverse).2 = true → (emp T r.reverse).1 ∈ r ∧ T.g (emp T r.reverse).1 ≠ none by
    intro h
    have := this l.reverse (by simpa using h)
    simpa using this
  intro r
  induction r with
  | nil => intro h; cases h
  | cons x r ih =>
    have e : emp T (x :: r).reverse = empStep T (emp T r.reverse) x := by simp [emp]
    rw [e]
    unfold empStep
    cases hx : T.g x with
    | none => intro h; exact ⟨List.mem_cons_of_mem _ (ih h).1, (ih h).2⟩
    | some l =>
      dsimp only
      split
      · intro _; exact ⟨by simp, by simp [hx]⟩
      · intro h; exact ⟨List.mem_cons_of_mem _ (ih h).1, (ih h).2⟩

section
variable {w : World} {p : Nat} {S : Nat → Prop} {T : Tab}
set_option maxHeartbeats 2000000
set_option maxRecDepth 100000
theorem tab_Emptiest (H : TabAt w p S T) (hlen : ∀ n l, T.g n = some l → 0 < l.length ∧ l.length ≤ 4096) (v : Value) (l : List Int) (hs : ISl w v l) :
    Calls Try.prog 73 #[.pointer (some ⟨p, 0, none⟩), v] w fun e w' => e = .returned (.tuple #[.int .i64 (emp T l).1, .bool (emp T l).2]) ∧ Kept w w' := by
  have HA := H
  have HS := hs
  obtain ⟨oa, cap, rfl, h1, h2, _⟩ := hs
  unfold maxLen at h2
  have e1 := eq_nil
  have HL := Lib.hid hlen; clear hlen
  clear H
  go_enter Try.func73, Try.ntmps73
  go_wp2
  go_loopw [6, 7, 13] (fun b s i wr => ∃ k : Nat, k ≤ l.length ∧ i = .int .i64 k ∧ b = .int .i64 (emp T (l.take k)).1 ∧ s = .bool (emp T (l.take k)).2 ∧ Kept w wr) (fun _ _ i _ => l.length - (intOf i).toNat)
  case atStart => exact ⟨0, Nat.zero_le _, rfl, rfl, rfl, Kept.refl _⟩
  case round =>
    obtain ⟨k, hk, rfl, rfl, rfl, K⟩ := hrel
    have HT := HA.kept K
    by_cases hlt : k < l.length
    · obtain ⟨b, off, rfl, ck⟩ := (HS.kept K).at k hlt
      have HNX := Lib.hid (emp_next T l k hlt)
      have HIN := Lib.hid (emp_in T (l.take k))
      obtain ⟨g, h, blk, HD⟩ := HT
      have c0 := HD.c0
      generalize hx : l[k] = x at *
      have HX := Lib.hid hx; clear hx
      generalize hem : emp T (l.take k) = em at *
      have HEM := Lib.hid hem; clear hem
      obtain ⟨best, some⟩ := em
      cases hg : T.g x with
      | none =>
        have HG := Lib.hid hg; clear hg
        go_wp2_with (at_lookup; refine wpList_look_none HD HG.out rfl _ _ rfl rfl rfl ?_)
        have e : emp T (l.take (k + 1)) = (best, some) := by rw [HNX.out, empStep, HG.out]
        go_roundw
        case rel => exact ⟨k + 1, by omega, by go_num, by rw [e], by rw [e], K⟩
        case measure => simp [intOf]; omega
      | some lx =>
        have hnx := cntG_some hg
        have hb := HL.out x lx hg
        obtain ⟨hb0, hb1⟩ := hb
        have HG := Lib.hid hg; clear hg
        have HNC := Lib.hid hnx; clear hnx
        cases some with
        | false =>
          go_wp2_with (first
            | (at_lookup; refine wpList_look_some HD HG.out rfl _ _ rfl rfl rfl ?_)
            | (go_at_call 33; refine (tab_Count (HA.kept K) _ HG.out hb0 hb1).mono ?_; rintro e w1 ⟨rfl, hk1⟩; replace K := K.trans hk1))
          have e : emp T (l.take (k + 1)) = (x, true) := by rw [HNX.out, empStep, HG.out]; simp
          go_roundw
          case rel => exact ⟨k + 1, by omega, by go_num, by rw [e], by rw [e], K⟩
          case measure => simp [intOf]; omega
        | true =>
          obtain ⟨lb, hlb⟩ : ∃ lb, T.g best = .some lb := by
            have := (HIN.out rfl).2
            cases h : T.g best with
            | none => exact absurd h this
            | some lb => exact ⟨lb, rfl⟩
          have hnb := cntG_some hlb
          obtain ⟨hd0, hd1⟩ := HL.out best lb hlb
          have HGB := Lib.hid hlb; clear hlb
          have HNB := Lib.hid hnb; clear hnb
          have hdec : empStep T (best, true) x = if (liveL lx).length < (liveL lb).length ∨ ((liveL lx).length = (liveL lb).length ∧ x < best) then (x, true) else (best, true) := by
            rw [empStep, HG.out]; dsimp only; rw [HNC.out, HNB.out]; simp
          have HDE := Lib.hid hdec; clear hdec
          have hcx : (liveL lx).length ≤ 4096 := Nat.le_trans (List.length_filter_le _ _) hb1
          have hcb : (liveL lb).length ≤ 4096 := Nat.le_trans (List.length_filter_le _ _) hd1
          have hcount := fun (W : World) (hk : Kept w W) => tab_Count (HA.kept hk) x HG.out hb0 hb1
          have hcountb := fun (W : World) (hk : Kept w W) => tab_Count (HA.kept hk) best HGB.out hd0 hd1
          have HC1 := Lib.hid hcount; clear hcount
          have HC2 := Lib.hid hcountb; clear hcountb
          generalize (liveL lx).length = cx at *
          generalize (liveL lb).length = cb at *
          by_cases h1 : cx < cb
          · go_wp2_with (first
              | (at_lookup; refine wpList_look_some HD HG.out rfl _ _ rfl rfl rfl ?_)
              | (go_at_call 33; with_reducible refine (HC1.out _ K).mono ?_; rintro e w1 ⟨rfl, hk1⟩; replace K := K.trans hk1)
              | (go_at_call 33; with_reducible refine (HC2.out _ K).mono ?_; rintro e w1 ⟨rfl, hk1⟩; replace K := K.trans hk1))
            have e : emp T (l.take (k + 1)) = (x, true) := by rw [HNX.out, HDE.out, if_pos (.inl h1)]
            go_roundw
            case rel => exact ⟨k + 1, by omega, by go_num, by rw [e], by rw [e], K⟩
            case measure => simp [intOf]; omega
          · by_cases h2 : cx = cb
            · have HE := Lib.hid h2
              subst h2
              by_cases h3 : x < best
              · go_wp2_with (first
                  | (at_lookup; refine wpList_look_some HD HG.out rfl _ _ rfl rfl rfl ?_)
                  | (go_at_call 33; with_reducible refine (HC1.out _ K).mono ?_; rintro e w1 ⟨rfl, hk1⟩; replace K := K.trans hk1)
                  | (go_at_call 33; with_reducible refine (HC2.out _ K).mono ?_; rintro e w1 ⟨rfl, hk1⟩; replace K := K.trans hk1))
                have e : emp T (l.take (k + 1)) = (x, true) := by rw [HNX.out, HDE.out, if_pos (.inr ⟨by trivial, h3⟩)]
                go_roundw
                case rel => exact ⟨k + 1, by omega, by go_num, by rw [e], by rw [e], K⟩
                case measure => simp [intOf]; omega
              · go_wp2_with (first
                  | (at_lookup; refine wpList_look_some HD HG.out rfl _ _ rfl rfl rfl ?_)
                  | (go_at_call 33; with_reducible refine (HC1.out _ K).mono ?_; rintro e w1 ⟨rfl, hk1⟩; replace K := K.trans hk1)
                  | (go_at_call 33; with_reducible refine (HC2.out _ K).mono ?_; rintro e w1 ⟨rfl, hk1⟩; replace K := K.trans hk1))
                have e : emp T (l.take (k + 1)) = (best, true) := by rw [HNX.out, HDE.out, if_neg (by omega)]
                go_roundw
                case rel => exact ⟨k + 1, by omega, by go_num, by rw [e], by rw [e], K⟩
                case measure => simp [intOf]; omega
            · have hbq : ((cx : Int) == (cb : Int)) = false := by simp; omega
              have h4 : cb < cx := by omega
              clear h2
              go_wp2_with (first
                | (at_lookup; refine wpList_look_some HD HG.out rfl _ _ rfl rfl rfl ?_)
                | (go_at_call 33; with_reducible refine (HC1.out _ K).mono ?_; rintro e w1 ⟨rfl, hk1⟩; replace K := K.trans hk1)
                | (go_at_call 33; with_reducible refine (HC2.out _ K).mono ?_; rintro e w1 ⟨rfl, hk1⟩; replace K := K.trans hk1))
              have e : emp T (l.take (k + 1)) = (best, true) := by rw [HNX.out, HDE.out, if_neg (by omega)]
              go_roundw
              case rel => exact ⟨k + 1, by omega, by go_num, by rw [e], by rw [e], K⟩
              case measure => simp [intOf]; omega
    · obtain rfl : k = l.length := by omega
      have ht := Lib.hid (show l.take l.length = l from List.take_length)
      go_wp2
      go_ret2
      exact ⟨by rw [ht.out]; rfl, K⟩
end
end Go.Proofs.Ytglplhmclfekfaa
