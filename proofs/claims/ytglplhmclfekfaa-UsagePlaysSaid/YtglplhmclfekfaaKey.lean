/- The keys of a map with int keys, as the kit's maps have them. -/
import Derived.Test.YtglplhmclfekfaaMap
import Derived.Lib.SlKeysI
import Derived.Maps.Range
namespace Go.Proofs.Ytglplhmclfekfaa
open Go.RowKit Go.ChangeMaps Go.MapKept
set_option linter.unusedVariables false
set_option linter.unusedSimpArgs false

theorem len_le_of_sub : ∀ (ks D : List Int), ks.Nodup → (∀ x ∈ ks, x ∈ D) → ks.length ≤ D.length
  | [], D, _, _ => Nat.zero_le _
  | x :: ks, D, hn, hs => by
    obtain ⟨h1, h2⟩ := List.nodup_cons.1 hn
    have hx : x ∈ D := hs x (by simp)
    have ih := len_le_of_sub ks (D.erase x) h2 (fun y hy => by
      have hne : y ≠ x := by intro e; subst e; exact h1 hy
      rw [List.mem_erase_of_ne hne]
      exact hs y (by simp [hy]))
    rw [List.length_erase_of_mem hx] at ih
    have : 0 < D.length := List.length_pos_of_mem hx
    simp only [List.length_cons]; omega
def keyInt (e : MapEntry) : Int := match e.key with | .int _ n => n | _ => 0
theorem keys_nodup {es : List MapEntry} (h : IntKeys es) : (es.map keyInt).Nodup := by
  unfold List.Nodup
  rw [List.pairwise_map]
  refine h.once.imp_of_mem fun {a b} ha hb hne e => hne ?_
  obtain ⟨n, hn⟩ := h.int a ha
  obtain ⟨k, hk⟩ := h.int b hb
  unfold keyInt at e
  rw [hn, hk] at e
  have e2 : n = k := e
  rw [hn, hk, e2]
theorem mem_keys {es : List MapEntry} (h : IntKeys es) (n : Int) : n ∈ es.map keyInt ↔ lookE es n ≠ none := by
  rw [List.mem_map]
  constructor
  · rintro ⟨e, he, rfl⟩
    obtain ⟨k, hk⟩ := h.int e he
    obtain ⟨j, hj, rfl⟩ := List.getElem_of_mem he
    have hki : keyInt es[j] = k := by unfold keyInt; rw [hk]
    rw [hki]
    unfold lookE
    rw [find_key h hj (keyIs_iff.2 hk)]
    simp
  · intro hn
    unfold lookE at hn
    cases hf : es.find? (keyIs n) with
    | none => rw [hf] at hn; exact absurd rfl hn
    | some e =>
      have hk := keyIs_iff.1 (List.find?_some hf)
      exact ⟨e, List.mem_of_find?_eq_some hf, by unfold keyInt; rw [hk]⟩
/-- a reader that reads whatever there is as nothing -/
def anyR : Value → Option (DataW Unit × List MemPlace) := fun _ => some (.nil, [])
theorem IMap.owns {P : Program} {k : TypeId} (hk : P.underlying k = some (.int .i64)) {w : World} {b m : Nat} {f : Int → Option Value} (h : IMap w b m f) (D : List Int) (hD : ∀ n, f n ≠ none → n ∈ D ∧ (Lit.int .i64 n).wf = true) (hl : D.length ≤ 100000) :
    ∃ (D0 : DataW Unit) (ks : List Int), w.ownsMap P k anyR b D.length D0 ∧ Maps.size D0 ≤ D.length ∧ (intKeys D0).Perm ks ∧ ks.Nodup ∧ ∀ n, n ∈ ks ↔ f n ≠ none := by
  obtain ⟨es, c, hb, hi, hs, hf, hst⟩ := h
  have hmem : ∀ n, n ∈ es.toList.map keyInt ↔ f n ≠ none := fun n => by rw [mem_keys hi, hf n]
  have hlen : es.toList.length ≤ D.length := by
    have := len_le_of_sub (es.toList.map keyInt) D (keys_nodup hi) (fun x hx => (hD x ((hmem x).1 hx)).1)
    rwa [List.length_map] at this
  have hrd : ∀ x ∈ es.toList, WideElems.rd P k anyR x = some (.int .i64 (keyInt x), .nil) := fun x hx => by
    obtain ⟨n, hn⟩ := hi.int x hx
    have hki : keyInt x = n := by unfold keyInt; rw [hn]
    have hwf : (Lit.int .i64 n).wf = true := (hD n ((hmem n).1 (List.mem_map.2 ⟨x, hx, hki⟩))).2
    obtain ⟨key, val, born⟩ := x
    simp only at hn
    subst hn
    rw [hki]
    exact WideElems.rd_mk (Maps.keyOf_int_mk hk hwf) (yv := (.nil, [])) rfl
  have hsz : es.size ≤ D.length := by rw [← Array.length_toList]; exact hlen
  have hrg : es.toList.map (WideElems.rg P k anyR) = es.toList.map fun x => (Lit.int .i64 (keyInt x), DataW.nil) := List.map_congr_left fun x hx => WideElems.rg_of (hrd x hx)
  refine ⟨.map ((es.toList.map (WideElems.rg P k anyR)).foldr DataW.insert []), es.toList.map keyInt, ⟨es, c, hb, ⟨?_, hst, fun x hx => ⟨_, hrd x hx⟩⟩, hsz, rfl⟩, ?_, ?_, keys_nodup hi, hmem⟩
  · unfold maxLen; omega
  · show ((es.toList.map (WideElems.rg P k anyR)).foldr DataW.insert []).length ≤ _
    rw [length_sorted, List.length_map]; exact hlen
  · show (((es.toList.map (WideElems.rg P k anyR)).foldr DataW.insert []).map fun p => Go.intOf p.1).Perm _
    have hp := (Go.WideShapes.sorted_perm (es.toList.map (WideElems.rg P k anyR))).map fun p => Go.intOf p.1
    refine hp.trans ?_
    rw [hrg, List.map_map]
    exact List.Perm.refl _
/-- sorted, each once: rising -/
theorem sorted_rising {ss ks : List Int} (hp : ss.Perm ks) (hn : ks.Nodup) : (ss.mergeSort (fun x y => decide (x ≤ y))).Pairwise (· < ·) := by
  have tr : ∀ a b c : Int, decide (a ≤ b) = true → decide (b ≤ c) = true → decide (a ≤ c) = true := fun a b c h1 h2 => by simp only [decide_eq_true_eq] at *; exact Int.le_trans h1 h2
  have to : ∀ a b : Int, (decide (a ≤ b) || decide (b ≤ a)) = true := fun a b => by simp only [Bool.or_eq_true, decide_eq_true_eq]; exact Int.le_total a b
  have h1 := List.pairwise_mergeSort tr to ss
  have h2 : (ss.mergeSort (fun x y => decide (x ≤ y))).Nodup := ((List.mergeSort_perm ss _).trans hp).nodup_iff.2 hn
  refine h1.imp₂ (fun a b h3 h4 => ?_) h2
  simp only [decide_eq_true_eq] at h3
  have h5 : a ≠ b := h4
  omega
end Go.Proofs.Ytglplhmclfekfaa
