/- PtA: several texts in one: Ost. -/
import Derived.Test.YtiijfocdjcjlaaaGreatPsA
import Derived.ProofKit
import Derived.OpenShut
import Derived.ChangeOld
import Derived.Deep.Slices
import Derived.Deep.Fields
/- A state that comes in by value. -/
namespace Go.Proofs.YtiijfocdjcjlaaaGreat
open Go.RowKit Go.ChangeMaps Go.MapKept
set_option linter.unusedVariables false
set_option linter.unusedSimpArgs false
set_option maxRecDepth 100000
section
variable {H : Type} {enc' : TypeId × Value → H} {w : World} {base b0 : Nat} {spare : Nat → Bool} {held : Bool} {fuel : Nat} {v : Value} {x : DataW H × List MemPlace} {r : Reach}
/-- a slice of records that comes in -/
theorem open_recs {α : Type} [Inhabited α] {enc : α → List Value} {n T E : Nat} {Pz : α → Prop} (hu : Tryz.prog.underlying T = some (.slice E)) (hC : Tryz.prog.cellsOf E = n) (hn : 0 < n) (henc : ∀ x, (enc x).length = n)
    (ho : ∀ fuel' (cs : List Value) y, cs.length = n → DataW.trod enc' Tryz.prog w base spare held fuel' E cs = some y → ∃ z, cs = enc z ∧ Pz z)
    (h : DataW.trod enc' Tryz.prog w base spare held fuel T [v] = some x) : ∃ l : List α, RIn enc n w v l ∧ ∀ k (hk : k < l.length), Pz l[k] := by
  rcases Go.Deep.open_slice hu h with ⟨hcs, _⟩ | ⟨a, len, cap, m, n', D, Pl, hcs, _, hl, hmx, hm, _, hi⟩
  · simp at hcs; subst hcs
    exact ⟨[], ⟨RSl.nil, fun m c e => by cases e; rfl⟩, fun k hk => by cases hk⟩
  simp at hcs
  subst hcs
  have hlm : len ≤ m := by rw [hm]; split <;> omega
  have key : ∀ i, ∃ z : α, i < len → (∀ j (hj : j < (enc z).length), w.cell? ((a.add (i * n)).add j) = some (enc z)[j]) ∧ Pz z := by
    intro i
    by_cases hil : i < len
    · obtain ⟨cs', hc, ht⟩ := hi i (by omega)
      rw [hC] at hc
      obtain ⟨_, hcl, hat⟩ := World.cells?_some hc
      obtain ⟨z, rfl, hp⟩ := ho _ _ _ hcl ht
      exact ⟨z, fun _ => ⟨fun j hj => (hat j (by rw [henc] at hj; exact hj)).trans (List.getElem?_eq_getElem hj), hp⟩⟩
    · exact ⟨default, fun h => absurd h hil⟩
  obtain ⟨f, hf⟩ := Classical.axiomOfChoice key
  refine ⟨(List.range len).map f, ⟨⟨some a, cap, by simp, by simpa using hl, fun k hk => ?_⟩, fun m c e => by cases e⟩, fun k hk => ?_⟩
  · have hk' : k < len := by simpa using hk
    have h1 := (hf k hk').1
    obtain ⟨b, off, spot⟩ := a
    have hc0 := (hf 0 (by omega)).1 0 (by rw [henc]; exact hn)
    have hsp := World.cell?_spot hc0
    have hspot : spot = none := by simpa [Addr.add] using hsp
    subst hspot
    simp only [Addr.add_mid] at h1 hc0
    refine ⟨b, off, rfl, World.block_lt_of_cell? _ _ hc0, ?_⟩
    simp only [List.getElem_map, List.getElem_range]
    exact fun j hj => h1 j hj
  · have hk' : k < len := by simpa using hk
    simp only [List.getElem_map, List.getElem_range]
    exact (hf k hk').2
theorem elem_int {fuel' : Nat} {cs : List Value} {y : DataW H × List MemPlace} (hl : cs.length = 1) (h : DataW.trod enc' Tryz.prog w base spare held fuel' 3 cs = some y) : ∃ z : Int, cs = oneV z ∧ True := by
  obtain ⟨z, hz, _, _⟩ := DataW.trod_int Tryz.underlying3 h
  exact ⟨z, hz, trivial⟩
theorem open_ints (h : DataW.trod enc' Tryz.prog w base spare held fuel 25 [v] = some x) : ∃ l, RIn oneV 1 w v l := by
  obtain ⟨l, h1, _⟩ := open_recs (Pz := fun _ => True) Tryz.underlying25 (by kernel_rfl) (by decide) oneV_len (fun _ _ _ hl hh => elem_int hl hh) h
  exact ⟨l, h1⟩
theorem elem_mb {fuel' : Nat} {cs : List Value} {y : DataW H × List MemPlace} (hl : cs.length = 3) (h : DataW.trod enc' Tryz.prog w base spare held fuel' 56 cs = some y) : ∃ z : Int × Int × Int, cs = trip z ∧ True := by
  have hCi : Tryz.prog.cellsOf 3 = 1 := by kernel_rfl
  obtain ⟨xs, n', _, _, _, hxl, hf⟩ := DataW.trod_struct Tryz.underlying56 h
  replace hxl : xs.length = 3 := hxl
  rcases cs with _ | ⟨c0, _ | ⟨c1, _ | ⟨c2, _ | ⟨c3, r⟩⟩⟩⟩ <;> simp at hl
  have f0 : DataW.trod enc' Tryz.prog w base spare held n' 3 ((([c0, c1, c2] : List Value).drop 0).take (Tryz.prog.cellsOf 3)) = xs[0]? := hf 0 _ rfl
  have f1 : DataW.trod enc' Tryz.prog w base spare held n' 3 ((([c0, c1, c2] : List Value).drop 1).take (Tryz.prog.cellsOf 3)) = xs[1]? := hf 1 _ rfl
  have f2 : DataW.trod enc' Tryz.prog w base spare held n' 3 ((([c0, c1, c2] : List Value).drop 2).take (Tryz.prog.cellsOf 3)) = xs[2]? := hf 2 _ rfl
  rw [hCi, List.getElem?_eq_getElem (by omega)] at f0 f1 f2
  obtain ⟨z0, hz0, _, _⟩ := DataW.trod_int Tryz.underlying3 f0
  obtain ⟨z1, hz1, _, _⟩ := DataW.trod_int Tryz.underlying3 f1
  obtain ⟨z2, hz2, _, _⟩ := DataW.trod_int Tryz.underlying3 f2
  simp at hz0 hz1 hz2
  subst hz0 hz1 hz2
  exact ⟨(z0, z1, z2), rfl, trivial⟩
theorem open_mbs (h : DataW.trod enc' Tryz.prog w base spare held fuel 22 [v] = some x) : ∃ l, RIn trip 3 w v l := by
  obtain ⟨l, h1, _⟩ := open_recs (Pz := fun _ => True) Tryz.underlying22 (by kernel_rfl) (by decide) trip_len (fun _ _ _ hl hh => elem_mb hl hh) h
  exact ⟨l, h1⟩
theorem elem_wh {fuel' : Nat} {cs : List Value} {y : DataW H × List MemPlace} (hl : cs.length = 3) (h : DataW.trod enc' Tryz.prog w base spare held fuel' 41 cs = some y) : ∃ z : Int × Int × Int, cs = trip z ∧ True := by
  have hCi : Tryz.prog.cellsOf 3 = 1 := by kernel_rfl
  obtain ⟨xs, n', _, _, _, hxl, hf⟩ := DataW.trod_struct Tryz.underlying41 h
  replace hxl : xs.length = 3 := hxl
  rcases cs with _ | ⟨c0, _ | ⟨c1, _ | ⟨c2, _ | ⟨c3, r⟩⟩⟩⟩ <;> simp at hl
  have f0 : DataW.trod enc' Tryz.prog w base spare held n' 3 ((([c0, c1, c2] : List Value).drop 0).take (Tryz.prog.cellsOf 3)) = xs[0]? := hf 0 _ rfl
  have f1 : DataW.trod enc' Tryz.prog w base spare held n' 3 ((([c0, c1, c2] : List Value).drop 1).take (Tryz.prog.cellsOf 3)) = xs[1]? := hf 1 _ rfl
  have f2 : DataW.trod enc' Tryz.prog w base spare held n' 3 ((([c0, c1, c2] : List Value).drop 2).take (Tryz.prog.cellsOf 3)) = xs[2]? := hf 2 _ rfl
  rw [hCi, List.getElem?_eq_getElem (by omega)] at f0 f1 f2
  obtain ⟨z0, hz0, _, _⟩ := DataW.trod_int Tryz.underlying3 f0
  obtain ⟨z1, hz1, _, _⟩ := DataW.trod_int Tryz.underlying3 f1
  obtain ⟨z2, hz2, _, _⟩ := DataW.trod_int Tryz.underlying3 f2
  simp at hz0 hz1 hz2
  subst hz0 hz1 hz2
  exact ⟨(z0, z1, z2), rfl, trivial⟩
theorem open_whs (h : DataW.trod enc' Tryz.prog w base spare held fuel 24 [v] = some x) : ∃ l, RIn trip 3 w v l := by
  obtain ⟨l, h1, _⟩ := open_recs (Pz := fun _ => True) Tryz.underlying24 (by kernel_rfl) (by decide) trip_len (fun _ _ _ hl hh => elem_wh hl hh) h
  exact ⟨l, h1⟩
theorem elem_ex {fuel' : Nat} {cs : List Value} {y : DataW H × List MemPlace} (hl : cs.length = 2) (h : DataW.trod enc' Tryz.prog w base spare held fuel' 39 cs = some y) : ∃ z : Int × Int, cs = pairV z ∧ True := by
  have hCi : Tryz.prog.cellsOf 3 = 1 := by kernel_rfl
  obtain ⟨xs, n', _, _, _, hxl, hf⟩ := DataW.trod_struct Tryz.underlying39 h
  replace hxl : xs.length = 2 := hxl
  rcases cs with _ | ⟨c0, _ | ⟨c1, _ | ⟨c2, r⟩⟩⟩ <;> simp at hl
  have f0 : DataW.trod enc' Tryz.prog w base spare held n' 3 ((([c0, c1] : List Value).drop 0).take (Tryz.prog.cellsOf 3)) = xs[0]? := hf 0 _ rfl
  have f1 : DataW.trod enc' Tryz.prog w base spare held n' 3 ((([c0, c1] : List Value).drop 1).take (Tryz.prog.cellsOf 3)) = xs[1]? := hf 1 _ rfl
  rw [hCi, List.getElem?_eq_getElem (by omega)] at f0 f1
  obtain ⟨z0, hz0, _, _⟩ := DataW.trod_int Tryz.underlying3 f0
  obtain ⟨z1, hz1, _, _⟩ := DataW.trod_int Tryz.underlying3 f1
  simp at hz0 hz1
  subst hz0 hz1
  exact ⟨(z0, z1), rfl, trivial⟩
theorem open_exs (h : DataW.trod enc' Tryz.prog w base spare held fuel 35 [v] = some x) : ∃ l, RIn pairV 2 w v l := by
  obtain ⟨l, h1, _⟩ := open_recs (Pz := fun _ => True) Tryz.underlying35 (by kernel_rfl) (by decide) pairV_len (fun _ _ _ hl hh => elem_ex hl hh) h
  exact ⟨l, h1⟩
theorem elem_gr {fuel' : Nat} {cs : List Value} {y : DataW H × List MemPlace} (hl : cs.length = 3) (h : DataW.trod enc' Tryz.prog w base spare held fuel' 37 cs = some y) : ∃ z : Gw, cs = grw z ∧ ∃ g, GRelI w z g := by
  have hCi : Tryz.prog.cellsOf 3 = 1 := by kernel_rfl
  have hCe : Tryz.prog.cellsOf 35 = 1 := by kernel_rfl
  obtain ⟨xs, n', _, _, _, hxl, hf⟩ := DataW.trod_struct Tryz.underlying37 h
  replace hxl : xs.length = 3 := hxl
  rcases cs with _ | ⟨c0, _ | ⟨c1, _ | ⟨c2, _ | ⟨c3, r⟩⟩⟩⟩ <;> simp at hl
  have f0 : DataW.trod enc' Tryz.prog w base spare held n' 3 ((([c0, c1, c2] : List Value).drop 0).take (Tryz.prog.cellsOf 3)) = xs[0]? := hf 0 _ rfl
  have f1 : DataW.trod enc' Tryz.prog w base spare held n' 3 ((([c0, c1, c2] : List Value).drop 1).take (Tryz.prog.cellsOf 3)) = xs[1]? := hf 1 _ rfl
  have f2 : DataW.trod enc' Tryz.prog w base spare held n' 35 ((([c0, c1, c2] : List Value).drop 2).take (Tryz.prog.cellsOf 35)) = xs[2]? := hf 2 _ rfl
  rw [hCi, List.getElem?_eq_getElem (by omega)] at f0 f1
  rw [hCe, List.getElem?_eq_getElem (by omega)] at f2
  obtain ⟨z0, hz0, _, _⟩ := DataW.trod_int Tryz.underlying3 f0
  obtain ⟨z1, hz1, _, _⟩ := DataW.trod_int Tryz.underlying3 f1
  simp at hz0 hz1
  subst hz0 hz1
  obtain ⟨l, hl2⟩ := open_exs f2
  exact ⟨(z0, z1, c2), rfl, ⟨z0, z1, l⟩, rfl, rfl, hl2⟩
theorem open_grs (h : DataW.trod enc' Tryz.prog w base spare held fuel 23 [v] = some x) : ∃ (raw : List Gw) (gs : List Grp), RIn grw 3 w v raw ∧ raw.length = gs.length ∧ ∀ k (h : k < raw.length) (h' : k < gs.length), GRelI w raw[k] gs[k] := by
  obtain ⟨l, h1, h2⟩ := open_recs (α := Gw) (Pz := fun z => ∃ g, GRelI w z g) Tryz.underlying23 (by kernel_rfl) (by decide) grw_len (fun _ _ _ hl hh => elem_gr hl hh) h
  have key : ∀ raw : List Gw, (∀ k (hk : k < raw.length), ∃ g, GRelI w raw[k] g) → ∃ gs : List Grp, raw.length = gs.length ∧ ∀ k (h : k < raw.length) (h' : k < gs.length), GRelI w raw[k] gs[k] := by
    intro raw
    induction raw with
    | nil => intro _; exact ⟨[], rfl, fun k h => by cases h⟩
    | cons z raw ih =>
      intro hk
      obtain ⟨g, hg⟩ := hk 0 (by simp)
      obtain ⟨gs, hl, hgs⟩ := ih fun k h => by
        have h3 := hk (k + 1) (by simp; omega)
        rwa [List.getElem_cons_succ] at h3
      refine ⟨g :: gs, by simp [hl], fun k h h' => ?_⟩
      rcases k with _ | k
      · exact hg
      · exact hgs k (by simpa using h) (by simpa using h')
  obtain ⟨gs, h3, h4⟩ := key l h2
  exact ⟨l, gs, h1, h3, h4⟩
theorem elem_sec {fuel' : Nat} {cs : List Value} {y : DataW H × List MemPlace} (hlc : cs.length = 64) (h : DataW.trod enc' Tryz.prog w base spare held fuel' 27 cs = some y) : ∃ bs : List Int, cs = u8s bs ∧ bs.length = 64 := by
  have hu : Tryz.prog.underlying 27 = some (.array 64 5) := by kernel_rfl
  have hC1 : Tryz.prog.cellsOf 5 = 1 := by kernel_rfl
  obtain ⟨xs, m, _, _, _, hxl, hf⟩ := DataW.trod_array hu h
  have key : ∀ i (hi : i < cs.length), ∃ z : Int, cs[i] = .int .u8 z := by
    intro i hi
    have hi' : i < 64 := by omega
    have h1 := hf i hi'
    rw [hC1, Nat.mul_one, List.getElem?_eq_getElem (by omega)] at h1
    have h2 : (cs.drop i).take 1 = [cs[i]] := by
      rw [List.drop_eq_getElem_cons hi]; rfl
    rw [h2] at h1
    obtain ⟨z, hz, _, hw⟩ := DataW.trod_int Tryz.underlying5 h1
    simp at hz
    exact ⟨z, hz⟩
  have hall : ∀ l : List Value, (∀ i (hi : i < l.length), ∃ z : Int, l[i] = .int .u8 z) → ∃ bs : List Int, l = u8s bs := by
    intro l
    induction l with
    | nil => intro _; exact ⟨[], rfl⟩
    | cons a l ih =>
      intro h
      obtain ⟨z, hz⟩ := h 0 (by simp)
      obtain ⟨bs, e⟩ := ih fun i hi => by
        have h2 := h (i + 1) (by simp; omega)
        rwa [List.getElem_cons_succ] at h2
      simp at hz
      exact ⟨z :: bs, by rw [hz, e]; rfl⟩
  obtain ⟨bs, e⟩ := hall _ key
  exact ⟨bs, e, by rw [← u8s_length, ← e]; exact hlc⟩
theorem elem_plug {fuel' : Nat} {cs : List Value} {y : DataW H × List MemPlace} (hl : cs.length = 131) (h : DataW.trod enc' Tryz.prog w base spare held fuel' 29 cs = some y) : ∃ p : Plg, cs = plv p ∧ PlgOk p := by
  have hCi : Tryz.prog.cellsOf 3 = 1 := by kernel_rfl
  have hCb : Tryz.prog.cellsOf 4 = 1 := by kernel_rfl
  have hCs : Tryz.prog.cellsOf 27 = 64 := by kernel_rfl
  obtain ⟨xs, n', _, _, _, hxl, hf⟩ := DataW.trod_struct Tryz.underlying29 h
  replace hxl : xs.length = 5 := hxl
  rcases cs with _ | ⟨c0, _ | ⟨c1, _ | ⟨c2, t⟩⟩⟩
  · simp at hl
  · simp at hl
  · simp at hl
  have htl : t.length = 128 := by simp at hl; omega
  have f0 : DataW.trod enc' Tryz.prog w base spare held n' 4 (((c0 :: c1 :: c2 :: t).drop 0).take (Tryz.prog.cellsOf 4)) = xs[0]? := hf 0 _ rfl
  have f1 : DataW.trod enc' Tryz.prog w base spare held n' 3 (((c0 :: c1 :: c2 :: t).drop 1).take (Tryz.prog.cellsOf 3)) = xs[1]? := hf 1 _ rfl
  have f2 : DataW.trod enc' Tryz.prog w base spare held n' 3 (((c0 :: c1 :: c2 :: t).drop 2).take (Tryz.prog.cellsOf 3)) = xs[2]? := hf 2 _ rfl
  have f3 : DataW.trod enc' Tryz.prog w base spare held n' 27 (((c0 :: c1 :: c2 :: t).drop 3).take (Tryz.prog.cellsOf 27)) = xs[3]? := hf 3 _ rfl
  have f4 : DataW.trod enc' Tryz.prog w base spare held n' 27 (((c0 :: c1 :: c2 :: t).drop 67).take (Tryz.prog.cellsOf 27)) = xs[4]? := hf 4 _ rfl
  rw [hCb, List.getElem?_eq_getElem (by omega)] at f0
  rw [hCi, List.getElem?_eq_getElem (by omega)] at f1 f2
  rw [hCs, List.getElem?_eq_getElem (by omega)] at f3 f4
  obtain ⟨z0, hz0, _⟩ := DataW.trod_bool Tryz.underlying4 f0
  obtain ⟨z1, hz1, _, _⟩ := DataW.trod_int Tryz.underlying3 f1
  obtain ⟨z2, hz2, _, _⟩ := DataW.trod_int Tryz.underlying3 f2
  simp at hz0 hz1 hz2
  subst hz0 hz1 hz2
  have e3 : ((Value.bool z0 :: .int .i64 z1 :: .int .i64 z2 :: t).drop 3).take 64 = t.take 64 := rfl
  have e4 : ((Value.bool z0 :: .int .i64 z1 :: .int .i64 z2 :: t).drop 67).take 64 = t.drop 64 := by
    show (t.drop 64).take 64 = t.drop 64
    rw [List.take_of_length_le (by rw [List.length_drop]; omega)]
  rw [e3] at f3
  rw [e4] at f4
  obtain ⟨b1, h1, l1⟩ := elem_sec (by rw [List.length_take]; omega) f3
  obtain ⟨b2, h2, l2⟩ := elem_sec (by rw [List.length_drop]; omega) f4
  refine ⟨⟨z0, z1, z2, b1, b2⟩, ?_, ⟨l1, l2⟩⟩
  show _ = Value.bool z0 :: .int .i64 z1 :: .int .i64 z2 :: (u8s b1 ++ u8s b2)
  rw [← h1, ← h2, List.take_append_drop]
/-- a state that comes in -/
theorem open_state (hv : Value.okWide Tryz.prog w r b0 31 v) (h : DataW.trod enc' Tryz.prog w base spare held fuel 31 v.cells.toList = some x) :
    ∃ s sm sg sp sd raw, v = .agg (stC s sm sg sp sd).toArray ∧ StI w s sm sg sp sd raw := by
  obtain ⟨cs, rfl, hsz⟩ := WideShapes.okWide_struct Tryz.underlying31 hv
  have hC : Tryz.prog.cellsOf 31 = 136 := by kernel_rfl
  have hCi : Tryz.prog.cellsOf 3 = 1 := by kernel_rfl
  have hC1 : Tryz.prog.cellsOf 22 = 1 := by kernel_rfl
  have hC2 : Tryz.prog.cellsOf 23 = 1 := by kernel_rfl
  have hC3 : Tryz.prog.cellsOf 24 = 1 := by kernel_rfl
  have hC4 : Tryz.prog.cellsOf 25 = 1 := by kernel_rfl
  have hC5 : Tryz.prog.cellsOf 29 = 131 := by kernel_rfl
  rw [hC] at hsz
  obtain ⟨xs, n', _, _, _, hxl, hf⟩ := DataW.trod_struct Tryz.underlying31 h
  replace hxl : xs.length = 6 := hxl
  obtain ⟨cs⟩ := cs
  rcases cs with _ | ⟨c0, _ | ⟨c1, _ | ⟨c2, _ | ⟨c3, _ | ⟨c4, t⟩⟩⟩⟩⟩
  · simp at hsz
  · simp at hsz
  · simp at hsz
  · simp at hsz
  · simp at hsz
  have htl : t.length = 131 := by simp at hsz; omega
  have f0 : DataW.trod enc' Tryz.prog w base spare held n' 3 (((c0 :: c1 :: c2 :: c3 :: c4 :: t).drop 0).take (Tryz.prog.cellsOf 3)) = xs[0]? := hf 0 _ rfl
  have f1 : DataW.trod enc' Tryz.prog w base spare held n' 22 (((c0 :: c1 :: c2 :: c3 :: c4 :: t).drop 1).take (Tryz.prog.cellsOf 22)) = xs[1]? := hf 1 _ rfl
  have f2 : DataW.trod enc' Tryz.prog w base spare held n' 23 (((c0 :: c1 :: c2 :: c3 :: c4 :: t).drop 2).take (Tryz.prog.cellsOf 23)) = xs[2]? := hf 2 _ rfl
  have f3 : DataW.trod enc' Tryz.prog w base spare held n' 24 (((c0 :: c1 :: c2 :: c3 :: c4 :: t).drop 3).take (Tryz.prog.cellsOf 24)) = xs[3]? := hf 3 _ rfl
  have f4 : DataW.trod enc' Tryz.prog w base spare held n' 25 (((c0 :: c1 :: c2 :: c3 :: c4 :: t).drop 4).take (Tryz.prog.cellsOf 25)) = xs[4]? := hf 4 _ rfl
  have f5 : DataW.trod enc' Tryz.prog w base spare held n' 29 (((c0 :: c1 :: c2 :: c3 :: c4 :: t).drop 5).take (Tryz.prog.cellsOf 29)) = xs[5]? := hf 5 _ rfl
  rw [hCi, List.getElem?_eq_getElem (by omega)] at f0
  rw [hC1, List.getElem?_eq_getElem (by omega)] at f1
  rw [hC2, List.getElem?_eq_getElem (by omega)] at f2
  rw [hC3, List.getElem?_eq_getElem (by omega)] at f3
  rw [hC4, List.getElem?_eq_getElem (by omega)] at f4
  rw [hC5, List.getElem?_eq_getElem (by omega)] at f5
  obtain ⟨z0, hz0, _, _⟩ := DataW.trod_int Tryz.underlying3 f0
  simp at hz0
  subst hz0
  have e5 : ((Value.int .i64 z0 :: c1 :: c2 :: c3 :: c4 :: t).drop 5).take 131 = t := by
    show t.take 131 = t
    rw [List.take_of_length_le (by omega)]
  rw [e5] at f5
  obtain ⟨l1, h1⟩ := open_mbs f1
  obtain ⟨raw, gs, h2, h2l, h2a⟩ := open_grs f2
  obtain ⟨l3, h3⟩ := open_whs f3
  obtain ⟨l4, h4⟩ := open_ints f4
  obtain ⟨p, h5, hp⟩ := elem_plug htl f5
  exact ⟨⟨z0, l1, gs, l3, l4, p⟩, c1, c2, c3, c4, raw, by rw [h5]; rfl, ⟨h1, h2, h2l, h2a, h3, h4, hp⟩⟩
end
end Go.Proofs.YtiijfocdjcjlaaaGreat
