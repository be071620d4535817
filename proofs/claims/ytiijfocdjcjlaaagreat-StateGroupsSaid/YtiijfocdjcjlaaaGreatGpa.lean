/- StateGroups in plain Lean; a group that comes in by value. -/
import Derived.Test.YtiijfocdjcjlaaaGreatInm
import Derived.Test.YtiijfocdjcjlaaaGreatLrc
import Derived.Test.YtiijfocdjcjlaaaGreatPtA
namespace Go.Proofs.YtiijfocdjcjlaaaGreat
open Go.RowKit Go.ChangeMaps Go.MapKept
set_option linter.unusedVariables false
set_option linter.unusedSimpArgs false
set_option maxRecDepth 100000
set_option maxHeartbeats 1000000
theorem open_grp {H : Type} {enc' : TypeId × Value → H} {w : World} {base b0 : Nat} {spare : Nat → Bool} {held : Bool} {fuel : Nat} {v : Value} {x : DataW H × List MemPlace} {r : Reach}
    (hv : Value.okWide Tryz.prog w r b0 37 v) (h : DataW.trod enc' Tryz.prog w base spare held fuel 37 v.cells.toList = some x) : ∃ (z : Gw) (g : Grp), v = .agg (grw z).toArray ∧ GRelI w z g := by
  obtain ⟨cs, rfl, hsz⟩ := WideShapes.okWide_struct Tryz.underlying37 hv
  have hC : Tryz.prog.cellsOf 37 = 3 := by kernel_rfl
  rw [hC] at hsz
  obtain ⟨cs⟩ := cs
  obtain ⟨z, hz, g, hg⟩ := elem_gr (cs := cs) (by simpa using hsz) h
  exact ⟨z, g, by rw [← show cs = grw z from hz], hg⟩
/-- where a group belongs -/
def posG (s : St) (id : Int) : Nat := posB (s.gs.map (·.id)) id
def atG (s : St) (id : Int) : Bool := atB (s.gs.map (·.id)) id
theorem grW_id {g : Grp} (h : grW g = true) : 0 ≤ g.id ∧ g.id ≤ 255 := by
  unfold grW at h
  simp only [List.all_cons, Bool.and_eq_true] at h
  have h1 := (mayPut_iff _ _).1 h.1.1
  have h2 : g.id < 256 := h1.2.2.2
  omega
theorem make_step {s : St} {x : Gw} {g : Grp} {wx : World} (hx : GRel wx x g) (hok : grW g = true) (hr : rightS s = true) : StepC wx (rcMake x) s (if atG s g.id then 9 else 0) (makeAt s (posG s g.id) g) := by
  have hR := (rightS_iff s).1 hr
  have hinc := (risesB_iff _).1 hR.gsr
  have hfew := hR.few
  have hpl : posG s g.id ≤ s.gs.length := by have := pos_le (s.gs.map (·.id)) g.id; rw [List.length_map] at this; exact this
  intro X b0 base b1 b2 b3 b4 sm sg sp sd raw w hkx hxb hO hX0 hX1 hX
  have hone : ∀ y ∈ raw, y.2.2.oneCell' = true := fun y hy => (hO.ext w (But.refl _ _)).one y hy _ (by simp [grw])
  have hrl : raw.length = s.gs.length := (hO.ext w (But.refl _ _)).len
  have hids : raw.map (fun x => x.1) = s.gs.map (·.id) := (hO.ext w (But.refl _ _)).ids
  -- the rows' numbers
  have hrange : ∀ y ∈ raw, 0 ≤ y.1 ∧ y.1 ≤ 255 := by
    intro y hy
    have hm : y.1 ∈ s.gs.map (·.id) := by rw [← hids]; exact List.mem_map.2 ⟨y, hy, rfl⟩
    obtain ⟨k, hk, he⟩ := List.mem_map.1 hm
    have := grpsB_ids s.ms s.gs [] hR.grps k hk
    unfold inN at this
    simp only [Bool.and_eq_true, decide_eq_true_eq] at this
    omega
  have hrel := hO.ext w (But.refl _ _)
  have hF : FindP raw g.id (posG s g.id) (atG s g.id) := by
    have := find_pos raw g.id (by rw [hids]; exact hinc) hrange (grW_id hok) (by rw [hrl]; omega)
    rw [hids] at this
    exact this
  have hI : InsP raw (posG s g.id) := by
    rcases Nat.lt_or_ge (posG s g.id) raw.length with h | h
    · exact ins_mid raw _ h (by rw [hrl]; omega) hone
    · have : posG s g.id = raw.length := by omega
      rw [this]
      exact ins_end raw (by rw [hrl]; omega)
  obtain ⟨pos, hpos⟩ : ∃ pos, pos = posG s g.id := ⟨_, rfl⟩
  obtain ⟨f, hf⟩ : ∃ f, f = atG s g.id := ⟨_, rfl⟩
  rw [← hpos, ← hf] at hF
  rw [← hpos] at hI hpl
  rw [← hpos, ← hf]
  have hd := fun (W : World) (hk : Kept w W) => st_doMake s X b0 base b1 b2 b3 b4 sm sg sp sd raw x g pos f wx W (hkx.trans hk) hx
    ⟨hO.le0, hO.le1, hO.le2, hO.le3, hO.le4, Nat.le_trans hO.le5 hk.size, hO.m.kept hk, hO.g.kept hk, hO.p.kept hk, hO.d.kept hk, fun W' hb => hO.ext W' ((But.kept hk).trans hb), hO.plug, hO.lms, hO.lgs, hO.lmp, hO.ldi⟩ hX0 hX1 hxb (hk.block hX) hF hI (by rw [hrl]; exact hpl) (by omega)
  clear hF hI hone hrl hids hrange hpos hf hR hinc hfew hpl
  have HD := Lib.hid hd; clear hd hO hX hrel
  go_enter Tryz.func37, Tryz.ntmps37
  go_wp2_with (refine stop_at (o := ⟨some 3, _, _, _, _, _⟩) ?_)
  refine Stop.mk ?_
  refine wpList_box_rowS rfl _ _ rfl (rcMake x) rfl ?_
  intro w1 hz1 hs1 hk1
  obtain ⟨rb, hrb⟩ : ∃ rb, rb = w.heap.size := ⟨_, rfl⟩
  rw [← hrb] at hz1 ⊢
  have c0 : w1.cell? ⟨rb, 0, none⟩ = some (.int .i64 2) := (Cells.of_block hz1.out) 0 (by show 0 < 142; decide)
  have HC := Lib.hid (Cells.of_block hz1.out : Cells w1 rb 0 (rcMake x))
  have HK1 := Lib.hid hk1
  clear hz1 hs1 hk1 hrb
  go_wp2_with (refine stop_at (o := ⟨some 15, _, _, _, _, _⟩) ?_)
  refine Stop.mk ?_
  refine wpList_load_agg rfl _ rfl agT_rec rb 0 rfl _ HC.out (rcv_len _ _ _ _ _ _ _ _ _ _ _) ?_
  go_wp2_with fail
  refine Calls.mono (HD.out w1 HK1.out) ?_
  rintro e w2 ⟨rfl, hs, hb⟩
  have HB := Lib.hid ((But.kept (S := fun k => k = X ∨ (base ≤ k ∧ k < b4)) HK1.out).trans hb)
  have HS := Lib.hid hs
  clear hs hb
  cases f with
  | true =>
    go_wp2
    go_ret
    exact ⟨rfl, HB.out⟩
  | false =>
    go_wp2
    go_ret
    exact ⟨rfl, HS.out trivial, HB.out⟩
theorem makeAt_drop {s : St} {g : Grp} (hr : rightS s = true) (pos : Nat) (hp : pos ≤ s.gs.length) (hn : g.id ∉ s.gs.map (·.id)) : dropS (makeAt s pos g) g.id = s := by
  have hR := (rightS_iff s).1 hr
  have hne : ∀ h ∈ s.gs, (!(h.id == g.id)) = true := by
    intro h hh
    have : h.id ≠ g.id := fun e => hn (by rw [← e]; exact List.mem_map.2 ⟨h, hh, rfl⟩)
    simpa using this
  have h1 : (s.gs.take pos ++ g :: s.gs.drop pos).filter (fun h => !(h.id == g.id)) = s.gs := by
    rw [List.filter_append, List.filter_cons_of_neg (by simp), List.filter_eq_self.2 (fun h hh => hne h (List.mem_of_mem_take hh)), List.filter_eq_self.2 (fun h hh => hne h (List.mem_of_mem_drop hh)), List.take_append_drop]
  have h2 : s.dirty.filter (fun d => !(d == g.id)) = s.dirty := by
    rw [List.filter_eq_self]
    intro d hd
    have := List.all_eq_true.1 hR.dirty d hd
    unfold dirtyB findG at this
    cases hf : s.gs.find? (fun g => g.id == d) with
    | none => rw [hf] at this; cases this
    | some k =>
      have hid : k.id = d := by simpa using List.find?_some hf
      have := hne k (List.mem_of_find?_eq_some hf)
      rw [hid] at this
      exact this
  unfold dropS makeAt
  simp only
  rw [h1, h2]
theorem makeAt_at (s : St) (g : Grp) (pos : Nat) (hp : pos ≤ s.gs.length) (h : pos < (makeAt s pos g).gs.length) : (makeAt s pos g).gs[pos]'h = g := by
  have e : (makeAt s pos g).gs[pos]? = some g := by
    show (s.gs.take pos ++ g :: s.gs.drop pos)[pos]? = some g
    rw [List.getElem?_append_right (by rw [List.length_take]; omega), List.length_take, Nat.min_eq_left hp, Nat.sub_self]
    rfl
  rw [List.getElem?_eq_getElem h] at e
  exact Option.some.inj e
/-- what is made and dropped: the state ahead -/
theorem groups_ok {s : St} {g : Grp} (h : applyE (grW g) s (if atG s g.id then 9 else 0) (makeAt s (posG s g.id) g) = 0) :
    grW g = true ∧ rightS s = true ∧ atG s g.id = false ∧ dropS (makeAt s (posG s g.id) g) g.id = s ∧
    applyE (mayPut g.id 1) (makeAt s (posG s g.id) g) (if ((makeAt s (posG s g.id) g).gs.find? (fun h => h.id == g.id)).isNone then 8 else 0) (dropS (makeAt s (posG s g.id) g) g.id) = 0 := by
  unfold applyE at h
  split at h
  · rename_i hc
    rw [Bool.and_eq_true] at hc
    have hR := (rightS_iff s).1 hc.2
    have hinc := (risesB_iff _).1 hR.gsr
    cases ha : atG s g.id with
    | true => rw [ha] at h; simp at h
    | false =>
      rw [ha] at h
      simp only [Bool.false_eq_true, if_false, if_true] at h
      split at h
      · rename_i hm
        have hn := at_no _ _ hinc ha
        have hpl : posG s g.id ≤ s.gs.length := by have := pos_le (s.gs.map (·.id)) g.id; rw [List.length_map] at this; exact this
        have hd := makeAt_drop hc.2 (posG s g.id) hpl hn
        refine ⟨hc.1, hc.2, rfl, hd, ?_⟩
        have hg := grW_id hc.1
        have hmp : mayPut g.id 1 = true := (mayPut_iff _ _).2 ⟨by decide, by decide, hg.1, by show g.id < 256; omega⟩
        have hfi : ((makeAt s (posG s g.id) g).gs.find? (fun h => h.id == g.id)).isNone = false := by
          rw [Option.isNone_eq_false_iff, List.find?_isSome]
          exact ⟨g, List.mem_append_right _ List.mem_cons_self, by simp⟩
        unfold applyE
        rw [hd, hmp, hm, hfi, hc.2]
        rfl
      · cases h
  · cases h
end Go.Proofs.YtiijfocdjcjlaaaGreat
