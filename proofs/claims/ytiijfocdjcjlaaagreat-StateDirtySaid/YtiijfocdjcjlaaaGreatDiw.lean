/- StateDirty: the walk. -/
import Derived.Test.YtiijfocdjcjlaaaGreatDil
import Derived.Test.YtiijfocdjcjlaaaGreatApb
import Derived.Test.YtiijfocdjcjlaaaGreatIsr
import Derived.Deep.QuietTactic
import Derived.BigQuiet
import Derived.Deep.CutBlock
namespace Go.Proofs.YtiijfocdjcjlaaaGreat
open Go.RowKit Go.ChangeMaps Go.MapKept
set_option linter.unusedVariables false
set_option linter.unusedSimpArgs false
set_option maxRecDepth 100000
set_option maxHeartbeats 1000000
theorem wpList_own_push {α : Type} {enc : α → List Value} {n lo hi : Nat} {w : World} {v : Value} {l : List α} {P : Program} {t e bytes : Nat} {ops : Array Oper} {rest : List Oper} {o : Oper} {a : Act} {Q : Exit → Act → World → Prop} (hgd : o.guard = none) (s x : Operand)
    (ho : o.op = .call { callee := .builtin .append, args := #[s, x], argTypes := #[t, t] }) (henc : ∀ x, (enc x).length = n) (E : ElemT P t e n bytes) (hs : a.eval s = v) (hO : Own e enc n w lo hi v l) (hhi : hi ≤ w.heap.size) (l2 : List α) (xv : Value) (hxe : a.eval x = xv) (hx : Src w n xv l2.length (l2.flatMap enc)) (h1 : ∀ u ∈ l2.flatMap enc, u.oneCell' = true)
    (h63 : l.length + l2.length ≤ maxLen) (hbytes : (l.length + l2.length) * bytes ≤ 140737488355328)
    (h : ∀ v' W' lo' hi', Own e enc n W' lo' hi' v' (l ++ l2) → hi' ≤ W'.heap.size → ((lo ≤ lo' ∧ hi' ≤ hi) ∨ w.heap.size ≤ lo') → But (fun k => lo ≤ k ∧ k < hi) w W' → wpList P ops Q rest (a.put o.dst v') W') : wpList P ops Q (o :: rest) a w := by
  refine wpList_plain hgd fun K hK => ?_
  exact wp_own_push s x ho henc E hs hO hhi l2 xv hxe hx h1 h63 hbytes (fun v' W' lo' hi' h2 h3 h4 h5 => hK _ _ (h v' W' lo' hi' h2 h3 h4 h5))
theorem src_one (W : World) (x : Int) (T : TypeId) : Src (W.alloc (.cells #[.int .i64 x] T)) 1 (.slice (some ⟨W.heap.size, 0, none⟩) 1 1) ([x] : List Int).length (([x] : List Int).flatMap oneV) :=
  Src.of_cells (Cells.of_block (cs := #[.int .i64 x]) (heap_alloc_new W _)) rfl (Nat.le_refl _)
theorem Own.low {α : Type} {enc : α → List Value} {n E lo lo' hi : Nat} {W : World} {v : Value} {l : List α} (h : Own E enc n W lo hi v l) (hl : lo' ≤ lo) : Own E enc n W lo' hi v l := by
  rcases h with ⟨g, cap, e, g1, g2, ho⟩ | h
  · exact .inl ⟨g, cap, e, Nat.le_trans hl g1, g2, ownsRow_base ho hl⟩
  · exact .inr h
/-- the list that the law gathers -/
structure Gat (t : St) (W0 : World) (W : World) (v : Value) (l : List Int) : Prop where
  all : ∀ x ∈ l, dirtyB t x = true
  own : Own 3 oneV 1 W W0.heap.size W.heap.size v l
  kept : Kept W0 W
theorem Gat.on {t : St} {W0 W W' : World} {v : Value} {l : List Int} (h : Gat t W0 W v l) (hk : Kept W W') : Gat t W0 W' v l := ⟨h.all, (h.own.kept hk).wide hk.size, h.kept.trans hk⟩
theorem law_dirty (s : St) (sm sg sp sd : Value) (raw : List Gw) (v : Value) (ids : List Int) (w : World) (h : StI w s sm sg sp sd raw) (hids : ISrc w v ids) :
    Calls Tryz.prog 4 #[.agg (stC s sm sg sp sd).toArray, v] w fun e w' => e = .returned (.bool true) ∧ Kept w w' := by
  have HH := Lib.hid h
  have HL := Lib.hid (stC_len h.plug sm sg sp sd)
  clear h
  have HIDS := Lib.hid hids
  obtain ⟨oi, ci, rfl, hic, him, _⟩ := hids
  unfold maxLen at him
  go_enter Tryz.func4, Tryz.ntmps4
  go_wp2_with (refine stop_at (o := ⟨some 2, _, _, _, _, _⟩) ?_)
  refine Stop.mk ?_
  refine wpList_box_rowS rfl _ _ rfl (stC s sm sg sp sd) rfl ?_
  intro w1 hz1 hs1 hk1
  obtain ⟨X, hX⟩ : ∃ X, X = w.heap.size := ⟨_, rfl⟩
  rw [← hX] at hz1 ⊢
  have HX := Lib.hid (show w.heap.size = X from hX.symm)
  have HSH := Lib.hid (law_shown w1)
  have HZ1 := Lib.hid hz1.out
  have HK1 := Lib.hid hk1
  clear hz1 hs1 hk1 hX
  go_wp2_with fail
  refine Calls.mono HSH.out ?_
  rintro e w2 ⟨rfl, hk2⟩
  have HZ2 := Lib.hid (hk2.block HZ1.out)
  have HK2 := Lib.hid (HK1.out.trans hk2)
  clear hk2 HZ1 HK1 HSH
  go_wp2_with (refine stop_at (o := ⟨some 17, _, _, _, _, _⟩) ?_)
  refine Stop.mk ?_
  refine wpList_load_agg rfl _ rfl agT_state X 0 rfl _ (Cells.of_block HZ2.out) HL.out ?_
  have HCU := Lib.hid (law_cut s sm sg sp sd raw w2 (HH.out.kept HK2.out))
  go_wp2_with fail
  refine Calls.mono HCU.out ?_
  rintro e w3 ⟨sm3, sg3, sp3, sd3, raw3, rfl, hst, hk3⟩
  have HSTA := Lib.hid hst
  have HST := Lib.hid (hst w3 (But.refl _ _))
  have HZ3 := Lib.hid (hk3.block HZ2.out)
  have HK3 := Lib.hid (HK2.out.trans hk3)
  have hsz2 := HK2.out.size
  have HX2 := Lib.hid (show X < w2.heap.size from (Array.getElem?_eq_some_iff.1 HZ2.out).1)
  clear hst hk3 HZ2 HK2 HCU hsz2
  obtain ⟨t, ht⟩ : ∃ t, t = cutS s := ⟨_, rfl⟩
  rw [← ht] at HSTA HST ⊢
  have HD30 := Lib.hid (show t.dirty.length ≤ 30 by rw [ht]; show (s.dirty.take 30).length ≤ 30; rw [List.length_take]; omega)
  clear ht
  have HL3 := Lib.hid (stC_len HST.out.plug sm3 sg3 sp3 sd3)
  have HO3 := Lib.hid (st_one HST.out)
  go_wp2_with (refine stop_at (o := ⟨none, .store _ _ _, _, _, _, _⟩) ?_)
  refine Stop.mk ?_
  refine wpList_store_agg rfl _ _ rfl agT_state X 0 rfl (stC t sm3 sg3 sp3 sd3) rfl HL3.out HO3.out _ _ HZ3.out (by rw [HL.out]; decide) ?_
  intro w4 hw4
  replace hw4 := hw4.all (by rw [HL3.out, HL.out])
  have hb4 : But (fun i => i = X) w3 w4 := But.wrote hw4 rfl
  have HZ4 := Lib.hid hw4.blk
  have HK4 := Lib.hid (But.to_kept HK3.out hb4 (fun i hi => by have := HX.out; omega))
  have HST4 := Lib.hid (HSTA.out w4 (hb4.mono (fun i hi => by have := HX2.out; omega)))
  clear hw4 hb4 HST HSTA HZ3 HK3 HX2
  go_wp2_with (refine stop_at (o := ⟨some 19, _, _, _, _, _⟩) ?_)
  refine Stop.mk ?_
  refine wpList_load_agg rfl _ rfl agT_state X 0 rfl _ (Cells.of_block HZ4.out) HL3.out ?_
  have HRI := Lib.hid (st_Right t sm3 sg3 sp3 sd3 raw3 w4 HST4.out)
  go_wp2_with fail
  refine Calls.mono HRI.out ?_
  rintro e w5 ⟨rfl, hk5⟩
  have HZ5 := Lib.hid (hk5.block HZ4.out)
  have HK5 := Lib.hid (HK4.out.trans hk5)
  have HST5 := Lib.hid (HST4.out.kept hk5)
  clear hk5 HZ4 HK4 HST4 HRI
  cases hri : rightS t with
  | false =>
    go_wp2
    go_ret
    exact ⟨rfl, HK5.out⟩
  | true =>
    have HRT := Lib.hid hri
    clear hri
    have HLR := Lib.hid HST5.out.rel.len
    have hgl : raw3.length ≤ 4096 := by rw [HLR.out]; exact HST5.out.lgs
    have HINC := Lib.hid ((risesB_iff _).1 ((rightS_iff t).1 HRT.out).gsr)
    obtain ⟨om, cm, rfl, _⟩ := HST5.out.ms.form
    obtain ⟨og, cg, rfl, _⟩ := HST5.out.gs.form
    obtain ⟨op, cp, rfl, _⟩ := HST5.out.mp.form
    obtain ⟨od, cd, rfl, _⟩ := HST5.out.dirty.form
    have HX2 := Lib.hid (stv_cells (Cells.of_block HZ5.out)).2.2.1
    have HI5 := Lib.hid (show ∀ k (hk : k < ids.length), ∃ b off, oi = some ⟨b, off, none⟩ ∧ w5.cell? ⟨b, off + k, none⟩ = some (.int .i64 ids[k]) from fun k hk => by
      obtain ⟨b, off, e, hc⟩ := HIDS.out.at k hk
      exact ⟨b, off, e, HK5.out.cell' hc⟩)
    obtain ⟨wq, rfl⟩ : ∃ wq, wq = w5 := ⟨_, rfl⟩
    go_upto_block 0 with fail
    go_cut [6] (fun lv wc => ∃ (l : List Int) (ol : Option Addr) (cl : Nat), lv = .slice ol l.length cl ∧ l.length ≤ 20 ∧ Hid (Gat t wq wc (.slice ol l.length cl) l))
    case first =>
      go_wp2
      go_loopw [6, 7] (fun lv iv wr => ∃ (l : List Int) (ol : Option Addr) (cl i : Nat), lv = .slice ol l.length cl ∧ i ≤ ids.length ∧ l.length ≤ 20 ∧ iv = .int .i64 (i : Int) ∧ Hid (Gat t wq wr (.slice ol l.length cl) l)) (fun _ iv _ => ids.length - (intOf iv).toNat)
      case atStart => exact ⟨[], none, 0, 0, rfl, Nat.zero_le _, by simp, rfl, Lib.hid ⟨fun x hx => absurd hx List.not_mem_nil, .inr ⟨rfl, none, rfl⟩, Kept.refl _⟩⟩
      case round =>
        obtain ⟨l, ol, cl, i, rfl, hi, hl20, rfl, HG⟩ := hrel
        by_cases hli : i < ids.length
        · by_cases hll : l.length < 20
          · have hd20 : decide ((l.length : Int) < 20) = true := by simp; omega
            obtain ⟨bi, offi, rfl, hci⟩ := HI5.out i hli
            obtain ⟨x, hx⟩ : ∃ x, x = ids[i]'hli := ⟨_, rfl⟩
            rw [← hx] at hci
            have HCI := Lib.hid hci
            clear hci hx
            go_wp2
            go_loopw [6, 8] (fun lv kv wr => ∃ (l : List Int) (ol : Option Addr) (cl k : Nat), lv = .slice ol l.length cl ∧ k ≤ raw3.length ∧ l.length ≤ 19 + cntG t.gs x k ∧ l.length ≤ 10000 ∧ kv = .int .i64 (k : Int) ∧ Hid (Gat t wq wr (.slice ol l.length cl) l)) (fun _ kv _ => raw3.length - (intOf kv).toNat)
            case atStart => exact ⟨l, ol, cl, 0, rfl, Nat.zero_le _, by omega, by omega, rfl, HG⟩
            case round =>
              obtain ⟨l, ol, cl, k, rfl, hk, hlk, hlt4, rfl, HG⟩ := hrel
              have x2 := HG.out.kept.cell' HX2.out
              have hck := cnt_le t.gs x k
              by_cases hlt : k < raw3.length
              · obtain ⟨bg, offg, e, hbg, hcg⟩ := HST5.out.gs.at hlt
                subst e
                have hlt2 : k < t.gs.length := by rw [← HLR.out]; exact hlt
                have hrl := HST5.out.rel.at_ k hlt hlt2
                obtain ⟨gi, hgi⟩ : ∃ g, g = (t.gs[k]'hlt2).id := ⟨_, rfl⟩
                obtain ⟨gk, hgk⟩ : ∃ g, g = (t.gs[k]'hlt2).kind := ⟨_, rfl⟩
                have g0 := HG.out.kept.cell' (hcg 0 (by simp [grw]))
                have g1 := HG.out.kept.cell' (hcg 1 (by simp [grw]))
                simp only [grw, List.getElem_cons_zero, List.getElem_cons_succ, Nat.add_zero, hrl.id, hrl.kind] at g0 g1
                rw [← hgi] at g0
                rw [← hgk] at g1
                have HGI := Lib.hid hgi; have HGK := Lib.hid hgk
                have ci0 := HG.out.kept.cell' HCI.out
                have HCN := Lib.hid (cnt_succ t.gs x k hlt2)
                clear hcg hrl hgi hgk hbg
                cases hq : (gi == x) with
                | true =>
                  have HCN1 : Hid (cntG t.gs x (k + 1) = cntG t.gs x k + 1) := Lib.hid (by rw [HCN.out, ← HGI.out, hq]; rfl)
                  cases hkd : (gk == 1) with
                  | true =>
                    have HDB := Lib.hid (show dirtyB t x = true by
                      have h1 := eq_of_beq hkd
                      have h2 := eq_of_beq hq
                      have := dirty_of HRT.out hlt2 (by rw [← HGK.out]; exact h1)
                      rw [← HGI.out, h2] at this
                      exact this)
                    go_upto_region 12 with fail
                    refine wp_still_all (by kernel_rfl) (by kernel_rfl) fun ws hks hhs => ?_
                    replace x2 := hks.cell' x2
                    replace g0 := hks.cell' g0
                    replace g1 := hks.cell' g1
                    replace ci0 := hks.cell' ci0
                    have HGS := Lib.hid (HG.out.on hks)
                    clear hks hhs
                    iterate 20 still_step
                    refine wpStill_nil ?_
                    have hka : ∀ o, Kept ws (ws.alloc o) := fun o => (Kept.refl _).alloc o
                    go_wp2_with (at_builtin; refine stop_at ?_)
                    refine Stop.mk ?_
                    refine wpList_own_push rfl _ _ rfl oneV_len tyE_i rfl (HGS.out.own.kept (hka _)) (by simp) [x] _ rfl (src_one ws x _) (ones_i [x]) (by simp only [maxLen, List.length_singleton]; omega) (by simp only [List.length_singleton]; omega) ?_
                    intro v' W' lo' hi' ho hh hw hb
                    have hsq := HGS.out.kept.size
                    have hlo : wq.heap.size ≤ lo' := by
                      rcases hw with h | h
                      · exact h.1
                      · have := (hka (.cells #[.int .i64 x] 3)).size; omega
                    have HG2 : Hid (Gat t wq W' v' (l ++ [x])) := Lib.hid
                      { all := fun y hy => by
                          rcases List.mem_append.1 hy with h | h
                          · exact HGS.out.all y h
                          · rw [List.mem_singleton.1 h]; exact HDB.out
                        own := (ho.wide hh).low hlo
                        kept := But.to_kept (HGS.out.kept.trans (hka _)) hb (fun i hi => hi.1) }
                    obtain ⟨ol', cl', rfl⟩ := ho.form
                    clear ho hh hw hb hka hsq hlo
                    go_wp2
                    go_roundw
                    case rel => exact ⟨l ++ [x], ol', cl', k + 1, by simp, by omega, by rw [HCN1.out, List.length_append, List.length_singleton]; omega, by rw [List.length_append, List.length_singleton]; omega, by go_num, HG2⟩
                    case measure => simp [intOf]; omega
                  | false =>
                    go_upto_region 12 with fail
                    go_quiet (fail)
                    go_wp2
                    go_roundw
                    case rel => exact ⟨l, ol, cl, k + 1, rfl, by omega, by rw [HCN1.out]; omega, by omega, by go_num, Lib.hid (HG.out.on ((Kept.refl _).drewN _))⟩
                    case measure => simp [intOf]; omega
                | false =>
                  have HCN1 : Hid (cntG t.gs x (k + 1) = cntG t.gs x k) := Lib.hid (by rw [HCN.out, ← HGI.out, hq]; rfl)
                  go_upto_region 12 with fail
                  go_quiet (fail)
                  go_wp2
                  go_roundw
                  case rel => exact ⟨l, ol, cl, k + 1, rfl, by omega, by rw [HCN1.out]; omega, by omega, by go_num, Lib.hid (HG.out.on ((Kept.refl _).drewN _))⟩
                  case measure => simp [intOf]; omega
              · have hc1 := cnt_all t.gs x HINC.out k (by rw [← HLR.out]; omega)
                go_wp2
                go_roundw
                case rel => exact ⟨l, ol, cl, i + 1, rfl, by omega, by omega, by go_num, HG⟩
                case measure => simp [intOf]; omega
          · go_wp2
            go_meet
            case rel => exact ⟨l, ol, cl, rfl, hl20, HG⟩
        · go_wp2
          go_meet
          case rel => exact ⟨l, ol, cl, rfl, hl20, HG⟩
    case rest =>
      obtain ⟨l, ol, cl, rfl, hl20, HG⟩ := hcut
      have HOK := Lib.hid (⟨hl20, HG.out.all⟩ : OkL t l)
      have HRL := Lib.hid (HG.out.own.rsl oneV_len)
      have HSRC := Lib.hid (Src.of_app HG.out.own.app)
      have HXc := Lib.hid (HG.out.kept.block HZ5.out)
      have HKc := Lib.hid (HK5.out.trans HG.out.kept)
      have HSTc := Lib.hid (HST5.out.kept HG.out.kept)
      have HLc := Lib.hid (st_len HST5.out)
      clear HG HZ5 HK5 HST5 HI5 HIDS HX2 HL3
      go_wp2_with (refine stop_at (o := ⟨some 69, _, _, _, _, _⟩) ?_)
      refine Stop.mk ?_
      refine wpList_load_agg rfl _ rfl agT_state X 0 rfl _ (Cells.of_block HXc.out) HLc.out ?_
      go_wp2_with (refine stop_at (o := ⟨some 71, _, _, _, _, _⟩) ?_)
      refine Stop.mk ?_
      refine wpList_rec_dirty rfl _ _ rfl ol l.length cl rfl rfl ?_
      have happ := st_Apply (rcDirty (.slice ol l.length cl)) (rcv_len _ _ _ _ _ _ _ _ _ _ _) (okMany 24 l.length && l.all (fun x => mayPut x 1)) 0 t (dirtyS t (joinL t.dirty l)) _ _ _ _ raw3 wc HSTc.out (fun W hk => record_dirty _ l W (HRL.out.kept hk) (by omega)) (fun _ _ => step_dirty wc t l _ (by have := HD30.out; omega) HSRC.out ⟨rfl, rfl⟩)
      rw [join_apply HRT.out HOK.out] at happ
      have HAPP := Lib.hid happ
      clear happ
      go_wp2_with fail
      refine Calls.mono HAPP.out ?_
      rintro e w8 ⟨cells, rfl, hst8, hk8, hl8, ho8⟩
      obtain ⟨sm8, sg8, sp8, sd8, raw8, rfl, hst⟩ := hst8 trivial
      obtain ⟨D, hD⟩ : ∃ D, D = joinL t.dirty l := ⟨_, rfl⟩
      have HDM := Lib.hid (show ∀ x, x ∈ D ↔ x ∈ t.dirty ∨ x ∈ l by rw [hD]; exact joinL_mem t.dirty l)
      have HR1 := Lib.hid (join_right HRT.out HOK.out)
      have HCA := Lib.hid (clean_apply HRT.out HOK.out)
      rw [← hD] at hst hl8 ho8 HR1 HCA ⊢
      have hdd := hst.dirty
      have hdl := hst.ldi
      have e1 : (dirtyS t D).dirty = D := rfl
      rw [e1] at hdd hdl
      obtain ⟨od8, cd8, rfl, _⟩ := hdd.form
      have HX8 := Lib.hid (hk8.block HXc.out); have HK8 := Lib.hid (HKc.out.trans hk8)
      have HL8 := Lib.hid hl8; have HO8 := Lib.hid ho8
      have HRL8 := Lib.hid (HRL.out.kept hk8); have HTD8 := Lib.hid ((HSTc.out.dirty).kept hk8)
      have HST8 := Lib.hid hst; have HDD8 := Lib.hid hdd
      clear hk8 hl8 ho8 hst8 hst hdd HAPP HXc HKc HRL HSTc HSRC hD e1
      go_wp2_with (refine stop_at (o := ⟨some 9, .alloc _, _, _, _, _⟩) ?_)
      refine Stop.mk ?_
      refine wpList_new_state rfl rfl _ _ rfl rfl _ rfl HL8.out HO8.out rfl ?_
      intro w9 hz9 hk9
      obtain ⟨Z, hZ⟩ : ∃ Z, Z = w8.heap.size := ⟨_, rfl⟩
      rw [← hZ] at hz9 ⊢
      have HZ9 := hz9
      have HX9 := Lib.hid (hk9.block HX8.out)
      have HK9 := Lib.hid (HK8.out.trans hk9)
      have HRL9 := Lib.hid (HRL8.out.kept hk9); have HTD9 := Lib.hid (HTD8.out.kept hk9)
      have HST9 := Lib.hid (HST8.out.kept hk9); have HDD9 := Lib.hid (HDD8.out.kept hk9)
      have HZ4 := Lib.hid (stv_cells (Cells.of_block hz9.out)).2.2.2.2
      have HX4 := Lib.hid (stv_cells (Cells.of_block HX9.out)).2.2.2.2
      have htl : t.dirty.length ≤ 4096 := by have := HD30.out; omega
      clear hz9 hk9 hZ HX8 HK8 HRL8 HTD8 HST8 HDD8
      go_wp2
      go_loopw [11] (fun iv wr => ∃ i : Nat, i ≤ l.length ∧ iv = .int .i64 (i : Int) ∧ Hid (Kept w9 wr)) (fun iv _ => l.length - (intOf iv).toNat)
      case atStart => exact ⟨0, Nat.zero_le _, rfl, Lib.hid (Kept.refl _)⟩
      case round =>
        obtain ⟨i, hi, rfl, HKI⟩ := hrel
        by_cases hli : i < l.length
        · obtain ⟨bl, offl, rfl, hbl, hcl⟩ := (HRL9.out.kept HKI.out).at hli
          obtain ⟨x, hx⟩ : ∃ x, x = l[i]'hli := ⟨_, rfl⟩
          rw [← hx] at hcl
          have c0 := hcl 0 (by rw [oneV_len]; decide)
          simp only [oneV, List.getElem_cons_zero, Nat.add_zero, Nat.mul_one] at c0
          have z4 := HKI.out.cell' HZ4.out
          have HAM := Lib.hid (show ∀ n, Calls Tryz.prog 12 #[.slice od8 D.length cd8, .int .i64 x] (wr.drewN n) fun e w' => e = .returned (.bool true) ∧ w' = wr.drewN n by
            intro n
            have hm : memB D x = true := mem_memB.2 ((HDM.out x).2 (.inr (by rw [hx]; exact List.getElem_mem hli)))
            have := among_same D x (.slice od8 D.length cd8) (wr.drewN n) hdl (HDD9.out.kept (HKI.out.trans ((Kept.refl _).drewN n)))
            rw [hm] at this
            exact this)
          clear hcl hbl hx
          go_upto_region 20 with fail
          go_quiet (first | (go_at_call 12; refine Calls.quiet_of_same (HAM.out _)))
          go_wp2
          go_roundw
          case rel => exact ⟨i + 1, by omega, by go_num, Lib.hid (HKI.out.trans ((Kept.refl _).drewN _))⟩
          case measure => simp [intOf]; omega
        · go_wp2
          go_loopw [12] (fun iv wr => ∃ i : Nat, i ≤ D.length ∧ iv = .int .i64 (i : Int) ∧ Hid (Kept w9 wr)) (fun iv _ => D.length - (intOf iv).toNat)
          case atStart => exact ⟨0, Nat.zero_le _, rfl, HKI⟩
          case round =>
            obtain ⟨j, hj, rfl, HKJ⟩ := hrel
            have z4 := HKJ.out.cell' HZ4.out
            by_cases hlj : j < D.length
            · obtain ⟨bd, offd, rfl, hbd, hcd⟩ := (HDD9.out.kept HKJ.out).at hlj
              obtain ⟨x, hx⟩ : ∃ x, x = D[j]'hlj := ⟨_, rfl⟩
              rw [← hx] at hcd
              have c0 := hcd 0 (by rw [oneV_len]; decide)
              simp only [oneV, List.getElem_cons_zero, Nat.add_zero, Nat.mul_one] at c0
              have x4 := HKJ.out.cell' HX4.out
              have hxm : x ∈ t.dirty ∨ x ∈ l := (HDM.out x).1 (by rw [hx]; exact List.getElem_mem hlj)
              have HAM := Lib.hid (show ∀ n, Calls Tryz.prog 12 #[.slice ol l.length cl, .int .i64 x] (wr.drewN n) fun e w' => e = .returned (.bool (memB l x)) ∧ w' = wr.drewN n from
                fun n => among_same l x _ (wr.drewN n) (by omega) (HRL9.out.kept (HKJ.out.trans ((Kept.refl _).drewN n))))
              clear hcd hbd hx
              cases hml : memB l x with
              | true =>
                rw [hml] at HAM
                clear hml hxm
                go_upto_region 25 with fail
                go_quiet (first | (go_at_call 12; refine Calls.quiet_of_same (HAM.out _)))
                go_wp2
                go_roundw
                case rel => exact ⟨j + 1, by omega, by go_num, Lib.hid (HKJ.out.trans ((Kept.refl _).drewN _))⟩
                case measure => simp [intOf]; omega
              | false =>
                rw [hml] at HAM
                have hmd : memB t.dirty x = true := mem_memB.2 (hxm.resolve_right (fun h => by rw [mem_memB.2 h] at hml; cases hml))
                have HAD := Lib.hid (show ∀ n, Calls Tryz.prog 12 #[.slice od t.dirty.length cd, .int .i64 x] (wr.drewN n) fun e w' => e = .returned (.bool true) ∧ w' = wr.drewN n by
                  intro n
                  have := among_same t.dirty x _ (wr.drewN n) htl (HTD9.out.kept (HKJ.out.trans ((Kept.refl _).drewN n)))
                  rw [hmd] at this
                  exact this)
                clear hml hxm hmd
                go_upto_region 25 with fail
                go_quiet (first | (go_at_call 12; with_reducible refine Calls.quiet_of_same (HAM.out _)) | (go_at_call 12; with_reducible refine Calls.quiet_of_same (HAD.out _)))
                go_wp2
                go_roundw
                case rel => exact ⟨j + 1, by omega, by go_num, Lib.hid (HKJ.out.trans ((Kept.refl _).drewN _))⟩
                case measure => simp [intOf]; omega
            · have HSTj := Lib.hid (HST9.out.kept HKJ.out)
              have HZj := Lib.hid (HKJ.out.block HZ9.out)
              have HKj := Lib.hid (HK9.out.trans HKJ.out)
              have HRLj := Lib.hid (HRL9.out.kept HKJ.out)
              clear HST9 HZ9 HK9 HRL9 HKJ HTD9 HDD9 HX9 HX4 HZ4
              go_wp2_with (refine stop_at (o := ⟨some 118, _, _, _, _, _⟩) ?_)
              refine Stop.mk ?_
              refine wpList_load_agg rfl _ rfl agT_state Z 0 rfl _ (Cells.of_block HZj.out) HL8.out ?_
              go_wp2_with (refine stop_at (o := ⟨some 120, _, _, _, _, _⟩) ?_)
              refine Stop.mk ?_
              refine wpList_rec_clean rfl _ _ rfl ol l.length cl rfl rfl ?_
              have happ := st_Apply (rcClean (.slice ol l.length cl)) (rcv_len _ _ _ _ _ _ _ _ _ _ _) (okMany 24 l.length && l.all (fun x => mayPut x 1)) 0 (dirtyS t D) (dirtyS (dirtyS t D) (cleanL D l)) _ _ _ _ raw8 wr HSTj.out (fun W hk => record_clean _ l W (HRLj.out.kept hk) (by omega)) (fun _ _ => step_clean wr (dirtyS t D) l _ (by omega) HRLj.out)
              rw [HCA.out] at happ
              have HAPP2 := Lib.hid happ
              clear happ
              go_wp2_with fail
              refine Calls.mono HAPP2.out ?_
              rintro e w10 ⟨cells, rfl, hst10, hk10, hl10, ho10⟩
              obtain ⟨sm10, sg10, sp10, sd10, raw10, rfl, hst⟩ := hst10 trivial
              obtain ⟨C, hC⟩ : ∃ C, C = cleanL D l := ⟨_, rfl⟩
              have HCM := Lib.hid (show ∀ x ∈ C, memB l x = false by
                intro x hx
                rw [hC] at hx
                have := (List.mem_filter.1 hx).2
                simpa using this)
              rw [← hC] at hst hl10 ho10 ⊢
              have hdd := hst.dirty
              have hdl2 := hst.ldi
              have e1 : (dirtyS (dirtyS t D) C).dirty = C := rfl
              rw [e1] at hdd hdl2
              obtain ⟨od10, cd10, rfl, _⟩ := hdd.form
              have HK10 := Lib.hid (HKj.out.trans hk10)
              have HL10 := Lib.hid hl10; have HO10 := Lib.hid ho10
              have HRL10 := Lib.hid (HRLj.out.kept hk10)
              have HDD10 := Lib.hid hdd
              clear hk10 hl10 ho10 hst10 hst hdd HAPP2 hC e1
              go_wp2_with (refine stop_at (o := ⟨some 13, .alloc _, _, _, _, _⟩) ?_)
              refine Stop.mk ?_
              refine wpList_new_state rfl rfl _ _ rfl rfl _ rfl HL10.out HO10.out rfl ?_
              intro w11 hz11 hk11
              obtain ⟨U, hU⟩ : ∃ U, U = w10.heap.size := ⟨_, rfl⟩
              rw [← hU] at hz11 ⊢
              have HK11 := Lib.hid (HK10.out.trans hk11)
              have HRL11 := Lib.hid (HRL10.out.kept hk11)
              have HDD11 := Lib.hid (HDD10.out.kept hk11)
              have HU4 := Lib.hid (stv_cells (Cells.of_block hz11.out)).2.2.2.2
              clear hz11 hk11 hU HRL10 HDD10 HK10
              go_wp2
              go_loopw [15] (fun iv wr => ∃ i : Nat, i ≤ C.length ∧ iv = .int .i64 (i : Int) ∧ wr = w11) (fun iv _ => C.length - (intOf iv).toNat)
              case atStart => exact ⟨0, Nat.zero_le _, rfl, rfl⟩
              case round =>
                obtain ⟨q, hq, rfl, rfl⟩ := hrel
                have u4 := HU4.out
                by_cases hlq : q < C.length
                · obtain ⟨bd, offd, rfl, hbd, hcd⟩ := HDD11.out.at hlq
                  obtain ⟨x, hx⟩ : ∃ x, x = C[q]'hlq := ⟨_, rfl⟩
                  rw [← hx] at hcd
                  have c0 := hcd 0 (by rw [oneV_len]; decide)
                  simp only [oneV, List.getElem_cons_zero, Nat.add_zero, Nat.mul_one] at c0
                  have hml : memB l x = false := HCM.out x (by rw [hx]; exact List.getElem_mem hlq)
                  have ham := among_same l x (.slice ol l.length cl) wr (by omega) HRL11.out
                  rw [hml] at ham
                  have HAM := Lib.hid ham
                  clear ham hml hcd hbd hx
                  go_wp2_with fail
                  refine Calls.mono HAM.out ?_
                  rintro e w' ⟨rfl, rfl⟩
                  go_wp2
                  go_roundw
                  case rel => exact ⟨q + 1, by omega, by go_num, trivial⟩
                  case measure => simp [intOf]; omega
                · go_wp2
                  go_ret
                  exact ⟨rfl, HK11.out⟩
end Go.Proofs.YtiijfocdjcjlaaaGreat
