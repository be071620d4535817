/- label.Put. -/
import Derived.Test.YtcbghpcohbgcjaaLabB
import Derived.Test.YtcbghpcohbgcjaaSec
import Derived.Deep.RegionHeld3
import Derived.Deep.DrawnRows
namespace Go.Proofs.Ytcbghpcohbgcjaa
open Go.RowKit
set_option linter.unusedVariables false

def Lab.flds (l : Lab) : List (Int × Int) := [(l.array, 4), (l.gen, 4), (l.member, 1), (l.blocks, 2), (l.ms.length, 1)]
def Mem.bytes (m : Mem) : List Int := beBytes m.id 1 ++ (beBytes m.sec 2 ++ beBytes m.st 1)
def fldBytes (f : List (Int × Int)) : List Int := f.flatMap fun p => beBytes p.1 p.2.toNat
def memBytes (ms : List Mem) : List Int := ms.flatMap Mem.bytes
def Lab.text (l : Lab) : List Int := [66, 87] ++ (fldBytes l.flds ++ memBytes l.ms)
def Lab.sec (l : Lab) : List Int := l.text ++ List.replicate (64 - l.text.length) 0

theorem Mem.bytes_length (m : Mem) : m.bytes.length = 4 := by simp [Mem.bytes, beBytes_length]
theorem memBytes_length (ms : List Mem) : (memBytes ms).length = 4 * ms.length := by
  induction ms with
  | nil => simp [memBytes]
  | cons m ms ih => simp only [memBytes, List.flatMap_cons, List.length_append, Mem.bytes_length, List.length_cons] at ih ⊢; omega
theorem Lab.text_length (l : Lab) : l.text.length = 14 + 4 * l.ms.length := by
  simp [Lab.text, fldBytes, Lab.flds, memBytes_length, beBytes_length]; omega
theorem fldBytes_next (f : List (Int × Int)) (k : Nat) (h : k < f.length) : fldBytes (f.take (k + 1)) = fldBytes (f.take k) ++ beBytes f[k].1 f[k].2.toNat := by
  unfold fldBytes; rw [List.take_succ_eq_append_getElem h, List.flatMap_append, List.flatMap_singleton]
theorem fldBytes_take (f : List (Int × Int)) (k : Nat) : (fldBytes (f.take k)).length ≤ (fldBytes f).length := by
  have : fldBytes f = fldBytes (f.take k) ++ fldBytes (f.drop k) := by
    unfold fldBytes; rw [← List.flatMap_append, List.take_append_drop]
  rw [this, List.length_append]; omega
theorem Lab.flds_len (l : Lab) : (fldBytes l.flds).length = 12 := by simp [fldBytes, Lab.flds, beBytes_length]
theorem memBytes_next (ms : List Mem) (k : Nat) (h : k < ms.length) : memBytes (ms.take (k + 1)) = memBytes (ms.take k) ++ ms[k].bytes := by
  unfold memBytes; rw [List.take_succ_eq_append_getElem h, List.flatMap_append, List.flatMap_singleton]
theorem splice_u8s (t : List Int) (h : t.length ≤ 64) : splice (u8s zeroB) 0 (u8s t) = u8s (t ++ List.replicate (64 - t.length) 0) := by
  have e : (u8s zeroB).drop t.length = u8s (List.replicate (64 - t.length) 0) := by
    rw [show u8s zeroB = List.replicate 64 (.int .u8 0) from by rw [u8s, zeroB, List.map_replicate], List.drop_replicate, u8s, List.map_replicate]
  rw [splice, List.take_zero, List.nil_append, Nat.zero_add, u8s_length, e, u8s_append]
theorem Lab.sec_length (l : Lab) (h : l.ms.length ≤ 12) : l.sec.length = 64 := by
  have := l.text_length
  simp [Lab.sec]; omega
theorem label_Right_t (l : Lab) (sl : Value) (w : World) (hm : MSl w sl l.ms) (hr : rightB l = true) :
    Calls Try.prog 78 #[l.val sl] w fun e w' => e = .returned (.bool true) ∧ Kept w w' := by
  refine (label_Right l sl w ?_ hm).mono fun e w' ⟨he, hk⟩ => ⟨by rw [he, hr], hk⟩
  simp only [rightB, headB, inB, Bool.and_eq_true, decide_eq_true_eq] at hr
  omega
theorem label_Right_f (l : Lab) (sl : Value) (w : World) (hlen : l.ms.length ≤ 9223372036854775807) (hm : MSl w sl l.ms) (hr : rightB l = false) :
    Calls Try.prog 78 #[l.val sl] w fun e w' => e = .returned (.bool false) ∧ Kept w w' := by
  exact (label_Right l sl w hlen hm).mono fun e w' ⟨he, hk⟩ => ⟨by rw [he, hr], hk⟩

set_option maxHeartbeats 1000000 in
set_option maxRecDepth 100000 in
theorem label_Put_no (l : Lab) (sl : Value) (w : World) (hlen : l.ms.length ≤ 9223372036854775807) (hm : MSl w sl l.ms) (hr : rightB l = false) :
    Calls Try.prog 43 #[l.val sl] w fun e w' => e = .returned (.tuple #[secV zeroB, .int .i64 1]) ∧ Kept w w' := by
  have hB : ∀ o, Kept w (w.alloc o) := fun o => (Kept.refl _).alloc o
  have hR := fun (W : World) (hk : Kept w W) => label_Right_f l sl W hlen (hm.kept hk) hr
  have HR := Lib.hid hR; clear hR
  clear hr hm
  obtain ⟨array, gen, member, blocks, ms⟩ := l
  simp only [Lab.val] at HR ⊢
  go_enter Try.func43, Try.ntmps43
  go_wp2_with (first | (refine wpList_alloc_abs rfl 36 rfl (u8s zeroB) zero_sec ?_; intro w1 hz1 hs1 hn1 hk1; have q1 := hk1.q; have hk1' := (hB _).trans hk1) | (go_at_call 78; refine (HR.out _ hk1').mono ?_; rintro e w2 ⟨rfl, hk2⟩; have hz2 := Lib.hid (hk2.block hz1.out); rw [World.size_alloc] at hz2) | (refine wpList_load_agg rfl _ rfl ty_sec (w.heap.size + 1) 0 rfl (u8s zeroB) (by simpa using Cells.of_block hz2.out) (by simp [u8s_length, zeroB_length]) ?_) | (refine wpList_store_agg rfl _ _ rfl ty_sec (w.heap.size + 1) 0 rfl (u8s zeroB) rfl (by simp [u8s_length, zeroB_length]) (u8s_one _) (u8s zeroB) 36 hz2.out (by simp [u8s_length, zeroB_length]) ?_; intro w3 hw3))
  replace hw3 := hw3.all rfl
  have hkw : Kept w w3 := hw3.kept (hk1'.trans hk2) (by omega)
  refine bodyPost_ret (results_sec rfl _ _ (w.heap.size + 1) zeroB rfl hw3.cells zeroB_length) rfl ⟨rfl, hkw⟩

theorem risesB_mem (ms : List Mem) : ∀ last, risesB last ms = true → ∀ m ∈ ms, mayB m = true := by
  induction ms with
  | nil => intro _ _ m hm; cases hm
  | cons x ms ih =>
    intro last h m hm
    simp only [risesB, Bool.and_eq_true] at h
    rcases List.mem_cons.1 hm with rfl | hm
    · exact h.1.1
    · exact ih _ h.2 m hm
theorem Lab.mem (l : Lab) (h : rightB l = true) : ∀ m ∈ l.ms, mayPut m.id 1 = true ∧ mayPut m.sec 2 = true ∧ mayPut m.st 1 = true := by
  simp only [rightB, Bool.and_eq_true] at h
  intro m hm
  have := risesB_mem _ _ h.2.1 m hm
  simp only [mayB, inB, Bool.and_eq_true, decide_eq_true_eq] at this
  simp only [mayPut_iff, show (8 * 1 : Int).toNat = 8 from rfl, show (8 * 2 : Int).toNat = 16 from rfl]
  omega
theorem Lab.fld (l : Lab) (h : rightB l = true) : ∀ p ∈ l.flds, mayPut p.1 p.2 = true := by
  have hown : 0 ≤ l.member ∧ l.member ≤ 31 := by
    simp only [rightB, Bool.and_eq_true, hasOwn, List.any_eq_true, beq_iff_eq] at h
    obtain ⟨_, hr, m, hm, he⟩ := h
    have := risesB_mem _ _ hr m hm
    simp only [mayB, inB, Bool.and_eq_true, decide_eq_true_eq] at this
    omega
  simp only [rightB, headB, inB, Bool.and_eq_true, decide_eq_true_eq] at h
  intro p hp
  simp only [Lab.flds, List.mem_cons, List.not_mem_nil, or_false] at hp
  rcases hp with rfl | rfl | rfl | rfl | rfl <;> simp only [mayPut_iff, show (8 * 1 : Int).toNat = 8 from rfl, show (8 * 2 : Int).toNat = 16 from rfl, show (8 * 4 : Int).toNat = 32 from rfl] <;> omega

attribute [local go_sem ↓] Go.wp_at_zero Go.wp_at_succ
set_option maxHeartbeats 2000000 in
set_option maxRecDepth 100000 in
theorem label_Put_ok (l : Lab) (sl : Value) (w : World) (hm : MSl w sl l.ms) (hr : rightB l = true) :
    Calls Try.prog 43 #[l.val sl] w fun e w' => e = .returned (.tuple #[secV l.sec, .int .i64 0]) ∧ Kept w w' := by
  have hB : ∀ o, Kept w (w.alloc o) := fun o => (Kept.refl _).alloc o
  have hR := fun (W : World) (hk : Kept w W) => label_Right_t l sl W (hm.kept hk) hr
  have hF := l.fld hr
  have hM := l.mem hr
  have HF := Lib.hid hF; clear hF
  have hN : l.ms.length ≤ 12 := by
    simp only [rightB, headB, inB, Bool.and_eq_true, decide_eq_true_eq] at hr
    omega
  have HMm := Lib.hid hM; clear hM
  have HR := Lib.hid hR; clear hR
  have HS := Lib.hid hm; clear hm
  clear hr
  obtain ⟨array, gen, member, blocks, ms⟩ := l
  obtain ⟨cap, oa, rfl⟩ : ∃ cap oa, sl = .slice oa ms.length cap := by
    rcases HS.out with ⟨rfl, rfl⟩ | ⟨b, off, cap, rfl, _⟩
    · exact ⟨_, _, rfl⟩
    · exact ⟨_, _, rfl⟩
  simp only [Lab.val] at HR ⊢
  have kc := conv_const
  go_enter Try.func43, Try.ntmps43
  go_wp2_with (first | (refine wpList_alloc_abs rfl 36 rfl (u8s zeroB) zero_sec ?_; intro w1 hz1 hs1 hn1 hk1; have q1 := hk1.q; have hk1' := (hB _).trans hk1; rw [World.size_alloc] at hn1 hz1 hs1; have hs1' : w.heap.size < w1.heap.size := (by omega)) | (go_at_call 78; refine (HR.out _ hk1').mono ?_; rintro e w2 ⟨rfl, hk2⟩; have q2 := hk2.q; have hz2 := Lib.hid (hk2.block hz1.out); have hs2 : w.heap.size + 1 < w2.heap.size := (by have := hk2.size; have := hn1.out; omega); have hs2' : w.heap.size < w2.heap.size := (by omega)))
  have hk2' : Kept w w2 := hk1'.trans hk2
  go_loopw [4, 33] (fun b i wr => ∃ k : Nat, k ≤ 5 ∧ i = .int .i64 k ∧ App wr w.heap.size 5 1 b ((([66, 87] ++ fldBytes ((Lab.flds ⟨array, gen, member, blocks, ms⟩).take k)) : List Int).length) (u8s ([66, 87] ++ fldBytes ((Lab.flds ⟨array, gen, member, blocks, ms⟩).take k))) ∧
    Cells wr (w2.heap.size + 1) 0 ((Lab.flds ⟨array, gen, member, blocks, ms⟩).flatMap fun p => [.int .i64 p.1, .int .i64 p.2]) ∧ Kept w2 wr) (fun _ i _ => 5 - (intOf i).toNat)
  case atStart =>
    refine ⟨0, by omega, rfl, ?_, ?_, ((Kept.refl _).alloc _).alloc _⟩
    · refine App.full (c := 2) (Src.of_cells (xs := u8s [66, 87]) ?_ rfl (by decide))
      exact Cells.kept (Cells.of_block (heap_alloc_new w2 _)) ((Kept.refl _).alloc _)
    · have := Cells.of_block (heap_alloc_new (w2.alloc (Obj.cells #[.int .u8 66, .int .u8 87] 5 (2, 3))) (Obj.cells #[.int .i64 array, .int .i64 4, .int .i64 gen, .int .i64 4, .int .i64 member, .int .i64 1, .int .i64 blocks, .int .i64 2, .int .i64 ms.length, .int .i64 1] 124))
      rw [World.size_alloc] at this
      exact this
  case round =>
    obtain ⟨k, hk, rfl, happ, hc, hbel⟩ := hrel
    have HC := Lib.hid hc; clear hc
    have HA := Lib.hid happ; clear happ
    have hsz := hbel.size
    have hkw : Kept w wr := hk2'.trans hbel
    by_cases hlt : k < 5
    · have hlf : k < (Lab.flds ⟨array, gen, member, blocks, ms⟩).length := hlt
      have hm := HF.out _ (List.getElem_mem hlf)
      have hT := fldBytes_next _ k hlf
      have c0 := HC.out.flat 2 (by simp) k 0 hlf _ rfl
      have c1 := HC.out.flat 2 (by simp) k 1 hlf _ rfl
      simp only [Nat.zero_add, Nat.add_zero] at c0 c1
      have hL : (fldBytes ((Lab.flds ⟨array, gen, member, blocks, ms⟩).take k)).length ≤ 100 := by
        have := fldBytes_take (Lab.flds ⟨array, gen, member, blocks, ms⟩) k
        rw [Lab.flds_len] at this; omega
      have HT := Lib.hid hT; clear hT
      generalize (Lab.flds ⟨array, gen, member, blocks, ms⟩)[k] = p at *
      obtain ⟨v, wd⟩ := p
      simp only at c0 c1 hm HT
      have HMv := Lib.hid hm; clear hm
      go_wp2_with (go_at_call 81; refine (pack_Put _ _ _ _ _ ((Src.of_app HA.out).kept ((Kept.refl _).alloc _)) (by simp; omega) HMv.out).mono ?_; rintro e w3 ⟨sv', rfl, hown, hk3⟩)
      go_roundw
      case rel =>
        have hk3' := (Kept.refl wr).alloc _ |>.trans hk3
        refine ⟨k + 1, by omega, by go_num, ?_, HC.out.kept hk3', hbel.trans hk3'⟩
        rw [HT.out, ← List.append_assoc]
        exact .inl (ownsRow_base hown (by simp; have := hkw.size; omega))
      case measure => simp [intOf]; omega
    · have e5 : (Lab.flds ⟨array, gen, member, blocks, ms⟩).take k = Lab.flds ⟨array, gen, member, blocks, ms⟩ := by
        have : k = 5 := by omega
        subst this; rfl
      rw [e5] at HA
      clear e5
      have q3 := hbel.q
      have hs3 : w.heap.size < wr.heap.size := by omega
      go_wp2
      clear HC q1 q2 q3
      obtain ⟨wa, rfl⟩ : ∃ wa, wa = wr := ⟨_, rfl⟩
      go_loopw [4, 47] (fun b i wr => ∃ k : Nat, k ≤ ms.length ∧ i = .int .i64 k ∧ App wr w.heap.size 5 1 b (([66, 87] ++ (fldBytes (Lab.flds ⟨array, gen, member, blocks, ms⟩) ++ memBytes (ms.take k)) : List Int).length) (u8s ([66, 87] ++ (fldBytes (Lab.flds ⟨array, gen, member, blocks, ms⟩) ++ memBytes (ms.take k)))) ∧
        Kept wa wr) (fun _ i _ => ms.length - (intOf i).toNat)
      case atStart => exact ⟨0, by omega, rfl, by simpa [memBytes] using HA.out, Kept.refl _⟩
      case round =>
        obtain ⟨k, hk, rfl, happ, hbel2⟩ := hrel
        have HB := Lib.hid happ; clear happ
        have hsz2 := hbel2.size
        have hkw2 : Kept w wr := hkw.trans hbel2
        by_cases hlt2 : k < ms.length
        · obtain ⟨b, off, cap', hsl, hm⟩ : ∃ b off cap', Value.slice oa ms.length cap = .slice (some ⟨b, off, none⟩) ms.length cap' ∧ MRow w b off ms := by
            rcases HS.out with ⟨h, _⟩ | h
            · have h' : ms = [] := h
              subst h'; simp at hlt2
            · exact h
          cases hsl
          obtain ⟨m0, m1, m2⟩ := (hm.kept hkw2) k hlt2
          obtain ⟨p0, p1, p2⟩ := HMm.out _ (List.getElem_mem hlt2)
          have HT := Lib.hid (memBytes_next ms k hlt2)
          have hlen : ([66, 87] ++ (fldBytes (Lab.flds ⟨array, gen, member, blocks, ms⟩) ++ memBytes (ms.take k)) : List Int).length ≤ 100 := by
            have h1 := Lab.flds_len ⟨array, gen, member, blocks, ms⟩
            have h2 := memBytes_length (ms.take k)
            have h3 : (ms.take k).length ≤ k := List.length_take_le _ _
            have h4 : ms.length ≤ 12 := hN
            simp only [List.length_append, h1, h2, List.length_cons, List.length_nil]; omega
          have HLn := Lib.hid hlen; clear hlen
          generalize hTd : [66, 87] ++ (fldBytes (Lab.flds ⟨array, gen, member, blocks, ms⟩) ++ memBytes (ms.take k)) = T at *
          have HTd := Lib.hid hTd; clear hTd
          clear hm
          generalize ms[k] = m at *
          obtain ⟨mi, mse, mst⟩ := m
          simp only at m0 m1 m2 p0 p1 p2
          have P0 := Lib.hid p0; clear p0
          have P1 := Lib.hid p1; clear p1
          have P2 := Lib.hid p2; clear p2
          go_wp2
          go_region_held3 (fun w' => w'.cell? ⟨wr.heap.size, 0, none⟩ = some (.int .i64 mi) ∧ w'.cell? ⟨wr.heap.size, 1, none⟩ = some (.int .i64 mse) ∧ w'.cell? ⟨wr.heap.size, 2, none⟩ = some (.int .i64 mst))
            (go_keep)
            (first
              | (go_at_call 81; have _g := hown2; refine (pack_Put sv2 _ mst 1 _ (Src.of_app (.inl hown2)) (by have := HLn.out; rw [List.length_append, List.length_append, beBytes_length, beBytes_length]; omega) P2.out).mono ?_; rintro e w5 ⟨sv3, rfl, hown3, hk5⟩; have q5 := hk5.q)
              | (go_at_call 81; have _g := hown1; refine (pack_Put sv1 _ mse 2 _ (Src.of_app (.inl hown1)) (by have := HLn.out; rw [List.length_append, beBytes_length]; omega) P1.out).mono ?_; rintro e w4 ⟨sv2, rfl, hown2, hk4⟩; have q4 := hk4.q; have s4 : wr.heap.size < w4.heap.size := (by have := hk4.size; omega))
              | (go_at_call 81; with_reducible refine (pack_Put u4 _ mi 1 _ ((Src.of_app HB.out).kept (((Kept.refl _).alloc _).drew)) (by have := HLn.out; omega) P0.out).mono ?_; rintro e w3 ⟨sv1, rfl, hown1, hk3⟩; have q3 := hk3.q; have s3 : wr.heap.size < w3.heap.size := (by have := hk3.size; simp at this; omega)))
          go_wp2
          go_roundw
          case rel =>
            have k3 := ((Kept.refl wr).alloc _).drew.trans hk3 |>.trans hk4 |>.trans hk5
            refine ⟨k + 1, by omega, by go_num, ?_, hbel2.trans k3⟩
            have e : [66, 87] ++ (fldBytes (Lab.flds ⟨array, gen, member, blocks, ms⟩) ++ memBytes (ms.take (k + 1))) = T ++ beBytes mi (Int.toNat 1) ++ beBytes mse (Int.toNat 2) ++ beBytes mst (Int.toNat 1) := by
              rw [HT.out, ← HTd.out]; simp [Mem.bytes]
            rw [e]
            exact .inl (ownsRow_base hown3 (by have := hkw2.size; have := hk4.size; omega))
          case measure => simp [intOf]; omega
        · have e1 : ms.take k = ms := by rw [List.take_of_length_le]; omega
          rw [e1] at HB
          clear e1
          have hz5 := Lib.hid ((hbel.trans hbel2).block hz2.out)
          obtain ⟨hl4, ax, c4, rfl, hc4, hno4, hcl4⟩ := Src.of_app HB.out
          have HL4 := Lib.hid hl4; clear hl4
          have HNo := Lib.hid hno4; clear hno4
          have HCl := Lib.hid hcl4; clear hcl4
          have hcc := Lib.hid hc4; clear hc4
          have HTx : Hid (([66, 87] ++ (fldBytes (Lab.flds ⟨array, gen, member, blocks, ms⟩) ++ memBytes ms) : List Int) = (Lab.mk array gen member blocks ms).text) := show _ = _ from rfl
          rw [HTx.out] at HL4 HNo HCl hcc HB
          have hTl := Lib.hid (Lab.text_length (Lab.mk array gen member blocks ms))
          rw [HTx.out]
          clear HTx
          have hsp : Hid (splice (u8s zeroB) 0 (u8s (Lab.mk array gen member blocks ms).text) = u8s (Lab.mk array gen member blocks ms).sec) := splice_u8s _ (by rw [hTl.out]; have : ms.length ≤ 12 := hN; simp only; omega)
          have hsl : Hid ((Lab.mk array gen member blocks ms).sec.length = 64) := Lab.sec_length _ hN
          generalize hse : (Lab.mk array gen member blocks ms).sec = sec at *
          have HSe := Lib.hid hse; clear hse
          generalize (Lab.mk array gen member blocks ms).text = tx at *
          have htx : tx.length ≤ 62 := by rw [hTl.out]; have : ms.length ≤ 12 := hN; simp only; omega
          have htx0 : 0 < tx.length := by rw [hTl.out]; omega
          have hcs : (u8s tx).length = Nat.min tx.length 64 := by rw [u8s_length]; exact (Nat.min_eq_left (by omega)).symm
          have HCs := Lib.hid hcs; clear hcs
          have hpos : ∃ ad, ax = some ad ∧ ∀ j v, (u8s tx)[j]? = some v → wr.cell? (ad.add j) = some v := by
            cases ax with
            | none => have := (HNo.out rfl).1; omega
            | some ad => exact ⟨ad, rfl, HCl.out ad rfl⟩
          have HPs := Lib.hid hpos; clear hpos
          go_wp2_with (first | (refine wpList_copy_splice rfl (.tmp 62) (.tmp 63) 120 120 (by rfl) 5 Try.underlying120 (by kernel_rfl) (some ⟨w.heap.size + 1, 0, none⟩) ax 64 64 tx.length c4 (by rfl) (by rfl) (w.heap.size + 1) 0 (u8s zeroB) 36 hz5.out (u8s tx) HCs.out (fun _ => ⟨rfl, HPs.out⟩) (by rw [u8s_length, u8s_length, zeroB_length]; omega) (u8s_one _) w.heap.size w hkw2 (by omega) ?_; intro w6 hz6 hk6; rw [hsp.out] at hz6; have hk6' : Kept w w6 := hk6) | (refine wpList_load_agg rfl _ rfl ty_sec (w.heap.size + 1) 0 rfl (u8s sec) (by simpa using Cells.of_block hz6.out) (by rw [u8s_length, hsl.out]) ?_) | (refine wpList_store_agg rfl _ _ rfl ty_sec (w.heap.size + 1) 0 rfl (u8s sec) rfl (by rw [u8s_length, hsl.out]) (u8s_one _) (u8s sec) 36 hz6.out (by rw [u8s_length, hsl.out]; omega) ?_; intro w7 hw7))
          replace hw7 := hw7.all rfl
          have hkw : Kept w w7 := hw7.kept hk6' (by omega)
          refine bodyPost_ret (results_sec rfl _ _ (w.heap.size + 1) sec rfl hw7.cells hsl.out) rfl ⟨by rw [HSe.out]; rfl, hkw⟩

end Go.Proofs.Ytcbghpcohbgcjaa
