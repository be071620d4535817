/- The document's Put of a label. -/
import Derived.Test.YtpnpconphpbcaaaRfc
import Derived.Test.YtpnpconphpbcaaaLabP
import Derived.Lib.LazyBuf
namespace Go.Proofs.Ytpnpconphpbcaaa
open Go.RowKit
set_option linter.unusedVariables false
set_option linter.unusedSimpArgs false

section
variable {P : Program} {o : Oper} {a : Act} {w : World} {K : Act → World → Prop} {Q : Exit → Act → World → Prop}
theorem run_load_agg {T n : Nat} (x : Operand) (ho : o.op = .load T x) (hT : AggT P T n)
    (b off : Nat) (hx : a.eval x = .pointer (some ⟨b, off, none⟩)) (xs : List Value) (hc : Cells w b off xs) (hl : xs.length = n) :
    (execOp a.eval o).run P w = .ok (.value (.agg xs.toArray)) w := by
  obtain ⟨⟨d, hd1, hd2⟩, hs⟩ := hT
  unfold execOp
  simp only [ho, hx, Instr.loadAt, Instr.sureAddr, Sem.run_bind, Sem.run_pure, Result.andThen_ok, run_loadVar_mid w b off T xs d (rangeAt_of_cells hc) hd1 hd2 (by rw [hs, hl])]
theorem strA_cells (l : List Int) (hb : ∀ x ∈ l, IsByte x) : ((strA l).data.toList.map fun x => Value.int .u8 (x.toNat : Int)) = u8s l := by
  simp only [strA, List.map_map, u8s]
  apply List.map_congr_left
  intro x hx
  obtain ⟨h0, h1⟩ := hb x hx
  simp only [Function.comp, UInt8.toNat_ofNat']
  congr 1; omega
/-- copy of a string into a row of bytes; the world a letter -/
theorem wp_copy_str {d s : Operand} {dT sT : TypeId} (hgd : o.guard = none)
    (ho : o.op = .call { callee := .builtin .copy, args := #[d, s], argTypes := #[dT, sT] }) {elem : TypeId} (hu : P.underlying dT = some (.slice elem)) (hz : ∀ w, (Go.sizeOf elem).run P w = .ok 1 w)
    (g dLen dCap : Nat) (hd : a.eval d = .slice (some ⟨g, 0, none⟩) dLen dCap) (t : List Int) (hb : ∀ x ∈ t, IsByte x) (hs : a.eval s = .string (strA t)) (hle : t.length ≤ dLen)
    (cur : List Value) {ty : TypeId} (hg : w.heap[g]? = some (.cells cur.toArray ty (0, 0))) (hfit : t.length ≤ cur.length)
    (h : ∀ w', Wrote w w' g (splice cur 0 (u8s t)) ty → K (a.put o.dst (goInt t.length)) w') : Oper.wp P o a w K Q := by
  have hmin : Nat.min t.length dLen = t.length := Nat.min_eq_left hle
  have hst := run_storeCells_at P g 0 ty (u8s t) 0 cur.toArray w hg (by simpa [u8s_length] using hfit) (u8s_one t)
  have hsz : (strA t).size = t.length := strA_size t
  have hcl := strA_cells t hb
  have hrun : (Builtin.copy_ #[dT, sT] o.type #[.slice (some ⟨g, 0, none⟩) dLen dCap, .string (strA t)]).run P w = .ok (goInt t.length) (w.setRow g (cur.take 0 ++ (u8s t ++ cur.drop (0 + (u8s t).length))).toArray) := by
    simp [Builtin.copy_, run_underlying hu, Builtin.lenOf, Builtin.firstCells, hz, hsz, hmin]
    rw [hcl, List.take_of_length_le (by rw [u8s_length]; exact Nat.le_refl _), hst]
    simp [Result.andThen]
  unfold Oper.wp
  simp [execOp, ho, resolve, invoke, builtin, hd, hs, hrun, Result.andThen]
  refine h _ ⟨?_, fun k hk => setRow_other w g k _ hk, by simp [World.setRow], rfl, rfl, rfl⟩
  simpa [splice] using setRow_heap w g _ _ ty _ hg
end
theorem text_bytes (l : Lab) : ∀ x ∈ l.text, IsByte x := fun x hx => sec_bytes l x (by simp [Lab.sec, hx])
theorem sz_u8 : ∀ w, (Go.sizeOf 5).run Try.prog w = .ok 1 w := fun w => by
  obtain ⟨i, h1, _, h3, _⟩ := info_parts (P := Try.prog) (e := 5) (z := .int .u8 0) (size := 1) (bytes := 1) (by kernel_rfl)
  simp [sizeOf, typeInfo, h1, h3]
def putSec (l : Lab) : List Int := if rightB l then l.sec else zeroB
def putErr (l : Lab) : Int := if rightB l then 0 else 1

set_option maxHeartbeats 1000000 in
set_option maxRecDepth 100000 in
theorem ref_LPut_no (l : Lab) (sl : Value) (w : World) (hlen : l.ms.length ≤ 9223372036854775807) (hm : MSl w sl l.ms) (hr : rightB l = false) :
    Calls Try.prog 13 #[l.val sl] w fun e w' => e = .returned (.tuple #[secV zeroB, .int .i64 1]) ∧ Kept w w' := by
  have hB : ∀ o, Kept w (w.alloc o) := fun o => (Kept.refl _).alloc o
  have hR := fun (W : World) (hk : Kept w W) => (ref_Right l sl W hlen (hm.kept hk))
  simp only [hr] at hR
  have HR := Lib.hid hR; clear hR
  clear hr hm
  obtain ⟨array, gen, member, blocks, ms⟩ := l
  simp only [Lab.val] at HR ⊢
  go_enter Try.func13, Try.ntmps13
  go_wp2_with (refine stop_at (o := ⟨some 2, _, _, _, _, _⟩) ?_)
  refine Stop.mk ?_
  refine wpList_alloc_abs rfl 26 rfl (u8s zeroB) zero_sec ?_
  intro w1 hz1 hs1 hn1 hk1
  have hk1' := (hB _).trans hk1
  have HB := Lib.hid ((Cells.of_block (heap_alloc_new w (Obj.cells #[.int .i64 array, .int .i64 gen, .int .i64 member, .int .i64 blocks, sl] 24))).kept hk1)
  rw [World.size_alloc] at hz1 hs1
  go_wp2_with (refine stop_at (o := ⟨some 4, _, _, _, _, _⟩) ?_)
  refine Stop.mk ?_
  refine wpList_alloc_abs rfl 26 rfl (u8s zeroB) zero_sec ?_
  intro w2 hz2 hs2 hn2 hk2
  go_wp2_with (refine stop_at (o := ⟨some 6, _, _, _, _, _⟩) ?_)
  refine Stop.mk ?_
  refine wpList_load_agg rfl _ rfl ty_lab w.heap.size 0 rfl [.int .i64 array, .int .i64 gen, .int .i64 member, .int .i64 blocks, sl] (HB.out.kept hk2) rfl ?_
  go_wp2_with fail
  refine (HR.out _ (hk1'.trans hk2)).mono ?_
  rintro e w3 ⟨rfl, hk3⟩
  go_wp2_with (refine stop_at (o := ⟨some 10, _, _, _, _, _⟩) ?_)
  refine Stop.mk ?_
  refine wpList_load_agg rfl _ rfl ty_sec w1.heap.size 0 rfl (u8s zeroB) (Cells.of_block (hk3.block hz2.out)) (by simp [u8s_length, zeroB_length]) ?_
  go_wp2_with (refine stop_at (o := ⟨none, .store _ _ _, _, _, _, _⟩) ?_)
  refine Stop.mk ?_
  refine wpList_store_agg rfl _ _ rfl ty_sec (w.heap.size + 1) 0 (by rfl) (u8s zeroB) rfl (by simp [u8s_length, zeroB_length]) (u8s_one _) (u8s zeroB) 26 ((hk2.trans hk3).block hz1.out) (by simp [u8s_length, zeroB_length]) ?_
  intro w4 hw4
  replace hw4 := hw4.all rfl
  have hkw : Kept w w4 := hw4.kept (hk1'.trans (hk2.trans hk3)) (by omega)
  go_wp2_with fail
  refine bodyPost_ret (results_sec rfl _ _ (w.heap.size + 1) zeroB rfl hw4.cells zeroB_length) rfl ⟨rfl, hkw⟩

set_option maxHeartbeats 1000000 in
set_option maxRecDepth 100000 in
theorem ref_LPut_ok (l : Lab) (sl : Value) (w : World) (hm : MSl w sl l.ms) (hr : rightB l = true) :
    Calls Try.prog 13 #[l.val sl] w fun e w' => e = .returned (.tuple #[secV l.sec, .int .i64 0]) ∧ Kept w w' := by
  have hB : ∀ o, Kept w (w.alloc o) := fun o => (Kept.refl _).alloc o
  have hN : l.ms.length ≤ 12 := by
    simp only [rightB, headB, inB, Bool.and_eq_true, decide_eq_true_eq] at hr
    omega
  have hR := fun (W : World) (hk : Kept w W) => (ref_Right l sl W (by omega) (hm.kept hk))
  simp only [hr] at hR
  have HR := Lib.hid hR; clear hR
  have HT := Lib.hid fun (W : World) (hk : Kept w W) => ref_text l sl W (hm.kept hk) hr
  have HTB := Lib.hid (text_bytes l)
  have HTL := Lib.hid l.text_length
  have hsp : Hid (splice (u8s zeroB) 0 (u8s l.text) = u8s l.sec) := Lib.hid (splice_u8s _ (by rw [Lab.text_length]; omega))
  have hsl : Hid (l.sec.length = 64) := Lib.hid (Lab.sec_length _ hN)
  have HTle : Hid (l.text.length ≤ 64) := Lib.hid (by rw [Lab.text_length]; omega)
  clear hr hm
  generalize l.text = tx at *
  generalize l.sec = sec at *
  obtain ⟨array, gen, member, blocks, ms⟩ := l
  simp only [Lab.val] at HR HT ⊢
  clear HTL hN
  go_enter Try.func13, Try.ntmps13
  go_wp2_with (refine stop_at (o := ⟨some 2, _, _, _, _, _⟩) ?_)
  refine Stop.mk ?_
  refine wpList_alloc_abs rfl 26 rfl (u8s zeroB) zero_sec ?_
  intro w1 hz1 hs1 hn1 hk1
  have hk1' := (hB _).trans hk1
  have HB := Lib.hid ((Cells.of_block (heap_alloc_new w (Obj.cells #[.int .i64 array, .int .i64 gen, .int .i64 member, .int .i64 blocks, sl] 24))).kept hk1)
  rw [World.size_alloc] at hz1 hs1
  go_wp2_with (refine stop_at (o := ⟨some 4, _, _, _, _, _⟩) ?_)
  refine Stop.mk ?_
  refine wpList_alloc_abs rfl 26 rfl (u8s zeroB) zero_sec ?_
  intro w2 hz2 hs2 hn2 hk2
  go_wp2_with (refine stop_at (o := ⟨some 6, _, _, _, _, _⟩) ?_)
  refine Stop.mk ?_
  refine wpList_load_agg rfl _ rfl ty_lab w.heap.size 0 rfl [.int .i64 array, .int .i64 gen, .int .i64 member, .int .i64 blocks, sl] (HB.out.kept hk2) rfl ?_
  go_wp2_with fail
  refine (HR.out _ (hk1'.trans hk2)).mono ?_
  rintro e w3 ⟨rfl, hk3⟩
  go_upto_region 5 with fail
  have K3 : Kept w1 w3.drew := (hk2.trans hk3).drew
  have hS := HB.out.kept K3
  have hsz1 := hk1'.size
  have hsz2 := hk2.size
  refine wp_region_calm ?_
  refine wp_region_E (fun W => Cells W w.heap.size 0 [.int .i64 array, .int .i64 gen, .int .i64 member, .int .i64 blocks, sl]) 100 (by kernel_rfl) ?_
  refine wpAnyE_take (i := 0) (v := ?_) (listed' := #[true, false, false, false]) (by rfl) (by kernel_rfl) (by kernel_rfl) calm_put hS (by rfl) ?_ ?_
  rotate_left
  · intro W hW; clear hW; go_simp; try (with_reducible rfl)
  simp only [Act.put, List.getElem_toArray, List.getElem_cons_succ, List.getElem_cons_zero, List.setIfInBounds_toArray, List.set_cons_zero, List.set_cons_succ]
  refine wpAnyE_take (i := 1) (v := .agg #[.int .i64 array, .int .i64 gen, .int .i64 member, .int .i64 blocks, sl]) (listed' := #[true, true, false, false]) (by rfl) (by kernel_rfl) (by kernel_rfl) calm_put hS (by rfl) ?_ ?_
  · intro W hW; skip; exact run_load_agg (.tmp 1) rfl ty_lab w.heap.size 0 rfl _ hW rfl
  simp only [Act.put, List.getElem_toArray, List.getElem_cons_succ, List.getElem_cons_zero, List.setIfInBounds_toArray, List.set_cons_zero, List.set_cons_succ]
  refine wpAnyE_one (i := 2) (listed' := #[true, true, true, false]) (by rfl) (by kernel_rfl) (by kernel_rfl) (by rfl) (fun K hK => ?_)
  simp only [Act.put, List.getElem_toArray, List.getElem_cons_succ, List.getElem_cons_zero, List.setIfInBounds_toArray, List.set_cons_zero, List.set_cons_succ]
  go_wp2_with fail
  refine Calls.mono (HT.out _ (hk1'.trans K3)) ?_
  rintro e w4 ⟨rfl, hk4⟩
  replace K3 := K3.trans hk4
  have hS := HB.out.kept K3
  refine hK _ _ (fun _ => hS) ?_; clear hK K
  refine wpAnyE_one (i := 3) (listed' := #[true, true, true, true]) (by rfl) (by kernel_rfl) (by kernel_rfl) (by rfl) (fun K hK => ?_)
  simp only [Act.put, List.getElem_toArray, List.getElem_cons_succ, List.getElem_cons_zero, List.setIfInBounds_toArray, List.set_cons_zero, List.set_cons_succ]
  refine wp_copy_str rfl rfl Try.underlying63 sz_u8 w1.heap.size 64 64 rfl tx HTB.out rfl HTle.out (u8s zeroB) (ty := 26) ((hk3.drew.trans hk4).block hz2.out) (by rw [u8s_length, zeroB_length]; exact HTle.out) ?_
  intro w5 hw5
  rw [hsp.out] at hw5
  have hS := (hw5.kept K3 (by omega)) |> HB.out.kept
  refine hK _ _ (fun _ => hS) ?_; clear hK K
  refine wpAnyE_done (by kernel_rfl) ?_ _
  refine calm_normal ?_
  go_wp2_with (refine stop_at (o := ⟨some 15, _, _, _, _, _⟩) ?_)
  refine Stop.mk ?_
  refine wpList_load_agg rfl _ rfl ty_sec w1.heap.size 0 rfl (u8s sec) hw5.cells (by rw [u8s_length, hsl.out]) ?_
  go_wp2_with (refine stop_at (o := ⟨none, .store _ _ _, _, _, _, _⟩) ?_)
  refine Stop.mk ?_
  refine wpList_store_agg rfl _ _ rfl ty_sec (w.heap.size + 1) 0 (by rfl) (u8s sec) rfl (by rw [u8s_length, hsl.out]) (u8s_one _) (u8s zeroB) 26 ((hw5.oth (w.heap.size + 1) (by omega)).trans (K3.block hz1.out)) (by simp [u8s_length, zeroB_length]) ?_
  intro w6 hw6
  replace hw6 := hw6.all (by rw [u8s_length, hsl.out, u8s_length, zeroB_length])
  have hkw : Kept w w6 := hw6.kept (hw5.kept (hk1'.trans K3) (by omega)) (by omega)
  go_wp2_with fail
  refine bodyPost_ret (results_sec rfl _ _ (w.heap.size + 1) sec rfl hw6.cells hsl.out) rfl ⟨rfl, hkw⟩
theorem ref_LPut (l : Lab) (sl : Value) (w : World) (hlen : l.ms.length ≤ 9223372036854775807) (hm : MSl w sl l.ms) :
    Calls Try.prog 13 #[l.val sl] w fun e w' => e = .returned (.tuple #[secV (putSec l), .int .i64 (putErr l)]) ∧ Kept w w' := by
  by_cases hr : rightB l = true
  · simpa [putSec, putErr, hr] using ref_LPut_ok l sl w hm hr
  · simpa [putSec, putErr, hr] using ref_LPut_no l sl w hlen hm (by simpa using hr)
theorem label_Put (l : Lab) (sl : Value) (w : World) (hlen : l.ms.length ≤ 9223372036854775807) (hm : MSl w sl l.ms) :
    Calls Try.prog 12 #[l.val sl] w fun e w' => e = .returned (.tuple #[secV (putSec l), .int .i64 (putErr l)]) ∧ Kept w w' := by
  by_cases hr : rightB l = true
  · simpa [putSec, putErr, hr] using label_Put_ok l sl w hm hr
  · simpa [putSec, putErr, hr] using label_Put_no l sl w hlen hm (by simpa using hr)
end Go.Proofs.Ytpnpconphpbcaaa
