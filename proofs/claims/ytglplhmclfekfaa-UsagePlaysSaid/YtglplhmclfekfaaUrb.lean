/- The document's table (ref14) in memory; New, Slots, Block, in, Find. -/
import Derived.Test.YtglplhmclfekfaaUra
import Derived.Test.YtglplhmclfekfaaGro
namespace Go.Proofs.Ytglplhmclfekfaa
open Go.RowKit
set_option linter.unusedVariables false
set_option linter.unusedSimpArgs false

theorem flatC_at {α : Type} (f : α → List Value) {m : Nat} (hf : ∀ x, (f x).length = m) {r : Nat} (hr : r < m) : ∀ (l : List α) (k : Nat) (hk : k < l.length), (l.flatMap f)[k * m + r]? = (f l[k])[r]?
  | x :: l, 0, _ => by
    rw [List.flatMap_cons, Nat.zero_mul, Nat.zero_add, List.getElem?_append_left (by rw [hf]; exact hr)]; rfl
  | x :: l, k + 1, hk => by
    have h1 : (k + 1) * m + r - m = k * m + r := by rw [Nat.succ_mul]; omega
    rw [List.flatMap_cons, List.getElem?_append_right (by rw [hf, Nat.succ_mul]; omega), hf, h1]
    exact flatC_at f hf hr l k (by simpa using hk)
def gV (G : UG) : List Value := G.flatMap fun p => [.int .i64 p.1, .int .i64 p.2]
def lV (L : UL) : List Value := L.flatMap fun x => [.int .i64 x.1, .int .i64 x.2.1, .int .i64 x.2.2]
/-- what its blocks hold: vg, vl its two slices -/
structure UD (W : World) (q : Nat) (G : UG) (L : UL) (vg vl : Value) : Prop where
  top : W.heap[q]? = some (.cells #[vg, vl] 125 (0, 0))
  gr : W.ownsRow 0 172 2 vg G.length (gV G)
  lr : W.ownsRow 0 175 3 vl L.length (lV L)
/-- its blocks -/
def InU (q : Nat) (vg vl : Value) (b : Nat) : Prop := b = q ∨ vg.ownBlock = some b ∨ vl.ownBlock = some b
/-- slots of a group: how many -/
def szI (T : Tab) (n : Int) : Int := match T.sz n with | some z => z | none => 0
def blkI (T : Tab) (n s : Int) : Int × Bool := if 0 ≤ s then match T.slot n s.toNat with | some b => if b = -1 then (0, false) else (b, true) | none => (0, false) else (0, false)
def inI (T : Tab) (n s : Int) : Int := match T.sz n with | none => 8 | some z => if s < 0 ∨ (z : Int) ≤ s then 3 else 0
/-- its length is at most c, and it says T -/
structure UX (W : World) (q : Nat) (G : UG) (L : UL) (T : Tab) (c : Nat) (vg vl : Value) : Prop where
  ud : UD W q G L vg vl
  ur : UR G L T
  ok : T.Ok
  gl : G.length ≤ c
  ll : L.length ≤ c
section
variable {w w' W W' : World} {q c : Nat} {G : UG} {L : UL} {T : Tab} {vg vl : Value}
theorem UD.lt (h : UD W q G L vg vl) {b : Nat} (hb : InU q vg vl b) : b < W.heap.size := by
  rcases hb with rfl | hb | hb
  · exact (Array.getElem?_eq_some_iff.1 h.top).1
  · exact own_lt h.gr hb
  · exact own_lt h.lr hb
theorem UD.same (h : UD W q G L vg vl) (hs : ∀ b, InU q vg vl b → W'.heap[b]? = W.heap[b]?) : UD W' q G L vg vl :=
  ⟨(hs _ (.inl rfl)).trans h.top, own_same h.gr fun g hg => hs g (.inr (.inl hg)), own_same h.lr fun g hg => hs g (.inr (.inr hg))⟩
theorem UD.kept (h : UD W q G L vg vl) (hk : Kept W W') : UD W' q G L vg vl := h.same fun b hb => hk.block_eq (h.lt hb)
theorem UX.kept (h : UX W q G L T c vg vl) (hk : Kept W W') : UX W' q G L T c vg vl := ⟨h.ud.kept hk, h.ur, h.ok, h.gl, h.ll⟩
theorem UX.same (h : UX W q G L T c vg vl) (hs : ∀ b, InU q vg vl b → W'.heap[b]? = W.heap[b]?) : UX W' q G L T c vg vl := ⟨h.ud.same hs, h.ur, h.ok, h.gl, h.ll⟩
theorem UD.c0 (h : UD W q G L vg vl) : W.cell? ⟨q, 0, none⟩ = some vg := by
  rw [cell_of_row _ _ 0 _ _ _ (show W.heap[q]? = some (.cells [vg, vl].toArray 125 (0, 0)) from h.top)]; rfl
theorem UD.c1 (h : UD W q G L vg vl) : W.cell? ⟨q, 1, none⟩ = some vl := by
  rw [cell_of_row _ _ 1 _ _ _ (show W.heap[q]? = some (.cells [vg, vl].toArray 125 (0, 0)) from h.top)]; rfl
theorem UD.formG (h : UD W q G L vg vl) : ∃ ao cap, vg = .slice ao G.length cap := own_form h.gr
theorem UD.formL (h : UD W q G L vg vl) : ∃ ao cap, vl = .slice ao L.length cap := own_form h.lr
theorem UD.atG (h : UD W q G L vg vl) {k : Nat} (hk : k < G.length) : ∃ g cap, vg = .slice (some ⟨g, 0, none⟩) G.length cap ∧ W.cell? ⟨g, k * 2, none⟩ = some (.int .i64 G[k].1) ∧ W.cell? ⟨g, k * 2 + 1, none⟩ = some (.int .i64 G[k].2) := by
  obtain ⟨g, cap, hv, _, _, hc⟩ := own_cell h.gr (by omega)
  exact ⟨g, cap, hv, hc _ _ (by have := flatC_at (fun p : Int × Int => [Value.int .i64 p.1, .int .i64 p.2]) (m := 2) (fun _ => rfl) (r := 0) (by decide) G k hk; simpa [gV] using this),
    hc _ _ (by have := flatC_at (fun p : Int × Int => [Value.int .i64 p.1, .int .i64 p.2]) (m := 2) (fun _ => rfl) (r := 1) (by decide) G k hk; simpa [gV] using this)⟩
theorem UD.atL (h : UD W q G L vg vl) {k : Nat} (hk : k < L.length) : ∃ g cap, vl = .slice (some ⟨g, 0, none⟩) L.length cap ∧ W.cell? ⟨g, k * 3, none⟩ = some (.int .i64 L[k].1) ∧ W.cell? ⟨g, k * 3 + 1, none⟩ = some (.int .i64 L[k].2.1) ∧ W.cell? ⟨g, k * 3 + 2, none⟩ = some (.int .i64 L[k].2.2) := by
  obtain ⟨g, cap, hv, _, _, hc⟩ := own_cell h.lr (by omega)
  have hf : ∀ r, r < 3 → (lV L)[k * 3 + r]? = ([Value.int .i64 L[k].1, .int .i64 L[k].2.1, .int .i64 L[k].2.2])[r]? := fun r hr => flatC_at (fun x : Int × Int × Int => [Value.int .i64 x.1, .int .i64 x.2.1, .int .i64 x.2.2]) (m := 3) (fun _ => rfl) hr L k hk
  exact ⟨g, cap, hv, hc _ _ (by simpa using hf 0 (by decide)), hc _ _ (by simpa using hf 1 (by decide)), hc _ _ (by simpa using hf 2 (by decide))⟩
theorem UR.size_hit (h : UR G L T) {n : Int} {k : Nat} (hk : k < G.length) (he : G[k].1 = n) : G[k].2 = szI T n := by
  have hm : (n, G[k].2) ∈ G := by rw [← he]; exact List.getElem_mem hk
  obtain ⟨z, hz, e⟩ := (h.grp _ _).1 hm
  unfold szI; rw [hz, e]
theorem UR.size_miss (h : UR G L T) {n : Int} (hn : ∀ j (hj : j < G.length), G[j].1 ≠ n) : T.sz n = none := by
  cases hz : T.sz n with
  | none => rfl
  | some z =>
    have hm := (h.grp n z).2 ⟨z, hz, rfl⟩
    obtain ⟨j, hj, e⟩ := List.getElem_of_mem hm
    exact absurd (by rw [e]) (hn j hj)
theorem UR.blk_hit (h : UR G L T) {n s : Int} {k : Nat} (hk : k < L.length) (h1 : L[k].1 = n) (h2 : L[k].2.1 = s) : blkI T n s = (L[k].2.2, true) := by
  have hm : (n, s, L[k].2.2) ∈ L := by rw [← h1, ← h2]; exact List.getElem_mem hk
  obtain ⟨h0, hs, hb⟩ := (h.live _ _ _).1 hm
  unfold blkI; rw [if_pos h0, hs]; simp [hb]
theorem UR.blk_miss (h : UR G L T) {n s : Int} (hn : ∀ j (hj : j < L.length), ¬ (L[j].1 = n ∧ L[j].2.1 = s)) : blkI T n s = (0, false) := by
  unfold blkI
  split
  · rename_i h0
    split
    · rename_i b hs
      split
      · rfl
      · rename_i hb
        have hm := (h.live n s b).2 ⟨h0, hs, hb⟩
        obtain ⟨j, hj, e⟩ := List.getElem_of_mem hm
        exact absurd ⟨by rw [e], by rw [e]⟩ (hn j hj)
    · rfl
  · rfl
theorem UR.find_hit (h : UR G L T) (ok : T.Ok) {b : Int} {k : Nat} (hk : k < L.length) (h1 : L[k].2.2 = b) : T.f b = some (L[k].1, L[k].2.1) := by
  have hm : (L[k].1, L[k].2.1, b) ∈ L := by rw [← h1]; exact List.getElem_mem hk
  obtain ⟨h0, hs, hb⟩ := (h.live _ _ _).1 hm
  rw [ok.of _ _ _ hs hb, Int.toNat_of_nonneg h0]
theorem UR.find_miss (h : UR G L T) (ok : T.Ok) {b : Int} (hn : ∀ j (hj : j < L.length), L[j].2.2 ≠ b) : T.f b = none := by
  cases hf : T.f b with
  | none => rfl
  | some x =>
    obtain ⟨n, s⟩ := x
    obtain ⟨h0, i, rfl, hs⟩ := ok.at_ _ _ _ hf
    have hm := (h.live n i b).2 ⟨by omega, by simpa using hs, by omega⟩
    obtain ⟨j, hj, e⟩ := List.getElem_of_mem hm
    exact absurd (by rw [e]) (hn j hj)
theorem szI_none {n : Int} (h : T.sz n = none) : szI T n = 0 := by unfold szI; rw [h]
set_option maxHeartbeats 1000000
set_option maxRecDepth 100000
theorem ur_Slots (h : UX w q G L T c vg vl) (hc : c ≤ 100000) (n : Int) : Calls Try.prog 85 #[.pointer (some ⟨q, 0, none⟩), .int .i64 n] w fun e w' => e = .returned (.int .i64 (szI T n)) ∧ w = w' := by
  have c0 := h.ud.c0
  obtain ⟨ao, cap, hv⟩ := h.ud.formG
  have HV := Lib.hid hv
  rw [hv] at c0
  have hgl := h.gl
  have H := Lib.hid h
  clear h hv
  go_enter Try.func85, Try.ntmps85
  go_wp2
  go_loopw [5] (fun i wr => ∃ k : Nat, k ≤ G.length ∧ i = .int .i64 k ∧ Hid (∀ j (hj : j < G.length), j < k → G[j].1 ≠ n) ∧ w = wr) (fun i _ => G.length - (intOf i).toNat)
  case atStart => exact ⟨0, Nat.zero_le _, rfl, Lib.hid (fun j hj h => by omega), rfl⟩
  case round =>
    obtain ⟨k, hk, rfl, HN, rfl⟩ := hrel
    by_cases hlt : k < G.length
    · obtain ⟨g, cap', hv', c1, c2⟩ := H.out.ud.atG hlt
      rw [HV.out] at hv'
      injection hv' with ha _ hcap
      subst ha
      clear hcap
      by_cases hd : G[k].1 = n
      · have HE := Lib.hid (H.out.ur.size_hit hlt hd)
        rw [hd] at c1
        generalize G[k].2 = y at *
        clear hd
        go_wp2
        go_ret
        exact ⟨by rw [HE.out]; rfl, rfl⟩
      · have hb : (G[k].1 == n) = false := by simpa using hd
        have HN2 : Hid (∀ j (hj : j < G.length), j < k + 1 → G[j].1 ≠ n) := Lib.hid fun j hj hj2 => by
          by_cases e : j = k
          · subst e; exact hd
          · exact HN.out j hj (by omega)
        generalize G[k].1 = x at *
        clear hd HN c2
        go_wp2
        go_roundw
        case rel => exact ⟨k + 1, hlt, by go_num, HN2, trivial⟩
        case measure => simp [intOf]; omega
    · have HE := Lib.hid (szI_none (H.out.ur.size_miss (fun j hj => HN.out j hj (by omega))))
      have hkk : k = G.length := by omega
      clear HN
      go_wp2
      go_ret
      exact ⟨by rw [HE.out]; rfl, rfl⟩
theorem ur_Block (h : UX w q G L T c vg vl) (hc : c ≤ 100000) (n s : Int) : Calls Try.prog 87 #[.pointer (some ⟨q, 0, none⟩), .int .i64 n, .int .i64 s] w fun e w' => e = .returned (.tuple #[.int .i64 (blkI T n s).1, .bool (blkI T n s).2]) ∧ w = w' := by
  have c0 := h.ud.c1
  obtain ⟨ao, cap, hv⟩ := h.ud.formL
  have HV := Lib.hid hv
  rw [hv] at c0
  have hgl := h.ll
  have H := Lib.hid h
  clear h hv
  go_enter Try.func87, Try.ntmps87
  go_wp2
  go_loopw [8] (fun i wr => ∃ k : Nat, k ≤ L.length ∧ i = .int .i64 k ∧ Hid (∀ j (hj : j < L.length), j < k → ¬ (L[j].1 = n ∧ L[j].2.1 = s)) ∧ w = wr) (fun i _ => L.length - (intOf i).toNat)
  case atStart => exact ⟨0, Nat.zero_le _, rfl, Lib.hid (fun j hj h => by omega), rfl⟩
  case round =>
    obtain ⟨k, hk, rfl, HN, rfl⟩ := hrel
    by_cases hlt : k < L.length
    · obtain ⟨g, cap', hv', c1, c2, c3⟩ := H.out.ud.atL hlt
      rw [HV.out] at hv'
      injection hv' with ha _ hcap
      subst ha
      clear hcap
      by_cases hd : L[k].1 = n ∧ L[k].2.1 = s
      · have HE := Lib.hid (H.out.ur.blk_hit hlt hd.1 hd.2)
        rw [hd.1] at c1
        rw [hd.2] at c2
        generalize L[k].2.2 = y at *
        clear hd
        go_wp2
        go_ret2
        exact ⟨by rw [HE.out]; rfl, rfl⟩
      · have HN2 : Hid (∀ j (hj : j < L.length), j < k + 1 → ¬ (L[j].1 = n ∧ L[j].2.1 = s)) := Lib.hid fun j hj hj2 => by
          by_cases e : j = k
          · subst e; exact hd
          · exact HN.out j hj (by omega)
        generalize L[k].1 = x at *
        generalize L[k].2.1 = y at *
        clear HN c3
        by_cases hx : x = n
        · subst hx
          have hb : (y == s) = false := by simpa using hd
          clear hd
          go_wp2
          go_roundw
          case rel => exact ⟨k + 1, hlt, by go_num, HN2, trivial⟩
          case measure => simp [intOf]; omega
        · have hb : (x == n) = false := by simpa using hx
          clear hd hx
          go_wp2
          go_roundw
          case rel => exact ⟨k + 1, hlt, by go_num, HN2, trivial⟩
          case measure => simp [intOf]; omega
    · have HE := Lib.hid (H.out.ur.blk_miss (fun j hj => HN.out j hj (by omega)))
      have hkk : k = L.length := by omega
      clear HN
      go_wp2
      go_ret2
      exact ⟨by rw [HE.out]; rfl, rfl⟩
theorem ur_Find (h : UX w q G L T c vg vl) (hc : c ≤ 100000) (b : Int) : Calls Try.prog 86 #[.pointer (some ⟨q, 0, none⟩), .int .i64 b] w fun e w' => e = .returned (findV (T.f b)) ∧ Kept w w' := by
  have c0 := h.ud.c1
  obtain ⟨ao, cap, hv⟩ := h.ud.formL
  have HV := Lib.hid hv
  rw [hv] at c0
  have hgl := h.ll
  have H := Lib.hid h
  clear h hv
  go_enter Try.func86, Try.ntmps86
  go_wp2
  go_loopw [7] (fun i wr => ∃ k : Nat, k ≤ L.length ∧ i = .int .i64 k ∧ Hid (∀ j (hj : j < L.length), j < k → L[j].2.2 ≠ b) ∧ w = wr) (fun i _ => L.length - (intOf i).toNat)
  case atStart => exact ⟨0, Nat.zero_le _, rfl, Lib.hid (fun j hj h => by omega), rfl⟩
  case round =>
    obtain ⟨k, hk, rfl, HN, rfl⟩ := hrel
    by_cases hlt : k < L.length
    · obtain ⟨g, cap', hv', c1, c2, c3⟩ := H.out.ud.atL hlt
      rw [HV.out] at hv'
      injection hv' with ha _ hcap
      subst ha
      clear hcap
      by_cases hd : L[k].2.2 = b
      · have HE := Lib.hid (H.out.ur.find_hit H.out.ok hlt hd)
        rw [hd] at c3
        generalize L[k].1 = x at *
        generalize L[k].2.1 = y at *
        clear hd
        go_upto_region 5 with fail
        go_quiet (fail)
        go_wp2
        go_ret3
        exact ⟨by rw [HE.out]; rfl, (Kept.refl _).drewN _⟩
      · have hb : (L[k].2.2 == b) = false := by simpa using hd
        have HN2 : Hid (∀ j (hj : j < L.length), j < k + 1 → L[j].2.2 ≠ b) := Lib.hid fun j hj hj2 => by
          by_cases e : j = k
          · subst e; exact hd
          · exact HN.out j hj (by omega)
        generalize L[k].2.2 = x at *
        clear hd HN c1 c2
        go_wp2
        go_roundw
        case rel => exact ⟨k + 1, hlt, by go_num, HN2, trivial⟩
        case measure => simp [intOf]; omega
    · have HE := Lib.hid (H.out.ur.find_miss H.out.ok (fun j hj => HN.out j hj (by omega)))
      have hkk : k = L.length := by omega
      clear HN
      go_wp2
      go_ret3
      exact ⟨by rw [HE.out]; rfl, Kept.refl _⟩
theorem ur_in (h : UX w q G L T c vg vl) (hc : c ≤ 100000) (n s : Int) : Calls Try.prog 130 #[.pointer (some ⟨q, 0, none⟩), .int .i64 n, .int .i64 s] w fun e w' => e = .returned (.int .i64 (inI T n s)) ∧ w = w' := by
  have HS := Lib.hid (ur_Slots h hc n)
  have hok := h.ok
  cases hz : T.sz n with
  | none =>
    have HI : Hid (inI T n s = 8) := Lib.hid (by unfold inI; rw [hz])
    rw [szI_none hz] at HS
    clear h hok hz
    go_enter Try.func130, Try.ntmps130
    go_wp2_with fail
    refine Calls.mono HS.out ?_
    rintro e w1 ⟨rfl, rfl⟩
    go_wp2
    go_ret
    exact ⟨by rw [HI.out]; rfl, rfl⟩
  | some z =>
    have hzpos : 0 < z := by
      unfold Tab.sz at hz
      cases hg : T.g n with
      | none => rw [hg] at hz; cases hz
      | some l => rw [hg] at hz; injection hz with hz; rw [← hz]; exact (hok.len n l hg).1
    have e1 : szI T n = (z : Int) := by unfold szI; rw [hz]
    have HI : Hid (inI T n s = if s < 0 ∨ (z : Int) ≤ s then 3 else 0) := Lib.hid (by unfold inI; rw [hz])
    rw [e1] at HS
    clear h hok hz e1
    have hcase : s < 0 ∨ (0 ≤ s ∧ (z : Int) ≤ s) ∨ (0 ≤ s ∧ s < z) := by omega
    rcases hcase with h1 | ⟨h0, h1⟩ | ⟨h0, h1⟩
    · rw [if_pos (.inl h1)] at HI
      go_enter Try.func130, Try.ntmps130
      go_wp2_with fail
      refine Calls.mono HS.out ?_
      rintro e w1 ⟨rfl, rfl⟩
      go_wp2
      go_ret
      exact ⟨by rw [HI.out]; rfl, rfl⟩
    · rw [if_pos (.inr h1)] at HI
      go_enter Try.func130, Try.ntmps130
      go_wp2_with fail
      refine Calls.mono HS.out ?_
      rintro e w1 ⟨rfl, rfl⟩
      go_wp2
      go_ret
      exact ⟨by rw [HI.out]; rfl, rfl⟩
    · rw [if_neg (by omega)] at HI
      go_enter Try.func130, Try.ntmps130
      go_wp2_with fail
      refine Calls.mono HS.out ?_
      rintro e w1 ⟨rfl, rfl⟩
      go_wp2
      go_ret
      exact ⟨by rw [HI.out]; rfl, rfl⟩
theorem ur_New (w : World) : Calls Try.prog 22 #[] w fun e w' => e = .returned (.pointer (some ⟨w.heap.size, 0, none⟩)) ∧ UX w' w.heap.size [] [] Tab.empty 0 (.slice none 0 0) (.slice none 0 0) ∧ Kept w w' := by
  have hk := (Kept.refl w).alloc (Obj.cells #[.slice none 0 0, .slice none 0 0] 125)
  have hb := heap_alloc_new w (Obj.cells #[.slice none 0 0, .slice none 0 0] 125)
  have HK := Lib.hid hk
  have HX : Hid (UX (w.alloc (Obj.cells #[.slice none 0 0, .slice none 0 0] 125)) w.heap.size [] [] Tab.empty 0 (.slice none 0 0) (.slice none 0 0)) := Lib.hid ⟨⟨hb, ⟨rfl, .inl ⟨rfl, rfl⟩⟩, ⟨rfl, .inl ⟨rfl, rfl⟩⟩⟩, UR.nil, Tab.Ok.empty, Nat.le_refl _, Nat.le_refl _⟩
  clear hk hb
  go_enter Try.func22, Try.ntmps22
  go_wp2
  go_ret
  exact ⟨rfl, HX.out, HK.out⟩
end
end Go.Proofs.Ytglplhmclfekfaa
