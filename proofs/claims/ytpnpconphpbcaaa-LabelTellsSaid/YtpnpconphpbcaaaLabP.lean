/- The plain law: a right label's sector is read as that label. -/
import Derived.Test.YtpnpconphpbcaaaLabD
namespace Go.Proofs.Ytpnpconphpbcaaa
open Go.RowKit
set_option linter.unusedVariables false
set_option linter.unusedSimpArgs false

theorem beVal1 (v : Int) (h0 : 0 ≤ v) (h : v < 256) : beVal (beBytes v 1) = v := by simp [beVal, beBytes]; omega
theorem beVal2 (v : Int) (h0 : 0 ≤ v) (h : v < 65536) : beVal (beBytes v 2) = v := by simp [beVal, beBytes]; omega
theorem beVal4 (v : Int) (h0 : 0 ≤ v) (h : v < 4294967296) : beVal (beBytes v 4) = v := by simp [beVal, beBytes]; omega
theorem beBytes_byte (v : Int) (n : Nat) : ∀ x ∈ beBytes v n, IsByte x := by
  induction n with
  | zero => intro x hx; simp [beBytes] at hx
  | succ n ih =>
    intro x hx
    simp only [beBytes, List.mem_cons] at hx
    rcases hx with rfl | hx
    · simp only [IsByte]; omega
    · exact ih x hx
theorem getB_mid (bs pre mid post : List Int) (k n : Nat) (e : bs = pre ++ (mid ++ post)) (hk : pre.length = k) (hn : mid.length = n) : getB bs k n = beVal mid := by
  subst e hk hn
  simp [getB, List.drop_append, List.take_append]

def Lab.pre (l : Lab) : List Int := [66, 87] ++ fldBytes l.flds
theorem Lab.pre_length (l : Lab) : l.pre.length = 14 := by simp [Lab.pre, Lab.flds_len]
theorem Lab.sec_pre (l : Lab) : l.sec = l.pre ++ (memBytes l.ms ++ List.replicate (64 - l.text.length) 0) := by
  simp [Lab.sec, Lab.text, Lab.pre, List.append_assoc]
theorem memBytes_append (a b : List Mem) : memBytes (a ++ b) = memBytes a ++ memBytes b := by simp [memBytes]
theorem memBytes_at (ms : List Mem) (i : Nat) (h : i < ms.length) : memBytes ms = memBytes (ms.take i) ++ (ms[i].bytes ++ memBytes (ms.drop (i + 1))) := by
  have e : ms = ms.take i ++ (ms[i] :: ms.drop (i + 1)) := by
    rw [← List.drop_eq_getElem_cons h, List.take_append_drop]
  have e2 : memBytes (ms[i] :: ms.drop (i + 1)) = ms[i].bytes ++ memBytes (ms.drop (i + 1)) := by simp only [memBytes, List.flatMap_cons]
  rw [← e2, ← memBytes_append, ← e]
theorem sec_mem (l : Lab) (i : Nat) (h : i < l.ms.length) : ∃ post, l.sec = (l.pre ++ memBytes (l.ms.take i)) ++ (l.ms[i].bytes ++ post) := by
  rw [l.sec_pre, memBytes_at l.ms i h]
  exact ⟨memBytes (l.ms.drop (i + 1)) ++ List.replicate (64 - l.text.length) 0, by simp only [List.append_assoc]⟩
theorem sec_bytes (l : Lab) : ∀ x ∈ l.sec, IsByte x := by
  intro x hx
  simp only [Lab.sec, Lab.text, List.mem_append, List.mem_replicate] at hx
  rcases hx with (hx | hx | hx) | ⟨_, rfl⟩
  · simp at hx; rcases hx with rfl | rfl <;> simp [IsByte]
  · simp only [fldBytes, List.mem_flatMap] at hx
    obtain ⟨p, _, hx⟩ := hx
    exact beBytes_byte _ _ x hx
  · simp only [memBytes, List.mem_flatMap, Mem.bytes, List.mem_append] at hx
    obtain ⟨m, _, hx⟩ := hx
    rcases hx with hx | hx | hx <;> exact beBytes_byte _ _ x hx
  · simp [IsByte]

theorem parse_sec (l : Lab) (hr : rightB l = true) : parse l.sec = l := by
  have hf := l.fld hr
  have hm := l.mem hr
  have hn : l.ms.length ≤ 12 := by
    simp only [rightB, headB, inB, Bool.and_eq_true, decide_eq_true_eq] at hr; omega
  simp only [mayPut_iff, Lab.flds, List.mem_cons, List.not_mem_nil, or_false, forall_eq_or_imp, forall_eq] at hf
  simp only [mayPut_iff] at hm
  simp only [show (8 * 4 : Int).toNat = 32 from rfl, show (8 * 2 : Int).toNat = 16 from rfl, show (8 * 1 : Int).toNat = 8 from rfl, Int.reducePow] at hf hm
  obtain ⟨⟨_, _, a0, a1⟩, ⟨_, _, g0, g1⟩, ⟨_, _, m0, m1⟩, ⟨_, _, b0, b1⟩, _, _, l0, l1⟩ := hf
  obtain ⟨R, hS⟩ : ∃ R, l.sec = [66, 87] ++ (beBytes l.array 4 ++ (beBytes l.gen 4 ++ (beBytes l.member 1 ++ (beBytes l.blocks 2 ++ (beBytes l.ms.length 1 ++ R))))) :=
    ⟨memBytes l.ms ++ List.replicate (64 - l.text.length) 0, by
      rw [l.sec_pre, Lab.pre, fldBytes, Lab.flds]
      simp only [List.flatMap_cons, List.flatMap_nil, List.append_nil, List.append_assoc]
      rfl⟩
  have e1 : getB l.sec 2 4 = l.array := (getB_mid _ [66, 87] (beBytes l.array 4) _ 2 4 hS rfl (beBytes_length _ _)).trans (beVal4 _ a0 (by omega))
  have e2 : getB l.sec 6 4 = l.gen := (getB_mid _ ([66, 87] ++ beBytes l.array 4) (beBytes l.gen 4) _ 6 4 (by rw [hS]; simp only [List.append_assoc]; rfl) (by simp [beBytes_length]) (beBytes_length _ _)).trans (beVal4 _ g0 (by omega))
  have e3 : getB l.sec 10 1 = l.member := (getB_mid _ ([66, 87] ++ (beBytes l.array 4 ++ beBytes l.gen 4)) (beBytes l.member 1) _ 10 1 (by rw [hS]; simp only [List.append_assoc]; rfl) (by simp [beBytes_length]) (beBytes_length _ _)).trans (beVal1 _ m0 (by omega))
  have e4 : getB l.sec 11 2 = l.blocks := (getB_mid _ ([66, 87] ++ (beBytes l.array 4 ++ (beBytes l.gen 4 ++ beBytes l.member 1))) (beBytes l.blocks 2) _ 11 2 (by rw [hS]; simp only [List.append_assoc]; rfl) (by simp [beBytes_length]) (beBytes_length _ _)).trans (beVal2 _ b0 (by omega))
  have e5 : l.sec.getD 13 0 = l.ms.length := by
    rw [hS]; simp [beBytes]; omega
  have e6 : parseMs l.sec l.ms.length = l.ms := by
    refine List.ext_getElem (parseMs_length _ _) fun i hi hi' => ?_
    obtain ⟨post, hp⟩ := sec_mem l i hi'
    have hb := hm _ (List.getElem_mem hi')
    obtain ⟨⟨_, _, i0, i1⟩, ⟨_, _, s0, s1⟩, _, _, t0, t1⟩ := hb
    have hlen : (l.pre ++ memBytes (l.ms.take i)).length = 14 + 4 * i := by
      rw [List.length_append, l.pre_length, memBytes_length, List.length_take]; omega
    have f1 : getB l.sec (14 + 4 * i) 1 = l.ms[i].id := (getB_mid _ (l.pre ++ memBytes (l.ms.take i)) (beBytes l.ms[i].id 1) (beBytes l.ms[i].sec 2 ++ (beBytes l.ms[i].st 1 ++ post)) _ 1 (by rw [hp]; simp only [Mem.bytes, List.append_assoc]) hlen (beBytes_length _ _)).trans (beVal1 _ i0 (by omega))
    have f2 : getB l.sec (15 + 4 * i) 2 = l.ms[i].sec := (getB_mid _ (l.pre ++ memBytes (l.ms.take i) ++ beBytes l.ms[i].id 1) (beBytes l.ms[i].sec 2) (beBytes l.ms[i].st 1 ++ post) _ 2 (by rw [hp]; simp only [Mem.bytes, List.append_assoc]) (by rw [List.length_append, hlen, beBytes_length]; omega) (beBytes_length _ _)).trans (beVal2 _ s0 (by omega))
    have f3 : getB l.sec (17 + 4 * i) 1 = l.ms[i].st := (getB_mid _ (l.pre ++ memBytes (l.ms.take i) ++ beBytes l.ms[i].id 1 ++ beBytes l.ms[i].sec 2) (beBytes l.ms[i].st 1) post _ 1 (by rw [hp]; simp only [Mem.bytes, List.append_assoc]) (by rw [List.length_append, List.length_append, hlen, beBytes_length, beBytes_length]; omega) (beBytes_length _ _)).trans (beVal1 _ t0 (by omega))
    simp only [parseMs, List.getElem_map, List.getElem_range, memAt, f1, f2, f3]
  rw [parse, e1, e2, e3, e4, e5, Int.toNat_natCast, e6]

theorem sec_ok (l : Lab) (hr : rightB l = true) : ofOk l.sec = true := by
  have hn : l.ms.length ≤ 12 := by
    simp only [rightB, headB, inB, Bool.and_eq_true, decide_eq_true_eq] at hr; omega
  have hh : ofHead l.sec = true := by
    have hp := parse_sec l hr
    have h13 : (l.sec.getD 13 0) ≤ 12 := by
      have hl : (parse l.sec).ms.length = (l.sec.getD 13 0).toNat := by simp [parse, parseMs_length]
      rw [hp] at hl; omega
    have h2 : l.sec.take 2 = [66, 87] := by rw [l.sec_pre]; simp [Lab.pre]
    simp only [ofHead, h2, h13]; rfl
  simp [ofOk, hh, parse_sec l hr, hr]

end Go.Proofs.Ytpnpconphpbcaaa
