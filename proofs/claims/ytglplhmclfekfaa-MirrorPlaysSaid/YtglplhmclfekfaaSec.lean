/- Sectors. -/
import Derived.Test.YtglplhmclfekfaaAgg
import Derived.Test.YtglplhmclfekfaaPack
import Derived.Lib.SlBytesConst
namespace Go.Proofs.Ytglplhmclfekfaa
open Go.RowKit
set_option linter.unusedVariables false

/-- a sector of these bytes -/
def secV (bs : List Int) : Value := .agg (u8s bs).toArray
/-- the sector of noughts -/
def zeroB : List Int := List.replicate 64 0
theorem conv_const (w : World) (C : Array Value) (n c : Nat) :
    (convert 158 158 (.slice (some ⟨w.heap.size, 0, none⟩) n c)).run Try.prog (w.alloc (.cells C 5)) = .ok (.slice (some ⟨w.heap.size, 0, none⟩) n c) (w.alloc (.cells C 5 (C.size, C.size + 1))) :=
  Lib.run_convert_bytes_const (P := Try.prog) w 158 5 C n c Try.underlying158 Try.underlying5
theorem zeroB_length : zeroB.length = 64 := by simp [zeroB]
theorem ty_sec : AggT Try.prog 34 64 := ⟨⟨_, (show Try.prog.underlying 34 = some (.array 64 5) by kernel_rfl), rfl⟩, by kernel_rfl⟩
theorem zero_sec : ∀ w, (zeroValue 34).run Try.prog w = .ok (.agg (u8s zeroB).toArray) w := fun w => by
  have h1 : (Try.prog.info? 34).map (·.zero) = some (some (.agg (u8s zeroB).toArray)) := by kernel_rfl
  cases hi : Try.prog.info? 34 with
  | none => simp [hi] at h1
  | some i =>
    have hz : i.zero = some (.agg (u8s zeroB).toArray) := by simpa [hi] using h1
    simp [zeroValue, typeInfo, hi, hz]
theorem run_equal_sec (xs ys : List Int) (hx : xs.length = 64) (hy : ys.length = 64) (w : World) :
    (Op.equalIn 10000 34 (secV xs) (secV ys)).run Try.prog w = .ok (xs == ys) w :=
  run_equalIn_ints w 9998 34 5 64 .u8 (by kernel_rfl) (by kernel_rfl) (fun w => by
    obtain ⟨i, h1, _, h3, _⟩ := info_parts (P := Try.prog) (e := 5) (z := .int .u8 0) (size := 1) (bytes := 1) (by kernel_rfl)
    simp [sizeOf, typeInfo, h1, h3]) xs ys hx hy
theorem run_equal_secA (xs ys : List Int) (hx : xs.length = 64) (hy : ys.length = 64) (w : World) :
    (Op.equalIn 10000 34 (.agg (u8s xs).toArray) (.agg (u8s ys).toArray)).run Try.prog w = .ok (xs == ys) w := run_equal_sec xs ys hx hy w
theorem eqg_sec : Try.prog.eqGuardType Try.prog.depth 34 = false := by kernel_rfl
theorem u8s_oneA (l : List Int) : (u8s l).toArray.all (·.oneCell') = true := by
  rw [Array.all_eq_true_iff_forall_mem]; intro x hx; exact u8s_one l x (by simpa using hx)
/-- a function whose results are a sector's variable and a number -/
theorem results_sec {fn : Func} {p q : Tmp} (h : fn.results = #[.cell p 34, .tmp q]) (tmps : Array Value) (w : World) (b : Nat) (bs : List Int)
    (hp : tmps.getD p undef = .pointer (some ⟨b, 0, none⟩)) (hc : Cells w b 0 (u8s bs)) (hl : bs.length = 64) :
    (results fn tmps).run Try.prog w = .ok (.tuple #[secV bs, tmps.getD q undef]) w := by
  obtain ⟨⟨d, hd1, hd2⟩, hs⟩ := ty_sec
  have hp' : tmps[p]?.getD undef = .pointer (some ⟨b, 0, none⟩) := by simpa using hp
  have hr := run_loadVar_mid (P := Try.prog) w b 0 34 (u8s bs) d (rangeAt_of_cells hc) hd1 hd2 (by rw [hs, u8s_length, hl])
  simp [results, h, hp', asAddr, hr, secV]

end Go.Proofs.Ytglplhmclfekfaa
