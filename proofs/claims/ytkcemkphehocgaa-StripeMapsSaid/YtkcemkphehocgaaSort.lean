/-
  DERIVED: THE SHELF's CONTRACTS AT THIS DUMP, IN PLAIN WORDS (tools/lay-plain.mjs out of 'YtkcemkphehocgaaSrt.lean', which tools/lay-shelf.mjs wrote): THE SAME DECLARATIONS UNDER THE SAME NAMES: 'import', 'namespace', 'open', 'def', 'theorem' AND NOTHING ELSE: no command of the shelf's: FOR A HAND-IN. Each laying: the table of numbers ('.._ren') and one theorem, a field a fact of the dump's own or the kernel's comparison; each contract: ONE APPLICATION.
-/
import Derived.Shelf.SlSortCmp.NoneTotal
import Derived.Shelf.SlicesG.Cmp
import Derived.Ground.SlsfProg
import Derived.Ground.SlgcProg
import Derived.Test.YtkcemkphehocgaaProg
namespace Go.Proofs
open Go.Shelf
def Try.sortL_ren : Go.Shelf.Ren := ⟨fun | 6 => 77 | 15 => 124 | 14 => 123 | 28 => 150 | 29 => 151 | 20 => 142 | 21 => 143 | 22 => 144 | 23 => 145 | 24 => 146 | 25 => 147 | 26 => 148 | 27 => 149 | 46 => 156 | 47 => 157 | 48 => 158 | 49 => 159 | 50 => 160 | 57 => 164 | n => n, fun | 22 => 113 | 24 => 115 | 25 => 118 | 3 => 3 | 39 => 108 | 0 => 0 | 53 => 183 | 55 => 23 | 4 => 4 | 46 => 177 | 45 => 176 | 50 => 166 | 5 => 5 | 9 => 9 | 66 => 189 | 70 => 193 | 76 => 201 | 77 => 202 | n => n, fun | n => n⟩
theorem Try.sortL : Go.Proofs.SlLaysF0.n6 Try.prog Try.sortL_ren := {
  mixed := by kernel_rfl
  f6 := ⟨Try.f77.name, by decide, Try.func77.trans (congrArg some (by kernel_rfl))⟩
  f14 := ⟨Try.f123.name, by decide, Try.func123.trans (congrArg some (by kernel_rfl))⟩
  f15 := Try.func124.trans (congrArg some (by kernel_rfl))
  f20 := ⟨Try.f142.name, by decide, Try.func142.trans (congrArg some (by kernel_rfl))⟩
  f21 := ⟨Try.f143.name, by decide, Try.func143.trans (congrArg some (by kernel_rfl))⟩
  f22 := ⟨Try.f144.name, by decide, Try.func144.trans (congrArg some (by kernel_rfl))⟩
  f23 := ⟨Try.f145.name, by decide, Try.func145.trans (congrArg some (by kernel_rfl))⟩
  f24 := ⟨Try.f146.name, by decide, Try.func146.trans (congrArg some (by kernel_rfl))⟩
  f25 := ⟨Try.f147.name, by decide, Try.func147.trans (congrArg some (by kernel_rfl))⟩
  f26 := ⟨Try.f148.name, by decide, Try.func148.trans (congrArg some (by kernel_rfl))⟩
  f27 := ⟨Try.f149.name, by decide, Try.func149.trans (congrArg some (by kernel_rfl))⟩
  f28 := Try.func150.trans (congrArg some (by kernel_rfl))
  f29 := Try.func151.trans (congrArg some (by kernel_rfl))
  f46 := ⟨Try.f156.name, by decide, Try.func156.trans (congrArg some (by kernel_rfl))⟩
  f47 := Try.func157.trans (congrArg some (by kernel_rfl))
  f48 := Try.func158.trans (congrArg some (by kernel_rfl))
  f49 := ⟨Try.f159.name, by decide, Try.func159.trans (congrArg some (by kernel_rfl))⟩
  f50 := ⟨Try.f160.name, by decide, Try.func160.trans (congrArg some (by kernel_rfl))⟩
  f57 := ⟨Try.f164.name, by decide, Try.func164.trans (congrArg some (by kernel_rfl))⟩
  t0 := Try.underlying0
  a0 := Try.isAgg0
  z0 := Try.sizeOf0
  v0 := Try.zeroValue0
  t3 := Try.underlying3
  a3 := Try.isAgg3
  z3 := Try.sizeOf3
  v3 := Try.zeroValue3
  t4 := Try.underlying4
  a4 := Try.isAgg4
  z4 := Try.sizeOf4
  v4 := Try.zeroValue4
  t5 := Try.underlying5
  a5 := Try.isAgg5
  z5 := Try.sizeOf5
  v5 := Try.zeroValue5
  t9 := Try.underlying9
  a9 := Try.isAgg9
  z9 := Try.sizeOf9
  v9 := Try.zeroValue9
  t22 := Try.underlying113
  a22 := Try.isAgg113
  z22 := Try.sizeOf113
  v22 := Try.zeroValue113
  t25 := Try.underlying118
  a25 := Try.isAgg118
  z25 := Try.sizeOf118
  v25 := Try.zeroValue118
  t39 := Try.underlying108
  a39 := Try.isAgg108
  z39 := Try.sizeOf108
  v39 := Try.zeroValue108
  t45 := Try.underlying176
  a45 := Try.isAgg176
  z45 := Try.sizeOf176
  v45 := Try.zeroValue176
  t46 := Try.underlying177
  a46 := Try.isAgg177
  z46 := Try.sizeOf177
  v46 := Try.zeroValue177
  t50 := Try.underlying166
  a50 := Try.isAgg166
  z50 := Try.sizeOf166
  v50 := Try.zeroValue166
  t53 := Try.underlying183
  a53 := Try.isAgg183
  z53 := Try.sizeOf183
  v53 := Try.zeroValue183
  t55 := Try.underlying23
  a55 := Try.isAgg23
  z55 := Try.sizeOf23
  v55 := Try.zeroValue23
  t66 := Try.underlying189
  a66 := Try.isAgg189
  z66 := Try.sizeOf189
  v66 := Try.zeroValue189
  t70 := Try.underlying193
  a70 := Try.isAgg193
  z70 := Try.sizeOf193
  v70 := Try.zeroValue193
  t76 := Try.underlying201
  a76 := Try.isAgg201
  z76 := Try.sizeOf201
  v76 := Try.zeroValue201
  t77 := Try.underlying202
  a77 := Try.isAgg202
  z77 := Try.sizeOf202
  v77 := Try.zeroValue202 }
def Try.cmpL_ren : Go.Shelf.Ren := ⟨fun | 5 => 79 | 7 => 125 | n => n, fun | 22 => 3 | 3 => 3 | 4 => 4 | n => n, fun | n => n⟩
theorem Try.cmpL : Go.Proofs.SlLaysC2.n5 Try.prog Try.cmpL_ren := {
  mixed := by kernel_rfl
  f5 := ⟨Try.f79.name, by decide, Try.func79.trans (congrArg some (by kernel_rfl))⟩
  f7 := ⟨Try.f125.name, by decide, Try.func125.trans (congrArg some (by kernel_rfl))⟩
  t3 := Try.underlying3
  a3 := Try.isAgg3
  z3 := Try.sizeOf3
  v3 := Try.zeroValue3
  t4 := Try.underlying4
  a4 := Try.isAgg4
  z4 := Try.sizeOf4
  v4 := Try.zeroValue4
  t22 := Try.underlying3
  a22 := Try.isAgg3
  z22 := Try.sizeOf3
  v22 := Try.zeroValue3 }
end Go.Proofs
