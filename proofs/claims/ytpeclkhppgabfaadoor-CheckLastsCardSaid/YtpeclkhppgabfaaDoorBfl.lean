/-
  DERIVED: THE SHELF's CONTRACTS AT THIS DUMP, IN PLAIN WORDS (tools/lay-plain.mjs out of 'YtpeclkhppgabfaaDoorBft.lean', which tools/lay-shelf.mjs wrote): THE SAME DECLARATIONS UNDER THE SAME NAMES: 'import', 'namespace', 'open', 'def', 'theorem' AND NOTHING ELSE: no command of the shelf's: FOR A HAND-IN. Each laying: the table of numbers ('.._ren') and one theorem, a field a fact of the dump's own or the kernel's comparison; each contract: ONE APPLICATION.
-/
import Derived.Shelf.Bytes.WriteAny
import Derived.Shelf.Bytes.Bytes
import Derived.Ground.NamesProg
import Derived.Test.YtpeclkhppgabfaaDoorProg
namespace Go.Proofs
open Go.Shelf
def Tryd.bwL_ren : Go.Shelf.Ren := ⟨fun | 180 => 66 | 251 => 83 | 252 => 84 | 181 => 92 | 184 => 93 | 290 => 94 | 324 => 96 | n => n, fun | 130 => 145 | 37 => 25 | 3 => 3 | 75 => 126 | 0 => 0 | 93 => 124 | 91 => 122 | 131 => 131 | 4 => 4 | 20 => 20 | 5 => 5 | 80 => 160 | 9 => 9 | n => n, fun | 14 => 0 | n => n⟩
theorem Tryd.bwL : Go.Proofs.LaysM.n180 Tryd.prog Tryd.bwL_ren := {
  mixed := by kernel_rfl
  f180 := Tryd.func66.trans (congrArg some (by kernel_rfl))
  f181 := Tryd.func92.trans (congrArg some (by kernel_rfl))
  f184 := Tryd.func93.trans (congrArg some (by kernel_rfl))
  f251 := Tryd.func83.trans (congrArg some (by kernel_rfl))
  f252 := Tryd.func84.trans (congrArg some (by kernel_rfl))
  f290 := Tryd.func94.trans (congrArg some (by kernel_rfl))
  f324 := Tryd.func96.trans (congrArg some (by kernel_rfl))
  t0 := Tryd.underlying0
  a0 := Tryd.isAgg0
  z0 := Tryd.sizeOf0
  v0 := Tryd.zeroValue0
  t3 := Tryd.underlying3
  a3 := Tryd.isAgg3
  z3 := Tryd.sizeOf3
  v3 := Tryd.zeroValue3
  t4 := Tryd.underlying4
  a4 := Tryd.isAgg4
  z4 := Tryd.sizeOf4
  v4 := Tryd.zeroValue4
  t20 := Tryd.underlying20
  a20 := Tryd.isAgg20
  z20 := Tryd.sizeOf20
  v20 := Tryd.zeroValue20
  t37 := Tryd.underlying25
  a37 := Tryd.isAgg25
  z37 := Tryd.sizeOf25
  v37 := Tryd.zeroValue25
  t75 := Tryd.underlying126
  a75 := Tryd.isAgg126
  z75 := Tryd.sizeOf126
  v75 := Tryd.zeroValue126
  t91 := Tryd.underlying122
  a91 := Tryd.isAgg122
  z91 := Tryd.sizeOf122
  v91 := Tryd.zeroValue122
  t93 := Tryd.underlying124
  a93 := Tryd.isAgg124
  z93 := Tryd.sizeOf124
  v93 := Tryd.zeroValue124
  t130 := Tryd.underlying145
  a130 := Tryd.isAgg145
  z130 := Tryd.sizeOf145
  v130 := Tryd.zeroValue145
  t131 := Tryd.underlying131
  a131 := Tryd.isAgg131
  z131 := Tryd.sizeOf131
  v131 := Tryd.zeroValue131
  g14 := by kernel_rfl
  t5 := Tryd.underlying5
  a5 := Tryd.isAgg5
  z5 := Tryd.sizeOf5
  v5 := Tryd.zeroValue5
  t9 := Tryd.underlying9
  a9 := Tryd.isAgg9
  z9 := Tryd.sizeOf9
  v9 := Tryd.zeroValue9
  t80 := Tryd.underlying160
  a80 := Tryd.isAgg160
  z80 := Tryd.sizeOf160
  v80 := Tryd.zeroValue160
  i0 := by kernel_rfl
  i3 := by kernel_rfl
  i4 := by kernel_rfl
  i5 := by kernel_rfl
  i9 := by kernel_rfl
  i20 := by kernel_rfl
  i37 := by kernel_rfl
  i75 := by kernel_rfl
  i80 := by kernel_rfl
  i91 := by kernel_rfl
  i93 := by kernel_rfl
  i130 := by kernel_rfl
  i131 := by kernel_rfl
  m14 := by kernel_rfl }
def Tryd.bbL_ren : Go.Shelf.Ren := ⟨fun | 183 => 67 | n => n, fun | 130 => 145 | 37 => 25 | 0 => 0 | 93 => 124 | 3 => 3 | 5 => 5 | 91 => 122 | n => n, fun | n => n⟩
theorem Tryd.bbL : Go.Proofs.LaysM.n183 Tryd.prog Tryd.bbL_ren := {
  mixed := by kernel_rfl
  f183 := Tryd.func67.trans (congrArg some (by kernel_rfl))
  t0 := Tryd.underlying0
  a0 := Tryd.isAgg0
  z0 := Tryd.sizeOf0
  v0 := Tryd.zeroValue0
  t3 := Tryd.underlying3
  a3 := Tryd.isAgg3
  z3 := Tryd.sizeOf3
  v3 := Tryd.zeroValue3
  t37 := Tryd.underlying25
  a37 := Tryd.isAgg25
  z37 := Tryd.sizeOf25
  v37 := Tryd.zeroValue25
  t93 := Tryd.underlying124
  a93 := Tryd.isAgg124
  z93 := Tryd.sizeOf124
  v93 := Tryd.zeroValue124
  t130 := Tryd.underlying145
  a130 := Tryd.isAgg145
  z130 := Tryd.sizeOf145
  v130 := Tryd.zeroValue145
  t5 := Tryd.underlying5
  a5 := Tryd.isAgg5
  z5 := Tryd.sizeOf5
  v5 := Tryd.zeroValue5
  t91 := Tryd.underlying122
  a91 := Tryd.isAgg122
  z91 := Tryd.sizeOf122
  v91 := Tryd.zeroValue122
  i0 := by kernel_rfl
  i3 := by kernel_rfl
  i5 := by kernel_rfl
  i37 := by kernel_rfl
  i91 := by kernel_rfl
  i93 := by kernel_rfl
  i130 := by kernel_rfl }
end Go.Proofs
