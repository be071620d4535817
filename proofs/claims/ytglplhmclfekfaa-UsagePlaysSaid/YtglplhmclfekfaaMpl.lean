/-
  DERIVED: THE SHELF's CONTRACTS AT THIS DUMP, IN PLAIN WORDS (tools/lay-plain.mjs out of 'YtglplhmclfekfaaMct.lean', which tools/lay-shelf.mjs wrote): THE SAME DECLARATIONS UNDER THE SAME NAMES: 'import', 'namespace', 'open', 'def', 'theorem' AND NOTHING ELSE: no command of the shelf's: FOR A HAND-IN. Each laying: the table of numbers ('.._ren') and one theorem, a field a fact of the dump's own or the kernel's comparison; each contract: ONE APPLICATION.
-/
import Derived.Shelf.SlMaps.Clone
import Derived.Shelf.SlIterI.Nil
import Derived.Shelf.SortM.Plain
import Derived.Shelf.SortM.SortNone
import Derived.Ground.SlmcProg
import Derived.Ground.GgzProg
import Derived.Ground.SlgmProg
import Derived.Test.YtglplhmclfekfaaProg
namespace Go.Proofs
open Go.Shelf
def Try.mclL_ren : Go.Shelf.Ren := ⟨fun | 5 => 76 | 7 => 128 | n => n, fun | 23 => 119 | 25 => 3 | 3 => 128 | 4 => 4 | 20 => 20 | n => n, fun | n => n⟩
theorem Try.mclL : Go.Proofs.SlLaysW.n5 Try.prog Try.mclL_ren := {
  mixed := by kernel_rfl
  f5 := ⟨Try.f76.name, by decide, Try.func76.trans (congrArg some (by kernel_rfl))⟩
  f7 := Try.func128.trans (congrArg some (by kernel_rfl))
  t4 := Try.underlying4
  a4 := Try.isAgg4
  z4 := Try.sizeOf4
  v4 := Try.zeroValue4
  t20 := Try.underlying20
  a20 := Try.isAgg20
  z20 := Try.sizeOf20
  v20 := Try.zeroValue20
  t23 := Try.underlying119
  a23 := Try.isAgg119
  z23 := Try.sizeOf119
  v23 := Try.zeroValue119 }
def Try.mkeyL_ren : Go.Shelf.Ren := ⟨fun | 7 => 94 | 10 => 134 | n => n, fun | 23 => 118 | 26 => 3 | 3 => 56 | 28 => 136 | 0 => 0 | 27 => 135 | 33 => 39 | 4 => 4 | n => n, fun | n => n⟩
theorem Try.mkeyL : Go.Proofs.SlLaysZI.n7 Try.prog Try.mkeyL_ren := {
  mixed := by kernel_rfl
  f7 := ⟨Try.f94.name, by decide, Try.func94.trans (congrArg some (by kernel_rfl))⟩
  f10 := ⟨Try.f134.name, by decide, Try.func134.trans (congrArg some (by kernel_rfl))⟩
  t0 := Try.underlying0
  a0 := Try.isAgg0
  z0 := Try.sizeOf0
  v0 := Try.zeroValue0
  t4 := Try.underlying4
  a4 := Try.isAgg4
  z4 := Try.sizeOf4
  v4 := Try.zeroValue4
  t23 := Try.underlying118
  a23 := Try.isAgg118
  z23 := Try.sizeOf118
  v23 := Try.zeroValue118
  t26 := Try.underlying3
  a26 := Try.isAgg3
  z26 := Try.sizeOf3
  v26 := Try.zeroValue3
  t27 := Try.underlying135
  a27 := Try.isAgg135
  z27 := Try.sizeOf135
  v27 := Try.zeroValue135
  t28 := Try.underlying136
  a28 := Try.isAgg136
  z28 := Try.sizeOf136
  v28 := Try.zeroValue136
  t33 := Try.underlying39
  a33 := Try.isAgg39
  z33 := Try.sizeOf39
  v33 := Try.zeroValue39 }
def Try.msoL_ren : Go.Shelf.Ren := ⟨fun | 6 => 93 | 8 => 132 | 9 => 133 | 11 => 161 | 13 => 125 | 12 => 162 | 23 => 157 | 24 => 158 | 14 => 172 | 15 => 173 | 16 => 174 | 17 => 175 | 18 => 176 | 19 => 177 | 20 => 178 | 21 => 179 | 22 => 180 | 25 => 185 | 26 => 168 | 27 => 169 | 28 => 186 | 29 => 187 | 30 => 126 | 31 => 189 | n => n, fun | 26 => 3 | 28 => 136 | 24 => 56 | 0 => 0 | 3 => 3 | 37 => 102 | 48 => 198 | 50 => 23 | 4 => 4 | 40 => 192 | 39 => 191 | 45 => 114 | 5 => 5 | 9 => 9 | 51 => 210 | 55 => 214 | 57 => 227 | 58 => 228 | 33 => 39 | n => n, fun | n => n⟩
theorem Try.msoL : Go.Proofs.SlLaysZI.n6 Try.prog Try.msoL_ren := {
  mixed := by kernel_rfl
  f6 := ⟨Try.f93.name, by decide, Try.func93.trans (congrArg some (by kernel_rfl))⟩
  f8 := ⟨Try.f132.name, by decide, Try.func132.trans (congrArg some (by kernel_rfl))⟩
  f11 := ⟨Try.f161.name, by decide, Try.func161.trans (congrArg some (by kernel_rfl))⟩
  t0 := Try.underlying0
  a0 := Try.isAgg0
  z0 := Try.sizeOf0
  v0 := Try.zeroValue0
  t24 := Try.underlying56
  a24 := Try.isAgg56
  z24 := Try.sizeOf56
  v24 := Try.zeroValue56
  t26 := Try.underlying3
  a26 := Try.isAgg3
  z26 := Try.sizeOf3
  v26 := Try.zeroValue3
  t28 := Try.underlying136
  a28 := Try.isAgg136
  z28 := Try.sizeOf136
  v28 := Try.zeroValue136
  i26 := by kernel_rfl }
def Try.mstL_ren : Go.Shelf.Ren := ⟨fun | 5 => 133 | 8 => 125 | 7 => 162 | 19 => 157 | 20 => 158 | 10 => 172 | 11 => 173 | 12 => 174 | 13 => 175 | 14 => 176 | 15 => 177 | 16 => 178 | 17 => 179 | 18 => 180 | 30 => 185 | 31 => 168 | 32 => 169 | 33 => 186 | 34 => 187 | 35 => 126 | 40 => 189 | n => n, fun | 23 => 56 | 25 => 3 | 3 => 3 | 32 => 102 | 22 => 56 | 0 => 0 | 44 => 198 | 46 => 23 | 4 => 4 | 36 => 192 | 35 => 191 | 41 => 114 | 5 => 5 | 9 => 9 | 53 => 210 | 57 => 214 | 63 => 227 | 64 => 228 | n => n, fun | n => n⟩
theorem Try.mstL : Go.Proofs.SlLaysM.n5 Try.prog Try.mstL_ren := {
  mixed := by kernel_rfl
  f5 := ⟨Try.f133.name, by decide, Try.func133.trans (congrArg some (by kernel_rfl))⟩
  f7 := ⟨Try.f162.name, by decide, Try.func162.trans (congrArg some (by kernel_rfl))⟩
  f8 := Try.func125.trans (congrArg some (by kernel_rfl))
  f10 := ⟨Try.f172.name, by decide, Try.func172.trans (congrArg some (by kernel_rfl))⟩
  f11 := ⟨Try.f173.name, by decide, Try.func173.trans (congrArg some (by kernel_rfl))⟩
  f12 := ⟨Try.f174.name, by decide, Try.func174.trans (congrArg some (by kernel_rfl))⟩
  f13 := ⟨Try.f175.name, by decide, Try.func175.trans (congrArg some (by kernel_rfl))⟩
  f14 := ⟨Try.f176.name, by decide, Try.func176.trans (congrArg some (by kernel_rfl))⟩
  f15 := ⟨Try.f177.name, by decide, Try.func177.trans (congrArg some (by kernel_rfl))⟩
  f16 := ⟨Try.f178.name, by decide, Try.func178.trans (congrArg some (by kernel_rfl))⟩
  f17 := ⟨Try.f179.name, by decide, Try.func179.trans (congrArg some (by kernel_rfl))⟩
  f18 := ⟨Try.f180.name, by decide, Try.func180.trans (congrArg some (by kernel_rfl))⟩
  f19 := Try.func157.trans (congrArg some (by kernel_rfl))
  f20 := Try.func158.trans (congrArg some (by kernel_rfl))
  f30 := ⟨Try.f185.name, by decide, Try.func185.trans (congrArg some (by kernel_rfl))⟩
  f31 := Try.func168.trans (congrArg some (by kernel_rfl))
  f32 := Try.func169.trans (congrArg some (by kernel_rfl))
  f33 := ⟨Try.f186.name, by decide, Try.func186.trans (congrArg some (by kernel_rfl))⟩
  f34 := ⟨Try.f187.name, by decide, Try.func187.trans (congrArg some (by kernel_rfl))⟩
  f35 := ⟨Try.f126.name, by decide, Try.func126.trans (congrArg some (by kernel_rfl))⟩
  f40 := ⟨Try.f189.name, by decide, Try.func189.trans (congrArg some (by kernel_rfl))⟩
  t0 := Try.underlying0
  a0 := Try.isAgg0
  z0 := Try.sizeOf0
  v0 := Try.zeroValue0
  t3 := Try.underlying3
  a3 := Try.isAgg3
  z3 := Try.sizeOf3
  v3 := Try.zeroValue3
  t4 := Try.underlying4
  a4 := Try.isAgg4
  z4 := Try.sizeOf4
  v4 := Try.zeroValue4
  t5 := Try.underlying5
  a5 := Try.isAgg5
  z5 := Try.sizeOf5
  v5 := Try.zeroValue5
  t9 := Try.underlying9
  a9 := Try.isAgg9
  z9 := Try.sizeOf9
  v9 := Try.zeroValue9
  t22 := Try.underlying56
  a22 := Try.isAgg56
  z22 := Try.sizeOf56
  v22 := Try.zeroValue56
  t23 := Try.underlying56
  a23 := Try.isAgg56
  z23 := Try.sizeOf56
  v23 := Try.zeroValue56
  t25 := Try.underlying3
  a25 := Try.isAgg3
  z25 := Try.sizeOf3
  v25 := Try.zeroValue3
  t32 := Try.underlying102
  a32 := Try.isAgg102
  z32 := Try.sizeOf102
  v32 := Try.zeroValue102
  t35 := Try.underlying191
  a35 := Try.isAgg191
  z35 := Try.sizeOf191
  v35 := Try.zeroValue191
  t36 := Try.underlying192
  a36 := Try.isAgg192
  z36 := Try.sizeOf192
  v36 := Try.zeroValue192
  t41 := Try.underlying114
  a41 := Try.isAgg114
  z41 := Try.sizeOf114
  v41 := Try.zeroValue114
  t44 := Try.underlying198
  a44 := Try.isAgg198
  z44 := Try.sizeOf198
  v44 := Try.zeroValue198
  t46 := Try.underlying23
  a46 := Try.isAgg23
  z46 := Try.sizeOf23
  v46 := Try.zeroValue23
  t53 := Try.underlying210
  a53 := Try.isAgg210
  z53 := Try.sizeOf210
  v53 := Try.zeroValue210
  t57 := Try.underlying214
  a57 := Try.isAgg214
  z57 := Try.sizeOf214
  v57 := Try.zeroValue214
  t63 := Try.underlying227
  a63 := Try.isAgg227
  z63 := Try.sizeOf227
  v63 := Try.zeroValue227
  t64 := Try.underlying228
  a64 := Try.isAgg228
  z64 := Try.sizeOf228
  v64 := Try.zeroValue228 }
end Go.Proofs
