/- Own tool's print: the library's contracts of slices.Sort and slices.Compact at this program: numbers and facts alone. -/
import Derived.Test.YtnlhbognechhcaaProg
import Derived.Ground.NamesProg
import Derived.Ground.Names2Prog
import Derived.Shelf.Sort.Plain
import Derived.Shelf.Slices.CompactI
import Derived.KernelRfl
namespace Go.Proofs
open Go.Shelf
def Try.laysSort_ren : Go.Shelf.Ren := ⟨fun | 189 => 43 | 125 => 47 | 257 => 46 | 128 => 58 | 129 => 59 | 294 => 49 | 295 => 50 | 296 => 51 | 297 => 52 | 298 => 53 | 299 => 54 | 216 => 55 | 300 => 56 | 301 => 57 | 328 => 60 | 329 => 61 | 330 => 62 | 331 => 63 | 332 => 64 | 215 => 65 | 343 => 66 | n => n, fun | 28 => 23 | 3 => 3 | 46 => 72 | 0 => 0 | 51 => 82 | 53 => 84 | 4 => 4 | 183 => 75 | 182 => 74 | 131 => 79 | 5 => 5 | 9 => 9 | 218 => 85 | 222 => 89 | 228 => 91 | 229 => 92 | n => n, fun | n => n⟩
theorem Try.laysSort : Go.Proofs.Lays.n189 Try.prog Try.laysSort_ren := {
  mixed := by kernel_rfl
  f125 := Try.func47.trans (congrArg some (by kernel_rfl))
  f128 := Try.func58.trans (congrArg some (by kernel_rfl))
  f129 := Try.func59.trans (congrArg some (by kernel_rfl))
  f189 := Try.func43.trans (congrArg some (by kernel_rfl))
  f215 := Try.func65.trans (congrArg some (by kernel_rfl))
  f216 := Try.func55.trans (congrArg some (by kernel_rfl))
  f257 := Try.func46.trans (congrArg some (by kernel_rfl))
  f294 := Try.func49.trans (congrArg some (by kernel_rfl))
  f295 := Try.func50.trans (congrArg some (by kernel_rfl))
  f296 := Try.func51.trans (congrArg some (by kernel_rfl))
  f297 := Try.func52.trans (congrArg some (by kernel_rfl))
  f298 := Try.func53.trans (congrArg some (by kernel_rfl))
  f299 := Try.func54.trans (congrArg some (by kernel_rfl))
  f300 := Try.func56.trans (congrArg some (by kernel_rfl))
  f301 := Try.func57.trans (congrArg some (by kernel_rfl))
  f328 := Try.func60.trans (congrArg some (by kernel_rfl))
  f329 := Try.func61.trans (congrArg some (by kernel_rfl))
  f330 := Try.func62.trans (congrArg some (by kernel_rfl))
  f331 := Try.func63.trans (congrArg some (by kernel_rfl))
  f332 := Try.func64.trans (congrArg some (by kernel_rfl))
  f343 := Try.func66.trans (congrArg some (by kernel_rfl))
  t0 := Try.underlying0
  a0 := Try.isAgg0
  z0 := Try.sizeOf0
  v0 := Try.zeroValue0
  t3 := Try.underlying3
  a3 := Try.isAgg3
  z3 := Try.sizeOf3
  v3 := Try.zeroValue3
  t4 := Try.underlying4
  a4 := Try.isAgg4
  z4 := Try.sizeOf4
  v4 := Try.zeroValue4
  t5 := Try.underlying5
  a5 := Try.isAgg5
  z5 := Try.sizeOf5
  v5 := Try.zeroValue5
  t9 := Try.underlying9
  a9 := Try.isAgg9
  z9 := Try.sizeOf9
  v9 := Try.zeroValue9
  t28 := Try.underlying23
  a28 := Try.isAgg23
  z28 := Try.sizeOf23
  v28 := Try.zeroValue23
  t46 := Try.underlying72
  a46 := Try.isAgg72
  z46 := Try.sizeOf72
  v46 := Try.zeroValue72
  t51 := Try.underlying82
  a51 := Try.isAgg82
  z51 := Try.sizeOf82
  v51 := Try.zeroValue82
  t53 := Try.underlying84
  a53 := Try.isAgg84
  z53 := Try.sizeOf84
  v53 := Try.zeroValue84
  t131 := Try.underlying79
  a131 := Try.isAgg79
  z131 := Try.sizeOf79
  v131 := Try.zeroValue79
  t182 := Try.underlying74
  a182 := Try.isAgg74
  z182 := Try.sizeOf74
  v182 := Try.zeroValue74
  t183 := Try.underlying75
  a183 := Try.isAgg75
  z183 := Try.sizeOf75
  v183 := Try.zeroValue75
  t218 := Try.underlying85
  a218 := Try.isAgg85
  z218 := Try.sizeOf85
  v218 := Try.zeroValue85
  t222 := Try.underlying89
  a222 := Try.isAgg89
  z222 := Try.sizeOf89
  v222 := Try.zeroValue89
  t228 := Try.underlying91
  a228 := Try.isAgg91
  z228 := Try.sizeOf91
  v228 := Try.zeroValue91
  t229 := Try.underlying92
  a229 := Try.isAgg92
  z229 := Try.sizeOf92
  v229 := Try.zeroValue92 }
def Try.laysCompact_ren : Go.Shelf.Ren := ⟨fun | 20 => 44 | n => n, fun | 22 => 23 | 3 => 3 | 4 => 4 | 0 => 0 | n => n, fun | n => n⟩
theorem Try.laysCompact : Go.Proofs.Lays2.n20 Try.prog Try.laysCompact_ren := {
  mixed := by kernel_rfl
  f20 := Try.func44.trans (congrArg some (by kernel_rfl))
  t0 := Try.underlying0
  a0 := Try.isAgg0
  z0 := Try.sizeOf0
  v0 := Try.zeroValue0
  t3 := Try.underlying3
  a3 := Try.isAgg3
  z3 := Try.sizeOf3
  v3 := Try.zeroValue3
  t4 := Try.underlying4
  a4 := Try.isAgg4
  z4 := Try.sizeOf4
  v4 := Try.zeroValue4
  t22 := Try.underlying23
  a22 := Try.isAgg23
  z22 := Try.sizeOf23
  v22 := Try.zeroValue23
  i3 := by kernel_rfl }
end Go.Proofs

