/- Own tool's print: the library's contracts of slices.Sort and slices.Compact at this program: numbers and facts alone. -/
import Derived.Test.YtgehkmifnjldfaaProg
import Derived.Ground.NamesProg
import Derived.Ground.Names2Prog
import Derived.Shelf.Sort.Plain
import Derived.Shelf.Slices.CompactI
import Derived.KernelRfl
namespace Go.Proofs
open Go.Shelf
def Try.laysSort_ren : Go.Shelf.Ren := ⟨fun | 189 => 54 | 125 => 57 | 257 => 56 | 128 => 67 | 129 => 68 | 294 => 58 | 295 => 59 | 296 => 60 | 297 => 61 | 298 => 62 | 299 => 63 | 216 => 64 | 300 => 65 | 301 => 66 | 328 => 69 | 329 => 70 | 330 => 71 | 331 => 72 | 332 => 73 | 215 => 74 | 343 => 75 | n => n, fun | 28 => 23 | 3 => 3 | 46 => 71 | 0 => 0 | 51 => 81 | 53 => 83 | 4 => 4 | 183 => 74 | 182 => 73 | 131 => 78 | 5 => 5 | 9 => 9 | 218 => 84 | 222 => 88 | 228 => 90 | 229 => 91 | n => n, fun | n => n⟩
theorem Try.laysSort : Go.Proofs.Lays.n189 Try.prog Try.laysSort_ren := {
  mixed := by kernel_rfl
  f125 := Try.func57.trans (congrArg some (by kernel_rfl))
  f128 := Try.func67.trans (congrArg some (by kernel_rfl))
  f129 := Try.func68.trans (congrArg some (by kernel_rfl))
  f189 := Try.func54.trans (congrArg some (by kernel_rfl))
  f215 := Try.func74.trans (congrArg some (by kernel_rfl))
  f216 := Try.func64.trans (congrArg some (by kernel_rfl))
  f257 := Try.func56.trans (congrArg some (by kernel_rfl))
  f294 := Try.func58.trans (congrArg some (by kernel_rfl))
  f295 := Try.func59.trans (congrArg some (by kernel_rfl))
  f296 := Try.func60.trans (congrArg some (by kernel_rfl))
  f297 := Try.func61.trans (congrArg some (by kernel_rfl))
  f298 := Try.func62.trans (congrArg some (by kernel_rfl))
  f299 := Try.func63.trans (congrArg some (by kernel_rfl))
  f300 := Try.func65.trans (congrArg some (by kernel_rfl))
  f301 := Try.func66.trans (congrArg some (by kernel_rfl))
  f328 := Try.func69.trans (congrArg some (by kernel_rfl))
  f329 := Try.func70.trans (congrArg some (by kernel_rfl))
  f330 := Try.func71.trans (congrArg some (by kernel_rfl))
  f331 := Try.func72.trans (congrArg some (by kernel_rfl))
  f332 := Try.func73.trans (congrArg some (by kernel_rfl))
  f343 := Try.func75.trans (congrArg some (by kernel_rfl))
  t0 := Try.underlying0
  a0 := Try.isAgg0
  z0 := Try.sizeOf0
  v0 := Try.zeroValue0
  t3 := Try.underlying3
  a3 := Try.isAgg3
  z3 := Try.sizeOf3
  v3 := Try.zeroValue3
  t4 := Try.underlying4
  a4 := Try.isAgg4
  z4 := Try.sizeOf4
  v4 := Try.zeroValue4
  t5 := Try.underlying5
  a5 := Try.isAgg5
  z5 := Try.sizeOf5
  v5 := Try.zeroValue5
  t9 := Try.underlying9
  a9 := Try.isAgg9
  z9 := Try.sizeOf9
  v9 := Try.zeroValue9
  t28 := Try.underlying23
  a28 := Try.isAgg23
  z28 := Try.sizeOf23
  v28 := Try.zeroValue23
  t46 := Try.underlying71
  a46 := Try.isAgg71
  z46 := Try.sizeOf71
  v46 := Try.zeroValue71
  t51 := Try.underlying81
  a51 := Try.isAgg81
  z51 := Try.sizeOf81
  v51 := Try.zeroValue81
  t53 := Try.underlying83
  a53 := Try.isAgg83
  z53 := Try.sizeOf83
  v53 := Try.zeroValue83
  t131 := Try.underlying78
  a131 := Try.isAgg78
  z131 := Try.sizeOf78
  v131 := Try.zeroValue78
  t182 := Try.underlying73
  a182 := Try.isAgg73
  z182 := Try.sizeOf73
  v182 := Try.zeroValue73
  t183 := Try.underlying74
  a183 := Try.isAgg74
  z183 := Try.sizeOf74
  v183 := Try.zeroValue74
  t218 := Try.underlying84
  a218 := Try.isAgg84
  z218 := Try.sizeOf84
  v218 := Try.zeroValue84
  t222 := Try.underlying88
  a222 := Try.isAgg88
  z222 := Try.sizeOf88
  v222 := Try.zeroValue88
  t228 := Try.underlying90
  a228 := Try.isAgg90
  z228 := Try.sizeOf90
  v228 := Try.zeroValue90
  t229 := Try.underlying91
  a229 := Try.isAgg91
  z229 := Try.sizeOf91
  v229 := Try.zeroValue91 }
def Try.laysCompact_ren : Go.Shelf.Ren := ⟨fun | 20 => 55 | n => n, fun | 22 => 23 | 3 => 3 | 4 => 4 | 0 => 0 | n => n, fun | n => n⟩
theorem Try.laysCompact : Go.Proofs.Lays2.n20 Try.prog Try.laysCompact_ren := {
  mixed := by kernel_rfl
  f20 := Try.func55.trans (congrArg some (by kernel_rfl))
  t0 := Try.underlying0
  a0 := Try.isAgg0
  z0 := Try.sizeOf0
  v0 := Try.zeroValue0
  t3 := Try.underlying3
  a3 := Try.isAgg3
  z3 := Try.sizeOf3
  v3 := Try.zeroValue3
  t4 := Try.underlying4
  a4 := Try.isAgg4
  z4 := Try.sizeOf4
  v4 := Try.zeroValue4
  t22 := Try.underlying23
  a22 := Try.isAgg23
  z22 := Try.sizeOf23
  v22 := Try.zeroValue23
  i3 := by kernel_rfl }
end Go.Proofs

