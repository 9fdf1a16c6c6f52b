/-
  DERIVED: THE SHELF's CONTRACTS AT THIS DUMP, IN PLAIN WORDS (tools/lay-plain.mjs out of 'YtehdnjegipcpfaaDoorShelfs.lean', which tools/lay-shelf.mjs wrote): THE SAME DECLARATIONS UNDER THE SAME NAMES: 'import', 'namespace', 'open', 'def', 'theorem' AND NOTHING ELSE: no command of the shelf's: FOR A HAND-IN. Each laying: the table of numbers ('.._ren') and one theorem, a field a fact of the dump's own or the kernel's comparison; each contract: ONE APPLICATION.
-/
import Derived.Shelf.SlGeneric
import Derived.Shelf.Slices.In.CompactS
import Derived.Shelf.Slices.In.SortNone
import Derived.Ground.NamesProg
import Derived.Test.YtehdnjegipcpfaaDoorProg
namespace Go.Proofs
open Go.Shelf
def Tryd.laysSort_ren : Go.Shelf.Ren := ⟨fun | 190 => 39 | 125 => 61 | 258 => 60 | 128 => 98 | 129 => 99 | 302 => 89 | 303 => 90 | 304 => 91 | 305 => 92 | 306 => 93 | 307 => 94 | 308 => 95 | 309 => 96 | 310 => 97 | 333 => 130 | 329 => 131 | 330 => 132 | 334 => 133 | 335 => 134 | 336 => 115 | 344 => 147 | n => n, fun | 31 => 22 | 9 => 9 | 3 => 3 | 46 => 79 | 0 => 0 | 51 => 110 | 53 => 112 | 4 => 4 | 183 => 104 | 182 => 103 | 131 => 58 | 5 => 5 | 218 => 132 | 222 => 136 | 228 => 145 | 229 => 146 | n => n, fun | n => n⟩
theorem Tryd.laysSort : Go.Proofs.Lays.n190 Tryd.prog Tryd.laysSort_ren := {
  mixed := by kernel_rfl
  f125 := Tryd.func61.trans (congrArg some (by kernel_rfl))
  f128 := Tryd.func98.trans (congrArg some (by kernel_rfl))
  f129 := Tryd.func99.trans (congrArg some (by kernel_rfl))
  f190 := Tryd.func39.trans (congrArg some (by kernel_rfl))
  f258 := Tryd.func60.trans (congrArg some (by kernel_rfl))
  f302 := Tryd.func89.trans (congrArg some (by kernel_rfl))
  f303 := Tryd.func90.trans (congrArg some (by kernel_rfl))
  f304 := Tryd.func91.trans (congrArg some (by kernel_rfl))
  f305 := Tryd.func92.trans (congrArg some (by kernel_rfl))
  f306 := Tryd.func93.trans (congrArg some (by kernel_rfl))
  f307 := Tryd.func94.trans (congrArg some (by kernel_rfl))
  f308 := Tryd.func95.trans (congrArg some (by kernel_rfl))
  f309 := Tryd.func96.trans (congrArg some (by kernel_rfl))
  f310 := Tryd.func97.trans (congrArg some (by kernel_rfl))
  f329 := Tryd.func131.trans (congrArg some (by kernel_rfl))
  f330 := Tryd.func132.trans (congrArg some (by kernel_rfl))
  f333 := Tryd.func130.trans (congrArg some (by kernel_rfl))
  f334 := Tryd.func133.trans (congrArg some (by kernel_rfl))
  f335 := Tryd.func134.trans (congrArg some (by kernel_rfl))
  f336 := Tryd.func115.trans (congrArg some (by kernel_rfl))
  f344 := Tryd.func147.trans (congrArg some (by kernel_rfl))
  t0 := Tryd.underlying0
  a0 := Tryd.isAgg0
  z0 := Tryd.sizeOf0
  v0 := Tryd.zeroValue0
  t3 := Tryd.underlying3
  a3 := Tryd.isAgg3
  z3 := Tryd.sizeOf3
  v3 := Tryd.zeroValue3
  t4 := Tryd.underlying4
  a4 := Tryd.isAgg4
  z4 := Tryd.sizeOf4
  v4 := Tryd.zeroValue4
  t5 := Tryd.underlying5
  a5 := Tryd.isAgg5
  z5 := Tryd.sizeOf5
  v5 := Tryd.zeroValue5
  t9 := Tryd.underlying9
  a9 := Tryd.isAgg9
  z9 := Tryd.sizeOf9
  v9 := Tryd.zeroValue9
  t31 := Tryd.underlying22
  a31 := Tryd.isAgg22
  z31 := Tryd.sizeOf22
  v31 := Tryd.zeroValue22
  t46 := Tryd.underlying79
  a46 := Tryd.isAgg79
  z46 := Tryd.sizeOf79
  v46 := Tryd.zeroValue79
  t51 := Tryd.underlying110
  a51 := Tryd.isAgg110
  z51 := Tryd.sizeOf110
  v51 := Tryd.zeroValue110
  t53 := Tryd.underlying112
  a53 := Tryd.isAgg112
  z53 := Tryd.sizeOf112
  v53 := Tryd.zeroValue112
  t131 := Tryd.underlying58
  a131 := Tryd.isAgg58
  z131 := Tryd.sizeOf58
  v131 := Tryd.zeroValue58
  t182 := Tryd.underlying103
  a182 := Tryd.isAgg103
  z182 := Tryd.sizeOf103
  v182 := Tryd.zeroValue103
  t183 := Tryd.underlying104
  a183 := Tryd.isAgg104
  z183 := Tryd.sizeOf104
  v183 := Tryd.zeroValue104
  t218 := Tryd.underlying132
  a218 := Tryd.isAgg132
  z218 := Tryd.sizeOf132
  v218 := Tryd.zeroValue132
  t222 := Tryd.underlying136
  a222 := Tryd.isAgg136
  z222 := Tryd.sizeOf136
  v222 := Tryd.zeroValue136
  t228 := Tryd.underlying145
  a228 := Tryd.isAgg145
  z228 := Tryd.sizeOf145
  v228 := Tryd.zeroValue145
  t229 := Tryd.underlying146
  a229 := Tryd.isAgg146
  z229 := Tryd.sizeOf146
  v229 := Tryd.zeroValue146 }
def Tryd.laysCompact_ren : Go.Shelf.Ren := ⟨fun | 194 => 40 | n => n, fun | 31 => 22 | 9 => 9 | 3 => 3 | 4 => 4 | 0 => 0 | n => n, fun | n => n⟩
theorem Tryd.laysCompact : Go.Proofs.Lays.n194 Tryd.prog Tryd.laysCompact_ren := {
  mixed := by kernel_rfl
  f194 := Tryd.func40.trans (congrArg some (by kernel_rfl))
  t0 := Tryd.underlying0
  a0 := Tryd.isAgg0
  z0 := Tryd.sizeOf0
  v0 := Tryd.zeroValue0
  t3 := Tryd.underlying3
  a3 := Tryd.isAgg3
  z3 := Tryd.sizeOf3
  v3 := Tryd.zeroValue3
  t4 := Tryd.underlying4
  a4 := Tryd.isAgg4
  z4 := Tryd.sizeOf4
  v4 := Tryd.zeroValue4
  t9 := Tryd.underlying9
  a9 := Tryd.isAgg9
  z9 := Tryd.sizeOf9
  v9 := Tryd.zeroValue9
  t31 := Tryd.underlying22
  a31 := Tryd.isAgg22
  z31 := Tryd.sizeOf22
  v31 := Tryd.zeroValue22 }
end Go.Proofs
