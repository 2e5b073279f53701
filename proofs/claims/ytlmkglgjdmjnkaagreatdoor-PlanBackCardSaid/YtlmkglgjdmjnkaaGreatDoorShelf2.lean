/-
  DERIVED: THE SHELF's CONTRACTS AT THIS DUMP, IN PLAIN WORDS (tools/lay-plain.mjs out of 'TryzShelf.lean', which tools/lay-shelf.mjs wrote): THE SAME DECLARATIONS UNDER THE SAME NAMES: 'import', 'namespace', 'open', 'def', 'theorem' AND NOTHING ELSE: no command of the shelf's: FOR A HAND-IN. Each laying: the table of numbers ('.._ren') and one theorem, a field a fact of the dump's own or the kernel's comparison; each contract: ONE APPLICATION.
-/
import Derived.Shelf.LaysM
import Derived.Shelf.Sort.Plain
import Derived.Test.YtlmkglgjdmjnkaaGreatDoorProg
namespace Go.Proofs
open Go.Shelf
def Tryz.lays190_ren : Go.Shelf.Ren := ⟨fun | 190 => 48 | 125 => 83 | 258 => 82 | 128 => 122 | 129 => 123 | 302 => 113 | 303 => 114 | 304 => 115 | 305 => 116 | 306 => 117 | 307 => 118 | 308 => 119 | 309 => 120 | 310 => 121 | 333 => 149 | 329 => 150 | 330 => 151 | 334 => 152 | 335 => 153 | 336 => 154 | 344 => 180 | n => n, fun | 31 => 31 | 9 => 9 | 3 => 3 | 46 => 127 | 0 => 0 | 51 => 190 | 53 => 30 | 4 => 4 | 183 => 183 | 182 => 182 | 131 => 106 | 5 => 5 | 218 => 210 | 222 => 214 | 228 => 230 | 229 => 231 | n => n, fun | n => n⟩
theorem Tryz.lays190 : Go.Proofs.Lays.n190 Tryz.prog Tryz.lays190_ren := {
  mixed := by kernel_rfl
  f125 := Tryz.func83.trans (congrArg some (by kernel_rfl))
  f128 := Tryz.func122.trans (congrArg some (by kernel_rfl))
  f129 := Tryz.func123.trans (congrArg some (by kernel_rfl))
  f190 := Tryz.func48.trans (congrArg some (by kernel_rfl))
  f258 := Tryz.func82.trans (congrArg some (by kernel_rfl))
  f302 := Tryz.func113.trans (congrArg some (by kernel_rfl))
  f303 := Tryz.func114.trans (congrArg some (by kernel_rfl))
  f304 := Tryz.func115.trans (congrArg some (by kernel_rfl))
  f305 := Tryz.func116.trans (congrArg some (by kernel_rfl))
  f306 := Tryz.func117.trans (congrArg some (by kernel_rfl))
  f307 := Tryz.func118.trans (congrArg some (by kernel_rfl))
  f308 := Tryz.func119.trans (congrArg some (by kernel_rfl))
  f309 := Tryz.func120.trans (congrArg some (by kernel_rfl))
  f310 := Tryz.func121.trans (congrArg some (by kernel_rfl))
  f329 := Tryz.func150.trans (congrArg some (by kernel_rfl))
  f330 := Tryz.func151.trans (congrArg some (by kernel_rfl))
  f333 := Tryz.func149.trans (congrArg some (by kernel_rfl))
  f334 := Tryz.func152.trans (congrArg some (by kernel_rfl))
  f335 := Tryz.func153.trans (congrArg some (by kernel_rfl))
  f336 := Tryz.func154.trans (congrArg some (by kernel_rfl))
  f344 := Tryz.func180.trans (congrArg some (by kernel_rfl))
  t0 := Tryz.underlying0
  a0 := Tryz.isAgg0
  z0 := Tryz.sizeOf0
  v0 := Tryz.zeroValue0
  t3 := Tryz.underlying3
  a3 := Tryz.isAgg3
  z3 := Tryz.sizeOf3
  v3 := Tryz.zeroValue3
  t4 := Tryz.underlying4
  a4 := Tryz.isAgg4
  z4 := Tryz.sizeOf4
  v4 := Tryz.zeroValue4
  t5 := Tryz.underlying5
  a5 := Tryz.isAgg5
  z5 := Tryz.sizeOf5
  v5 := Tryz.zeroValue5
  t9 := Tryz.underlying9
  a9 := Tryz.isAgg9
  z9 := Tryz.sizeOf9
  v9 := Tryz.zeroValue9
  t31 := Tryz.underlying31
  a31 := Tryz.isAgg31
  z31 := Tryz.sizeOf31
  v31 := Tryz.zeroValue31
  t46 := Tryz.underlying127
  a46 := Tryz.isAgg127
  z46 := Tryz.sizeOf127
  v46 := Tryz.zeroValue127
  t51 := Tryz.underlying190
  a51 := Tryz.isAgg190
  z51 := Tryz.sizeOf190
  v51 := Tryz.zeroValue190
  t53 := Tryz.underlying30
  a53 := Tryz.isAgg30
  z53 := Tryz.sizeOf30
  v53 := Tryz.zeroValue30
  t131 := Tryz.underlying106
  a131 := Tryz.isAgg106
  z131 := Tryz.sizeOf106
  v131 := Tryz.zeroValue106
  t182 := Tryz.underlying182
  a182 := Tryz.isAgg182
  z182 := Tryz.sizeOf182
  v182 := Tryz.zeroValue182
  t183 := Tryz.underlying183
  a183 := Tryz.isAgg183
  z183 := Tryz.sizeOf183
  v183 := Tryz.zeroValue183
  t218 := Tryz.underlying210
  a218 := Tryz.isAgg210
  z218 := Tryz.sizeOf210
  v218 := Tryz.zeroValue210
  t222 := Tryz.underlying214
  a222 := Tryz.isAgg214
  z222 := Tryz.sizeOf214
  v222 := Tryz.zeroValue214
  t228 := Tryz.underlying230
  a228 := Tryz.isAgg230
  z228 := Tryz.sizeOf230
  v228 := Tryz.zeroValue230
  t229 := Tryz.underlying231
  a229 := Tryz.isAgg231
  z229 := Tryz.sizeOf231
  v229 := Tryz.zeroValue231 }
end Go.Proofs
