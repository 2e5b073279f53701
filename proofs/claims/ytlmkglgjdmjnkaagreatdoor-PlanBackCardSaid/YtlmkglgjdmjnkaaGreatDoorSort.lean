/-
  DERIVED: THE SHELF's CONTRACTS AT THIS DUMP, IN PLAIN WORDS (tools/lay-plain.mjs out of 'TryzShelf.lean', which tools/lay-shelf.mjs wrote): THE SAME DECLARATIONS UNDER THE SAME NAMES: 'import', 'namespace', 'open', 'def', 'theorem' AND NOTHING ELSE: no command of the shelf's: FOR A HAND-IN. Each laying: the table of numbers ('.._ren') and one theorem, a field a fact of the dump's own or the kernel's comparison; each contract: ONE APPLICATION.
-/
import Derived.Shelf.SlGeneric
import Derived.Shelf.SlLaysF0
import Derived.Ground.SlsfProg
import Derived.Test.YtlmkglgjdmjnkaaGreatDoorProg
namespace Go.Proofs
open Go.Shelf
def Tryz.sortLock_ren : Go.Shelf.Ren := ⟨fun | 6 => 57 | 15 => 83 | 14 => 87 | 28 => 122 | 29 => 123 | 20 => 124 | 21 => 125 | 22 => 126 | 23 => 127 | 24 => 128 | 25 => 129 | 26 => 130 | 27 => 131 | 46 => 155 | 47 => 150 | 48 => 151 | 49 => 156 | 50 => 157 | 57 => 181 | n => n, fun | 22 => 24 | 24 => 33 | 25 => 67 | 3 => 3 | 39 => 127 | 0 => 0 | 53 => 190 | 55 => 30 | 4 => 4 | 46 => 183 | 45 => 182 | 50 => 106 | 5 => 5 | 9 => 9 | 66 => 210 | 70 => 214 | 76 => 230 | 77 => 231 | n => n, fun | n => n⟩
theorem Tryz.sortLock : Go.Proofs.SlLaysF0.n6 Tryz.prog Tryz.sortLock_ren := {
  mixed := by kernel_rfl
  f6 := ⟨Tryz.f57.name, by decide, Tryz.func57.trans (congrArg some (by kernel_rfl))⟩
  f14 := ⟨Tryz.f87.name, by decide, Tryz.func87.trans (congrArg some (by kernel_rfl))⟩
  f15 := Tryz.func83.trans (congrArg some (by kernel_rfl))
  f20 := ⟨Tryz.f124.name, by decide, Tryz.func124.trans (congrArg some (by kernel_rfl))⟩
  f21 := ⟨Tryz.f125.name, by decide, Tryz.func125.trans (congrArg some (by kernel_rfl))⟩
  f22 := ⟨Tryz.f126.name, by decide, Tryz.func126.trans (congrArg some (by kernel_rfl))⟩
  f23 := ⟨Tryz.f127.name, by decide, Tryz.func127.trans (congrArg some (by kernel_rfl))⟩
  f24 := ⟨Tryz.f128.name, by decide, Tryz.func128.trans (congrArg some (by kernel_rfl))⟩
  f25 := ⟨Tryz.f129.name, by decide, Tryz.func129.trans (congrArg some (by kernel_rfl))⟩
  f26 := ⟨Tryz.f130.name, by decide, Tryz.func130.trans (congrArg some (by kernel_rfl))⟩
  f27 := ⟨Tryz.f131.name, by decide, Tryz.func131.trans (congrArg some (by kernel_rfl))⟩
  f28 := Tryz.func122.trans (congrArg some (by kernel_rfl))
  f29 := Tryz.func123.trans (congrArg some (by kernel_rfl))
  f46 := ⟨Tryz.f155.name, by decide, Tryz.func155.trans (congrArg some (by kernel_rfl))⟩
  f47 := Tryz.func150.trans (congrArg some (by kernel_rfl))
  f48 := Tryz.func151.trans (congrArg some (by kernel_rfl))
  f49 := ⟨Tryz.f156.name, by decide, Tryz.func156.trans (congrArg some (by kernel_rfl))⟩
  f50 := ⟨Tryz.f157.name, by decide, Tryz.func157.trans (congrArg some (by kernel_rfl))⟩
  f57 := ⟨Tryz.f181.name, by decide, Tryz.func181.trans (congrArg some (by kernel_rfl))⟩
  t0 := Tryz.underlying0
  a0 := Tryz.isAgg0
  z0 := Tryz.sizeOf0
  v0 := Tryz.zeroValue0
  t3 := Tryz.underlying3
  a3 := Tryz.isAgg3
  z3 := Tryz.sizeOf3
  v3 := Tryz.zeroValue3
  t4 := Tryz.underlying4
  a4 := Tryz.isAgg4
  z4 := Tryz.sizeOf4
  v4 := Tryz.zeroValue4
  t5 := Tryz.underlying5
  a5 := Tryz.isAgg5
  z5 := Tryz.sizeOf5
  v5 := Tryz.zeroValue5
  t9 := Tryz.underlying9
  a9 := Tryz.isAgg9
  z9 := Tryz.sizeOf9
  v9 := Tryz.zeroValue9
  t22 := Tryz.underlying24
  a22 := Tryz.isAgg24
  z22 := Tryz.sizeOf24
  v22 := Tryz.zeroValue24
  t25 := Tryz.underlying67
  a25 := Tryz.isAgg67
  z25 := Tryz.sizeOf67
  v25 := Tryz.zeroValue67
  t39 := Tryz.underlying127
  a39 := Tryz.isAgg127
  z39 := Tryz.sizeOf127
  v39 := Tryz.zeroValue127
  t45 := Tryz.underlying182
  a45 := Tryz.isAgg182
  z45 := Tryz.sizeOf182
  v45 := Tryz.zeroValue182
  t46 := Tryz.underlying183
  a46 := Tryz.isAgg183
  z46 := Tryz.sizeOf183
  v46 := Tryz.zeroValue183
  t50 := Tryz.underlying106
  a50 := Tryz.isAgg106
  z50 := Tryz.sizeOf106
  v50 := Tryz.zeroValue106
  t53 := Tryz.underlying190
  a53 := Tryz.isAgg190
  z53 := Tryz.sizeOf190
  v53 := Tryz.zeroValue190
  t55 := Tryz.underlying30
  a55 := Tryz.isAgg30
  z55 := Tryz.sizeOf30
  v55 := Tryz.zeroValue30
  t66 := Tryz.underlying210
  a66 := Tryz.isAgg210
  z66 := Tryz.sizeOf210
  v66 := Tryz.zeroValue210
  t70 := Tryz.underlying214
  a70 := Tryz.isAgg214
  z70 := Tryz.sizeOf214
  v70 := Tryz.zeroValue214
  t76 := Tryz.underlying230
  a76 := Tryz.isAgg230
  z76 := Tryz.sizeOf230
  v76 := Tryz.zeroValue230
  t77 := Tryz.underlying231
  a77 := Tryz.isAgg231
  z77 := Tryz.sizeOf231
  v77 := Tryz.zeroValue231 }
end Go.Proofs
