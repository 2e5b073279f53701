/-
  DERIVED: THE SHELF's CONTRACTS AT THIS DUMP, IN PLAIN WORDS (tools/lay-plain.mjs out of 'TryShelf.lean', which tools/lay-shelf.mjs wrote): THE SAME DECLARATIONS UNDER THE SAME NAMES: 'import', 'namespace', 'open', 'def', 'theorem' AND NOTHING ELSE: no command of the shelf's: FOR A HAND-IN. Each laying: the table of numbers ('.._ren') and one theorem, a field a fact of the dump's own or the kernel's comparison; each contract: ONE APPLICATION.
-/
import Derived.Shelf.SlGeneric
import Derived.Shelf.SlLaysF0
import Derived.Ground.SlsfProg
import Derived.Test.YtodicnjoimoiiaaProg
namespace Go.Proofs
open Go.Shelf
def Try.sortSpan_ren : Go.Shelf.Ren := ⟨fun | 6 => 36 | 15 => 52 | 14 => 51 | 28 => 74 | 29 => 75 | 20 => 66 | 21 => 67 | 22 => 68 | 23 => 69 | 24 => 70 | 25 => 71 | 26 => 72 | 27 => 73 | 46 => 89 | 47 => 90 | 48 => 91 | 49 => 92 | 50 => 93 | 57 => 99 | n => n, fun | 22 => 22 | 24 => 37 | 25 => 50 | 3 => 3 | 39 => 65 | 0 => 0 | 53 => 81 | 55 => 83 | 4 => 4 | 46 => 74 | 45 => 73 | 50 => 78 | 5 => 5 | 9 => 9 | 66 => 91 | 70 => 95 | 76 => 98 | 77 => 99 | n => n, fun | n => n⟩
theorem Try.sortSpan : Go.Proofs.SlLaysF0.n6 Try.prog Try.sortSpan_ren := {
  mixed := by kernel_rfl
  f6 := ⟨Try.f36.name, by decide, Try.func36.trans (congrArg some (by kernel_rfl))⟩
  f14 := ⟨Try.f51.name, by decide, Try.func51.trans (congrArg some (by kernel_rfl))⟩
  f15 := Try.func52.trans (congrArg some (by kernel_rfl))
  f20 := ⟨Try.f66.name, by decide, Try.func66.trans (congrArg some (by kernel_rfl))⟩
  f21 := ⟨Try.f67.name, by decide, Try.func67.trans (congrArg some (by kernel_rfl))⟩
  f22 := ⟨Try.f68.name, by decide, Try.func68.trans (congrArg some (by kernel_rfl))⟩
  f23 := ⟨Try.f69.name, by decide, Try.func69.trans (congrArg some (by kernel_rfl))⟩
  f24 := ⟨Try.f70.name, by decide, Try.func70.trans (congrArg some (by kernel_rfl))⟩
  f25 := ⟨Try.f71.name, by decide, Try.func71.trans (congrArg some (by kernel_rfl))⟩
  f26 := ⟨Try.f72.name, by decide, Try.func72.trans (congrArg some (by kernel_rfl))⟩
  f27 := ⟨Try.f73.name, by decide, Try.func73.trans (congrArg some (by kernel_rfl))⟩
  f28 := Try.func74.trans (congrArg some (by kernel_rfl))
  f29 := Try.func75.trans (congrArg some (by kernel_rfl))
  f46 := ⟨Try.f89.name, by decide, Try.func89.trans (congrArg some (by kernel_rfl))⟩
  f47 := Try.func90.trans (congrArg some (by kernel_rfl))
  f48 := Try.func91.trans (congrArg some (by kernel_rfl))
  f49 := ⟨Try.f92.name, by decide, Try.func92.trans (congrArg some (by kernel_rfl))⟩
  f50 := ⟨Try.f93.name, by decide, Try.func93.trans (congrArg some (by kernel_rfl))⟩
  f57 := ⟨Try.f99.name, by decide, Try.func99.trans (congrArg some (by kernel_rfl))⟩
  t0 := Try.underlying0
  a0 := Try.isAgg0
  z0 := Try.sizeOf0
  v0 := Try.zeroValue0
  t3 := Try.underlying3
  a3 := Try.isAgg3
  z3 := Try.sizeOf3
  v3 := Try.zeroValue3
  t4 := Try.underlying4
  a4 := Try.isAgg4
  z4 := Try.sizeOf4
  v4 := Try.zeroValue4
  t5 := Try.underlying5
  a5 := Try.isAgg5
  z5 := Try.sizeOf5
  v5 := Try.zeroValue5
  t9 := Try.underlying9
  a9 := Try.isAgg9
  z9 := Try.sizeOf9
  v9 := Try.zeroValue9
  t22 := Try.underlying22
  a22 := Try.isAgg22
  z22 := Try.sizeOf22
  v22 := Try.zeroValue22
  t25 := Try.underlying50
  a25 := Try.isAgg50
  z25 := Try.sizeOf50
  v25 := Try.zeroValue50
  t39 := Try.underlying65
  a39 := Try.isAgg65
  z39 := Try.sizeOf65
  v39 := Try.zeroValue65
  t45 := Try.underlying73
  a45 := Try.isAgg73
  z45 := Try.sizeOf73
  v45 := Try.zeroValue73
  t46 := Try.underlying74
  a46 := Try.isAgg74
  z46 := Try.sizeOf74
  v46 := Try.zeroValue74
  t50 := Try.underlying78
  a50 := Try.isAgg78
  z50 := Try.sizeOf78
  v50 := Try.zeroValue78
  t53 := Try.underlying81
  a53 := Try.isAgg81
  z53 := Try.sizeOf81
  v53 := Try.zeroValue81
  t55 := Try.underlying83
  a55 := Try.isAgg83
  z55 := Try.sizeOf83
  v55 := Try.zeroValue83
  t66 := Try.underlying91
  a66 := Try.isAgg91
  z66 := Try.sizeOf91
  v66 := Try.zeroValue91
  t70 := Try.underlying95
  a70 := Try.isAgg95
  z70 := Try.sizeOf95
  v70 := Try.zeroValue95
  t76 := Try.underlying98
  a76 := Try.isAgg98
  z76 := Try.sizeOf98
  v76 := Try.zeroValue98
  t77 := Try.underlying99
  a77 := Try.isAgg99
  z77 := Try.sizeOf99
  v77 := Try.zeroValue99 }
end Go.Proofs
