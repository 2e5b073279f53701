/-
  DERIVED: THE SHELF's CONTRACTS AT THIS DUMP, IN PLAIN WORDS (tools/lay-plain.mjs out of 'TryzShelf.lean', which tools/lay-shelf.mjs wrote): THE SAME DECLARATIONS UNDER THE SAME NAMES: 'import', 'namespace', 'open', 'def', 'theorem' AND NOTHING ELSE: no command of the shelf's: FOR A HAND-IN. Each laying: the table of numbers ('.._ren') and one theorem, a field a fact of the dump's own or the kernel's comparison; each contract: ONE APPLICATION.
-/
import Derived.Shelf.SlGeneric
import Derived.Shelf.SlLaysF0
import Derived.Ground.SlsfProg
import Derived.Test.YtplmlahpmnjneaaGreatDoorProg
namespace Go.Proofs
open Go.Shelf
def Tryz.sortSpan_ren : Go.Shelf.Ren := ⟨fun | 6 => 203 | 15 => 227 | 14 => 226 | 28 => 241 | 29 => 242 | 20 => 233 | 21 => 234 | 22 => 235 | 23 => 236 | 24 => 237 | 25 => 238 | 26 => 239 | 27 => 240 | 46 => 249 | 47 => 250 | 48 => 251 | 49 => 252 | 50 => 253 | 57 => 258 | n => n, fun | 22 => 22 | 24 => 100 | 25 => 185 | 3 => 3 | 39 => 180 | 0 => 0 | 53 => 188 | 55 => 198 | 4 => 4 | 46 => 205 | 45 => 204 | 50 => 156 | 5 => 5 | 9 => 9 | 66 => 216 | 70 => 220 | 76 => 225 | 77 => 226 | n => n, fun | n => n⟩
theorem Tryz.sortSpan : Go.Proofs.SlLaysF0.n6 Tryz.prog Tryz.sortSpan_ren := {
  mixed := by kernel_rfl
  f6 := ⟨Tryz.f203.name, by decide, Tryz.func203.trans (congrArg some (by kernel_rfl))⟩
  f14 := ⟨Tryz.f226.name, by decide, Tryz.func226.trans (congrArg some (by kernel_rfl))⟩
  f15 := Tryz.func227.trans (congrArg some (by kernel_rfl))
  f20 := ⟨Tryz.f233.name, by decide, Tryz.func233.trans (congrArg some (by kernel_rfl))⟩
  f21 := ⟨Tryz.f234.name, by decide, Tryz.func234.trans (congrArg some (by kernel_rfl))⟩
  f22 := ⟨Tryz.f235.name, by decide, Tryz.func235.trans (congrArg some (by kernel_rfl))⟩
  f23 := ⟨Tryz.f236.name, by decide, Tryz.func236.trans (congrArg some (by kernel_rfl))⟩
  f24 := ⟨Tryz.f237.name, by decide, Tryz.func237.trans (congrArg some (by kernel_rfl))⟩
  f25 := ⟨Tryz.f238.name, by decide, Tryz.func238.trans (congrArg some (by kernel_rfl))⟩
  f26 := ⟨Tryz.f239.name, by decide, Tryz.func239.trans (congrArg some (by kernel_rfl))⟩
  f27 := ⟨Tryz.f240.name, by decide, Tryz.func240.trans (congrArg some (by kernel_rfl))⟩
  f28 := Tryz.func241.trans (congrArg some (by kernel_rfl))
  f29 := Tryz.func242.trans (congrArg some (by kernel_rfl))
  f46 := ⟨Tryz.f249.name, by decide, Tryz.func249.trans (congrArg some (by kernel_rfl))⟩
  f47 := Tryz.func250.trans (congrArg some (by kernel_rfl))
  f48 := Tryz.func251.trans (congrArg some (by kernel_rfl))
  f49 := ⟨Tryz.f252.name, by decide, Tryz.func252.trans (congrArg some (by kernel_rfl))⟩
  f50 := ⟨Tryz.f253.name, by decide, Tryz.func253.trans (congrArg some (by kernel_rfl))⟩
  f57 := ⟨Tryz.f258.name, by decide, Tryz.func258.trans (congrArg some (by kernel_rfl))⟩
  t0 := Tryz.underlying0
  a0 := Tryz.isAgg0
  z0 := Tryz.sizeOf0
  v0 := Tryz.zeroValue0
  t3 := Tryz.underlying3
  a3 := Tryz.isAgg3
  z3 := Tryz.sizeOf3
  v3 := Tryz.zeroValue3
  t4 := Tryz.underlying4
  a4 := Tryz.isAgg4
  z4 := Tryz.sizeOf4
  v4 := Tryz.zeroValue4
  t5 := Tryz.underlying5
  a5 := Tryz.isAgg5
  z5 := Tryz.sizeOf5
  v5 := Tryz.zeroValue5
  t9 := Tryz.underlying9
  a9 := Tryz.isAgg9
  z9 := Tryz.sizeOf9
  v9 := Tryz.zeroValue9
  t22 := Tryz.underlying22
  a22 := Tryz.isAgg22
  z22 := Tryz.sizeOf22
  v22 := Tryz.zeroValue22
  t25 := Tryz.underlying185
  a25 := Tryz.isAgg185
  z25 := Tryz.sizeOf185
  v25 := Tryz.zeroValue185
  t39 := Tryz.underlying180
  a39 := Tryz.isAgg180
  z39 := Tryz.sizeOf180
  v39 := Tryz.zeroValue180
  t45 := Tryz.underlying204
  a45 := Tryz.isAgg204
  z45 := Tryz.sizeOf204
  v45 := Tryz.zeroValue204
  t46 := Tryz.underlying205
  a46 := Tryz.isAgg205
  z46 := Tryz.sizeOf205
  v46 := Tryz.zeroValue205
  t50 := Tryz.underlying156
  a50 := Tryz.isAgg156
  z50 := Tryz.sizeOf156
  v50 := Tryz.zeroValue156
  t53 := Tryz.underlying188
  a53 := Tryz.isAgg188
  z53 := Tryz.sizeOf188
  v53 := Tryz.zeroValue188
  t55 := Tryz.underlying198
  a55 := Tryz.isAgg198
  z55 := Tryz.sizeOf198
  v55 := Tryz.zeroValue198
  t66 := Tryz.underlying216
  a66 := Tryz.isAgg216
  z66 := Tryz.sizeOf216
  v66 := Tryz.zeroValue216
  t70 := Tryz.underlying220
  a70 := Tryz.isAgg220
  z70 := Tryz.sizeOf220
  v70 := Tryz.zeroValue220
  t76 := Tryz.underlying225
  a76 := Tryz.isAgg225
  z76 := Tryz.sizeOf225
  v76 := Tryz.zeroValue225
  t77 := Tryz.underlying226
  a77 := Tryz.isAgg226
  z77 := Tryz.sizeOf226
  v77 := Tryz.zeroValue226 }
end Go.Proofs
