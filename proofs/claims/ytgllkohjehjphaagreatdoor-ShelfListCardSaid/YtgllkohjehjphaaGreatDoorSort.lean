/-
  DERIVED: THE SHELF's CONTRACTS AT THIS DUMP, IN PLAIN WORDS (tools/lay-plain.mjs out of 'TryzShelf.lean', which tools/lay-shelf.mjs wrote): THE SAME DECLARATIONS UNDER THE SAME NAMES: 'import', 'namespace', 'open', 'def', 'theorem' AND NOTHING ELSE: no command of the shelf's: FOR A HAND-IN. Each laying: the table of numbers ('.._ren') and one theorem, a field a fact of the dump's own or the kernel's comparison; each contract: ONE APPLICATION.
-/
import Derived.Shelf.SlGeneric
import Derived.Shelf.SlLaysF
import Derived.Ground.SlsfProg
import Derived.Test.YtgllkohjehjphaaGreatDoorProg
namespace Go.Proofs
open Go.Shelf
def Tryz.sortInt_ren : Go.Shelf.Ren := ⟨fun | 6 => 82 | 15 => 116 | 14 => 115 | 28 => 152 | 29 => 153 | 20 => 144 | 21 => 145 | 22 => 146 | 23 => 147 | 24 => 148 | 25 => 149 | 26 => 150 | 27 => 151 | 46 => 181 | 47 => 182 | 48 => 183 | 49 => 184 | 50 => 185 | 57 => 208 | n => n, fun | 22 => 43 | 24 => 3 | 25 => 49 | 3 => 3 | 39 => 95 | 0 => 0 | 53 => 165 | 55 => 33 | 4 => 4 | 46 => 158 | 45 => 157 | 50 => 162 | 5 => 5 | 9 => 9 | 66 => 180 | 70 => 184 | 76 => 207 | 77 => 208 | n => n, fun | n => n⟩
theorem Tryz.sortInt : Go.Proofs.SlLaysF.n6 Tryz.prog Tryz.sortInt_ren := {
  mixed := by kernel_rfl
  f6 := ⟨Tryz.f82.name, by decide, Tryz.func82.trans (congrArg some (by kernel_rfl))⟩
  f14 := ⟨Tryz.f115.name, by decide, Tryz.func115.trans (congrArg some (by kernel_rfl))⟩
  f15 := Tryz.func116.trans (congrArg some (by kernel_rfl))
  f20 := ⟨Tryz.f144.name, by decide, Tryz.func144.trans (congrArg some (by kernel_rfl))⟩
  f21 := ⟨Tryz.f145.name, by decide, Tryz.func145.trans (congrArg some (by kernel_rfl))⟩
  f22 := ⟨Tryz.f146.name, by decide, Tryz.func146.trans (congrArg some (by kernel_rfl))⟩
  f23 := ⟨Tryz.f147.name, by decide, Tryz.func147.trans (congrArg some (by kernel_rfl))⟩
  f24 := ⟨Tryz.f148.name, by decide, Tryz.func148.trans (congrArg some (by kernel_rfl))⟩
  f25 := ⟨Tryz.f149.name, by decide, Tryz.func149.trans (congrArg some (by kernel_rfl))⟩
  f26 := ⟨Tryz.f150.name, by decide, Tryz.func150.trans (congrArg some (by kernel_rfl))⟩
  f27 := ⟨Tryz.f151.name, by decide, Tryz.func151.trans (congrArg some (by kernel_rfl))⟩
  f28 := Tryz.func152.trans (congrArg some (by kernel_rfl))
  f29 := Tryz.func153.trans (congrArg some (by kernel_rfl))
  f46 := ⟨Tryz.f181.name, by decide, Tryz.func181.trans (congrArg some (by kernel_rfl))⟩
  f47 := Tryz.func182.trans (congrArg some (by kernel_rfl))
  f48 := Tryz.func183.trans (congrArg some (by kernel_rfl))
  f49 := ⟨Tryz.f184.name, by decide, Tryz.func184.trans (congrArg some (by kernel_rfl))⟩
  f50 := ⟨Tryz.f185.name, by decide, Tryz.func185.trans (congrArg some (by kernel_rfl))⟩
  f57 := ⟨Tryz.f208.name, by decide, Tryz.func208.trans (congrArg some (by kernel_rfl))⟩
  t0 := Tryz.underlying0
  a0 := Tryz.isAgg0
  z0 := Tryz.sizeOf0
  v0 := Tryz.zeroValue0
  t3 := Tryz.underlying3
  a3 := Tryz.isAgg3
  z3 := Tryz.sizeOf3
  v3 := Tryz.zeroValue3
  t4 := Tryz.underlying4
  a4 := Tryz.isAgg4
  z4 := Tryz.sizeOf4
  v4 := Tryz.zeroValue4
  t5 := Tryz.underlying5
  a5 := Tryz.isAgg5
  z5 := Tryz.sizeOf5
  v5 := Tryz.zeroValue5
  t9 := Tryz.underlying9
  a9 := Tryz.isAgg9
  z9 := Tryz.sizeOf9
  v9 := Tryz.zeroValue9
  t22 := Tryz.underlying43
  a22 := Tryz.isAgg43
  z22 := Tryz.sizeOf43
  v22 := Tryz.zeroValue43
  a24 := Tryz.isAgg3
  z24 := Tryz.sizeOf3
  t25 := Tryz.underlying49
  a25 := Tryz.isAgg49
  z25 := Tryz.sizeOf49
  v25 := Tryz.zeroValue49
  t39 := Tryz.underlying95
  a39 := Tryz.isAgg95
  z39 := Tryz.sizeOf95
  v39 := Tryz.zeroValue95
  t45 := Tryz.underlying157
  a45 := Tryz.isAgg157
  z45 := Tryz.sizeOf157
  v45 := Tryz.zeroValue157
  t46 := Tryz.underlying158
  a46 := Tryz.isAgg158
  z46 := Tryz.sizeOf158
  v46 := Tryz.zeroValue158
  t50 := Tryz.underlying162
  a50 := Tryz.isAgg162
  z50 := Tryz.sizeOf162
  v50 := Tryz.zeroValue162
  t53 := Tryz.underlying165
  a53 := Tryz.isAgg165
  z53 := Tryz.sizeOf165
  v53 := Tryz.zeroValue165
  t55 := Tryz.underlying33
  a55 := Tryz.isAgg33
  z55 := Tryz.sizeOf33
  v55 := Tryz.zeroValue33
  t66 := Tryz.underlying180
  a66 := Tryz.isAgg180
  z66 := Tryz.sizeOf180
  v66 := Tryz.zeroValue180
  t70 := Tryz.underlying184
  a70 := Tryz.isAgg184
  z70 := Tryz.sizeOf184
  v70 := Tryz.zeroValue184
  t76 := Tryz.underlying207
  a76 := Tryz.isAgg207
  z76 := Tryz.sizeOf207
  v76 := Tryz.zeroValue207
  t77 := Tryz.underlying208
  a77 := Tryz.isAgg208
  z77 := Tryz.sizeOf208
  v77 := Tryz.zeroValue208 }
end Go.Proofs
