/-
  DERIVED: THE SHELF's CONTRACTS AT THIS DUMP, IN PLAIN WORDS (tools/lay-plain.mjs out of 'TryzLaysSort.lean', which tools/lay-shelf.mjs wrote): THE SAME DECLARATIONS UNDER THE SAME NAMES: 'import', 'namespace', 'open', 'def', 'theorem' AND NOTHING ELSE: no command of the shelf's: FOR A HAND-IN. Each laying: the table of numbers ('.._ren') and one theorem, a field a fact of the dump's own or the kernel's comparison; each contract: ONE APPLICATION.
-/
import Derived.Shelf.SlGeneric
import Derived.Shelf.SlSortCmp.NoneTotal
import Derived.Ground.SlsfProg
import Derived.Test.YtcglmebcfeoedaaGreatDoorProg
namespace Go.Proofs
open Go.Shelf
def Tryz.sortSp_ren : Go.Shelf.Ren := ⟨fun | 6 => 157 | 15 => 227 | 14 => 226 | 28 => 273 | 29 => 274 | 20 => 265 | 21 => 266 | 22 => 267 | 23 => 268 | 24 => 269 | 25 => 270 | 26 => 271 | 27 => 272 | 46 => 298 | 47 => 299 | 48 => 300 | 49 => 301 | 50 => 302 | 57 => 308 | n => n, fun | 22 => 86 | 24 => 50 | 25 => 157 | 3 => 3 | 39 => 98 | 0 => 0 | 53 => 175 | 55 => 178 | 4 => 4 | 46 => 331 | 45 => 330 | 50 => 197 | 5 => 5 | 9 => 9 | 66 => 351 | 70 => 355 | 76 => 363 | 77 => 364 | n => n, fun | n => n⟩
theorem Tryz.sortSp : Go.Proofs.SlLaysF0.n6 Tryz.prog Tryz.sortSp_ren := {
  mixed := by kernel_rfl
  f6 := ⟨Tryz.f157.name, by decide, Tryz.func157.trans (congrArg some (by kernel_rfl))⟩
  f14 := ⟨Tryz.f226.name, by decide, Tryz.func226.trans (congrArg some (by kernel_rfl))⟩
  f15 := Tryz.func227.trans (congrArg some (by kernel_rfl))
  f20 := ⟨Tryz.f265.name, by decide, Tryz.func265.trans (congrArg some (by kernel_rfl))⟩
  f21 := ⟨Tryz.f266.name, by decide, Tryz.func266.trans (congrArg some (by kernel_rfl))⟩
  f22 := ⟨Tryz.f267.name, by decide, Tryz.func267.trans (congrArg some (by kernel_rfl))⟩
  f23 := ⟨Tryz.f268.name, by decide, Tryz.func268.trans (congrArg some (by kernel_rfl))⟩
  f24 := ⟨Tryz.f269.name, by decide, Tryz.func269.trans (congrArg some (by kernel_rfl))⟩
  f25 := ⟨Tryz.f270.name, by decide, Tryz.func270.trans (congrArg some (by kernel_rfl))⟩
  f26 := ⟨Tryz.f271.name, by decide, Tryz.func271.trans (congrArg some (by kernel_rfl))⟩
  f27 := ⟨Tryz.f272.name, by decide, Tryz.func272.trans (congrArg some (by kernel_rfl))⟩
  f28 := Tryz.func273.trans (congrArg some (by kernel_rfl))
  f29 := Tryz.func274.trans (congrArg some (by kernel_rfl))
  f46 := ⟨Tryz.f298.name, by decide, Tryz.func298.trans (congrArg some (by kernel_rfl))⟩
  f47 := Tryz.func299.trans (congrArg some (by kernel_rfl))
  f48 := Tryz.func300.trans (congrArg some (by kernel_rfl))
  f49 := ⟨Tryz.f301.name, by decide, Tryz.func301.trans (congrArg some (by kernel_rfl))⟩
  f50 := ⟨Tryz.f302.name, by decide, Tryz.func302.trans (congrArg some (by kernel_rfl))⟩
  f57 := ⟨Tryz.f308.name, by decide, Tryz.func308.trans (congrArg some (by kernel_rfl))⟩
  t0 := Tryz.underlying0
  a0 := Tryz.isAgg0
  z0 := Tryz.sizeOf0
  v0 := Tryz.zeroValue0
  t3 := Tryz.underlying3
  a3 := Tryz.isAgg3
  z3 := Tryz.sizeOf3
  v3 := Tryz.zeroValue3
  t4 := Tryz.underlying4
  a4 := Tryz.isAgg4
  z4 := Tryz.sizeOf4
  v4 := Tryz.zeroValue4
  t5 := Tryz.underlying5
  a5 := Tryz.isAgg5
  z5 := Tryz.sizeOf5
  v5 := Tryz.zeroValue5
  t9 := Tryz.underlying9
  a9 := Tryz.isAgg9
  z9 := Tryz.sizeOf9
  v9 := Tryz.zeroValue9
  t22 := Tryz.underlying86
  a22 := Tryz.isAgg86
  z22 := Tryz.sizeOf86
  v22 := Tryz.zeroValue86
  t25 := Tryz.underlying157
  a25 := Tryz.isAgg157
  z25 := Tryz.sizeOf157
  v25 := Tryz.zeroValue157
  t39 := Tryz.underlying98
  a39 := Tryz.isAgg98
  z39 := Tryz.sizeOf98
  v39 := Tryz.zeroValue98
  t45 := Tryz.underlying330
  a45 := Tryz.isAgg330
  z45 := Tryz.sizeOf330
  v45 := Tryz.zeroValue330
  t46 := Tryz.underlying331
  a46 := Tryz.isAgg331
  z46 := Tryz.sizeOf331
  v46 := Tryz.zeroValue331
  t50 := Tryz.underlying197
  a50 := Tryz.isAgg197
  z50 := Tryz.sizeOf197
  v50 := Tryz.zeroValue197
  t53 := Tryz.underlying175
  a53 := Tryz.isAgg175
  z53 := Tryz.sizeOf175
  v53 := Tryz.zeroValue175
  t55 := Tryz.underlying178
  a55 := Tryz.isAgg178
  z55 := Tryz.sizeOf178
  v55 := Tryz.zeroValue178
  t66 := Tryz.underlying351
  a66 := Tryz.isAgg351
  z66 := Tryz.sizeOf351
  v66 := Tryz.zeroValue351
  t70 := Tryz.underlying355
  a70 := Tryz.isAgg355
  z70 := Tryz.sizeOf355
  v70 := Tryz.zeroValue355
  t76 := Tryz.underlying363
  a76 := Tryz.isAgg363
  z76 := Tryz.sizeOf363
  v76 := Tryz.zeroValue363
  t77 := Tryz.underlying364
  a77 := Tryz.isAgg364
  z77 := Tryz.sizeOf364
  v77 := Tryz.zeroValue364 }
end Go.Proofs
