/-
  DERIVED: THE SHELF's CONTRACTS AT THIS DUMP, IN PLAIN WORDS (tools/lay-plain.mjs out of 'TryzLaysSort.lean', which tools/lay-shelf.mjs wrote): THE SAME DECLARATIONS UNDER THE SAME NAMES: 'import', 'namespace', 'open', 'def', 'theorem' AND NOTHING ELSE: no command of the shelf's: FOR A HAND-IN. Each laying: the table of numbers ('.._ren') and one theorem, a field a fact of the dump's own or the kernel's comparison; each contract: ONE APPLICATION.
-/
import Derived.Shelf.SlGeneric
import Derived.Shelf.SlSortCmp.NoneTotal
import Derived.Ground.SlsfProg
import Derived.Test.YtbpfkmpkadimeaaGreatDoorProg
namespace Go.Proofs
open Go.Shelf
def Tryz.sortSp_ren : Go.Shelf.Ren := ⟨fun | 6 => 135 | 15 => 210 | 14 => 209 | 28 => 271 | 29 => 272 | 20 => 263 | 21 => 264 | 22 => 265 | 23 => 266 | 24 => 267 | 25 => 268 | 26 => 269 | 27 => 270 | 46 => 314 | 47 => 315 | 48 => 316 | 49 => 317 | 50 => 318 | 57 => 338 | n => n, fun | 22 => 64 | 24 => 50 | 25 => 126 | 3 => 3 | 39 => 103 | 0 => 0 | 53 => 180 | 55 => 183 | 4 => 4 | 46 => 321 | 45 => 320 | 50 => 163 | 5 => 5 | 9 => 9 | 66 => 374 | 70 => 378 | 76 => 391 | 77 => 392 | n => n, fun | n => n⟩
theorem Tryz.sortSp : Go.Proofs.SlLaysF0.n6 Tryz.prog Tryz.sortSp_ren := {
  mixed := by kernel_rfl
  f6 := ⟨Tryz.f135.name, by decide, Tryz.func135.trans (congrArg some (by kernel_rfl))⟩
  f14 := ⟨Tryz.f209.name, by decide, Tryz.func209.trans (congrArg some (by kernel_rfl))⟩
  f15 := Tryz.func210.trans (congrArg some (by kernel_rfl))
  f20 := ⟨Tryz.f263.name, by decide, Tryz.func263.trans (congrArg some (by kernel_rfl))⟩
  f21 := ⟨Tryz.f264.name, by decide, Tryz.func264.trans (congrArg some (by kernel_rfl))⟩
  f22 := ⟨Tryz.f265.name, by decide, Tryz.func265.trans (congrArg some (by kernel_rfl))⟩
  f23 := ⟨Tryz.f266.name, by decide, Tryz.func266.trans (congrArg some (by kernel_rfl))⟩
  f24 := ⟨Tryz.f267.name, by decide, Tryz.func267.trans (congrArg some (by kernel_rfl))⟩
  f25 := ⟨Tryz.f268.name, by decide, Tryz.func268.trans (congrArg some (by kernel_rfl))⟩
  f26 := ⟨Tryz.f269.name, by decide, Tryz.func269.trans (congrArg some (by kernel_rfl))⟩
  f27 := ⟨Tryz.f270.name, by decide, Tryz.func270.trans (congrArg some (by kernel_rfl))⟩
  f28 := Tryz.func271.trans (congrArg some (by kernel_rfl))
  f29 := Tryz.func272.trans (congrArg some (by kernel_rfl))
  f46 := ⟨Tryz.f314.name, by decide, Tryz.func314.trans (congrArg some (by kernel_rfl))⟩
  f47 := Tryz.func315.trans (congrArg some (by kernel_rfl))
  f48 := Tryz.func316.trans (congrArg some (by kernel_rfl))
  f49 := ⟨Tryz.f317.name, by decide, Tryz.func317.trans (congrArg some (by kernel_rfl))⟩
  f50 := ⟨Tryz.f318.name, by decide, Tryz.func318.trans (congrArg some (by kernel_rfl))⟩
  f57 := ⟨Tryz.f338.name, by decide, Tryz.func338.trans (congrArg some (by kernel_rfl))⟩
  t0 := Tryz.underlying0
  a0 := Tryz.isAgg0
  z0 := Tryz.sizeOf0
  v0 := Tryz.zeroValue0
  t3 := Tryz.underlying3
  a3 := Tryz.isAgg3
  z3 := Tryz.sizeOf3
  v3 := Tryz.zeroValue3
  t4 := Tryz.underlying4
  a4 := Tryz.isAgg4
  z4 := Tryz.sizeOf4
  v4 := Tryz.zeroValue4
  t5 := Tryz.underlying5
  a5 := Tryz.isAgg5
  z5 := Tryz.sizeOf5
  v5 := Tryz.zeroValue5
  t9 := Tryz.underlying9
  a9 := Tryz.isAgg9
  z9 := Tryz.sizeOf9
  v9 := Tryz.zeroValue9
  t22 := Tryz.underlying64
  a22 := Tryz.isAgg64
  z22 := Tryz.sizeOf64
  v22 := Tryz.zeroValue64
  t25 := Tryz.underlying126
  a25 := Tryz.isAgg126
  z25 := Tryz.sizeOf126
  v25 := Tryz.zeroValue126
  t39 := Tryz.underlying103
  a39 := Tryz.isAgg103
  z39 := Tryz.sizeOf103
  v39 := Tryz.zeroValue103
  t45 := Tryz.underlying320
  a45 := Tryz.isAgg320
  z45 := Tryz.sizeOf320
  v45 := Tryz.zeroValue320
  t46 := Tryz.underlying321
  a46 := Tryz.isAgg321
  z46 := Tryz.sizeOf321
  v46 := Tryz.zeroValue321
  t50 := Tryz.underlying163
  a50 := Tryz.isAgg163
  z50 := Tryz.sizeOf163
  v50 := Tryz.zeroValue163
  t53 := Tryz.underlying180
  a53 := Tryz.isAgg180
  z53 := Tryz.sizeOf180
  v53 := Tryz.zeroValue180
  t55 := Tryz.underlying183
  a55 := Tryz.isAgg183
  z55 := Tryz.sizeOf183
  v55 := Tryz.zeroValue183
  t66 := Tryz.underlying374
  a66 := Tryz.isAgg374
  z66 := Tryz.sizeOf374
  v66 := Tryz.zeroValue374
  t70 := Tryz.underlying378
  a70 := Tryz.isAgg378
  z70 := Tryz.sizeOf378
  v70 := Tryz.zeroValue378
  t76 := Tryz.underlying391
  a76 := Tryz.isAgg391
  z76 := Tryz.sizeOf391
  v76 := Tryz.zeroValue391
  t77 := Tryz.underlying392
  a77 := Tryz.isAgg392
  z77 := Tryz.sizeOf392
  v77 := Tryz.zeroValue392 }
end Go.Proofs
