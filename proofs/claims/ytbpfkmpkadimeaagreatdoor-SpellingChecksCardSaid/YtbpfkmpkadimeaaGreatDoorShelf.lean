/-
  DERIVED: THE SHELF's CONTRACTS AT THIS DUMP, IN PLAIN WORDS (tools/lay-plain.mjs out of 'TryzShelf.lean', which tools/lay-shelf.mjs wrote): THE SAME DECLARATIONS UNDER THE SAME NAMES: 'import', 'namespace', 'open', 'def', 'theorem' AND NOTHING ELSE: no command of the shelf's: FOR A HAND-IN. Each laying: the table of numbers ('.._ren') and one theorem, a field a fact of the dump's own or the kernel's comparison; each contract: ONE APPLICATION.
-/
import Derived.Shelf.Strings.Builder1
import Derived.Shelf.Strings.Builder2
import Derived.Shelf.Strings.OnBuilder
import Derived.Shelf.Small.Utf8
import Derived.Shelf.Small.Bits
import Derived.Shelf.Small.Strs
import Derived.Shelf.Small.Wraps
import Derived.Shelf.Strings.BuilderF
import Derived.Shelf.Strconv.Atoi
import Derived.Shelf.Strconv.Itoa0
import Derived.Shelf.Strconv.Itoa1
import Derived.Shelf.LaysM
import Derived.Shelf.Strconv.Itoa2
import Derived.Shelf.Strconv.Itoa3
import Derived.Shelf.Strconv.AtoiErrFast
import Derived.Shelf.Strconv.ParseIntEmpty
import Derived.Shelf.Strconv.AtoiFail
import Derived.Shelf.Strconv.Clone
import Derived.Shelf.Strconv.SyntaxError
import Derived.Shelf.LaysC
import Derived.Shelf.Strconv.ToError
import Derived.Shelf.Strconv.Lower
import Derived.Shelf.Strconv.ParseUint10
import Derived.Shelf.Strconv.ParseUint10Empty
import Derived.Shelf.Strconv.ParseUint10Any
import Derived.Shelf.Strconv.ParseInt10
import Derived.Shelf.Strconv.AtoiLong
import Derived.Shelf.Strconv.AtoiInnerAll
import Derived.Shelf.Strconv.RangeError
import Derived.Shelf.Strconv.ToErrorRange
import Derived.Shelf.Strconv.AtoiAll
import Derived.Shelf.Strconv.ErrVarAll
import Derived.Shelf.Strconv.ParseUintEmpty
import Derived.Shelf.Strconv.ParseUint10b64
import Derived.Shelf.Strconv.ParseUint10b32
import Derived.Shelf.Strconv.ParseUint10b16
import Derived.Shelf.Strconv.ParseUint10b8
import Derived.Shelf.Strconv.ParseUint10At
import Derived.Shelf.Strconv.ParseInt10At64
import Derived.Shelf.Strconv.ParseInt10At32
import Derived.Shelf.Strconv.ParseInt10At16
import Derived.Shelf.Strconv.ParseInt10At8
import Derived.Shelf.Strconv.ParseInt10All
import Derived.Shelf.Strconv.ParseIntPublic10
import Derived.Shelf.Strconv.ErrVarParseInt
import Derived.Shelf.Strings.Search1
import Derived.Shelf.Strings.Search2
import Derived.Shelf.Strings.Search3
import Derived.Shelf.Strings.Count
import Derived.Shelf.Strings.Shaped
import Derived.Shelf.Strings.Prefix
import Derived.Shelf.Strings.Split
import Derived.Shelf.Strings.SplitShaped
import Derived.Shelf.Strings.Runes
import Derived.Shelf.Strings.IndexAny
import Derived.Shelf.Strings.AsciiSet
import Derived.Shelf.Strings.IndexAnyAll
import Derived.Shelf.Bits.Mul64
import Derived.Shelf.Strings.Repeat
import Derived.Shelf.Unicode.DecodeSlow
import Derived.Shelf.Slices.Equal
import Derived.Ground.Names2Prog
import Derived.Shelf.Slices.Clone
import Derived.Shelf.Slices.SearchI
import Derived.Shelf.Slices.Empties2
import Derived.Ground.SlgnProg
import Derived.Shelf.SlicesE.Equal
import Derived.Shelf.SlicesE.Clone
import Derived.Test.YtbpfkmpkadimeaaGreatDoorProg
namespace Go.Proofs
def Tryz.lays122_ren : Go.Shelf.Ren := ⟨fun | 122 => 138 | 215 => 211 | n => n, fun | 3 => 3 | 4 => 4 | n => n, fun | n => n⟩
theorem Tryz.lays122 : Go.Proofs.Lays.n122 Tryz.prog Tryz.lays122_ren := {
  mixed := by kernel_rfl
  f122 := Tryz.func138.trans (congrArg some (by kernel_rfl))
  f215 := Tryz.func211.trans (congrArg some (by kernel_rfl))
  t3 := Tryz.underlying3
  a3 := Tryz.isAgg3
  z3 := Tryz.sizeOf3
  v3 := Tryz.zeroValue3
  t4 := Tryz.underlying4
  a4 := Tryz.isAgg4
  z4 := Tryz.sizeOf4
  v4 := Tryz.zeroValue4 }
open Go.RowKit in
/-- cmp.Compare at int: "Compare returns -1 if x is less than y, 0 if x equals y, +1 if x is greater than y.": IT RETURNS 'Lib.compareInt x y'; the world is as it was. (LAID: no walk: one application.) -/
theorem Tryz.cmp_Compare_int (x y : Int) (w : World) :
    Calls Tryz.prog 138 #[.int .i64 x, .int .i64 y] w fun e w' => e = .returned (.int .i64 (Lib.compareInt x y)) ∧ w' = w := Any.cmp_Compare_int Tryz.lays122 x y w
def Tryz.laysM171_ren : Go.Shelf.Ren := ⟨fun | 171 => 89 | 243 => 171 | 246 => 238 | 283 => 291 | 284 => 292 | 285 => 293 | 286 => 294 | 129 => 272 | 317 => 327 | 318 => 328 | 319 => 329 | 320 => 330 | 337 => 342 | 338 => 343 | n => n, fun | 3 => 3 | 9 => 9 | 2 => 2 | 4 => 4 | 171 => 346 | 0 => 0 | 53 => 183 | 37 => 92 | 5 => 5 | 173 => 348 | 212 => 384 | 51 => 180 | 20 => 20 | 213 => 385 | 46 => 103 | 232 => 402 | 233 => 403 | n => n, fun | 17 => 2 | 18 => 6 | 19 => 7 | n => n⟩
theorem Tryz.laysM171 : Go.Proofs.LaysM.n171 Tryz.prog Tryz.laysM171_ren := {
  mixed := by kernel_rfl
  f129 := Tryz.func272.trans (congrArg some (by kernel_rfl))
  f171 := Tryz.func89.trans (congrArg some (by kernel_rfl))
  f243 := Tryz.func171.trans (congrArg some (by kernel_rfl))
  f246 := Tryz.func238.trans (congrArg some (by kernel_rfl))
  f283 := Tryz.func291.trans (congrArg some (by kernel_rfl))
  f284 := Tryz.func292.trans (congrArg some (by kernel_rfl))
  f285 := Tryz.func293.trans (congrArg some (by kernel_rfl))
  f286 := Tryz.func294.trans (congrArg some (by kernel_rfl))
  f317 := Tryz.func327.trans (congrArg some (by kernel_rfl))
  f318 := Tryz.func328.trans (congrArg some (by kernel_rfl))
  f319 := Tryz.func329.trans (congrArg some (by kernel_rfl))
  f320 := Tryz.func330.trans (congrArg some (by kernel_rfl))
  f337 := Tryz.func342.trans (congrArg some (by kernel_rfl))
  f338 := Tryz.func343.trans (congrArg some (by kernel_rfl))
  t0 := Tryz.underlying0
  a0 := Tryz.isAgg0
  z0 := Tryz.sizeOf0
  v0 := Tryz.zeroValue0
  t2 := Tryz.underlying2
  a2 := Tryz.isAgg2
  z2 := Tryz.sizeOf2
  v2 := Tryz.zeroValue2
  t3 := Tryz.underlying3
  a3 := Tryz.isAgg3
  z3 := Tryz.sizeOf3
  v3 := Tryz.zeroValue3
  t4 := Tryz.underlying4
  a4 := Tryz.isAgg4
  z4 := Tryz.sizeOf4
  v4 := Tryz.zeroValue4
  t5 := Tryz.underlying5
  a5 := Tryz.isAgg5
  z5 := Tryz.sizeOf5
  v5 := Tryz.zeroValue5
  t9 := Tryz.underlying9
  a9 := Tryz.isAgg9
  z9 := Tryz.sizeOf9
  v9 := Tryz.zeroValue9
  t20 := Tryz.underlying20
  a20 := Tryz.isAgg20
  z20 := Tryz.sizeOf20
  v20 := Tryz.zeroValue20
  t37 := Tryz.underlying92
  a37 := Tryz.isAgg92
  z37 := Tryz.sizeOf92
  v37 := Tryz.zeroValue92
  t46 := Tryz.underlying103
  a46 := Tryz.isAgg103
  z46 := Tryz.sizeOf103
  v46 := Tryz.zeroValue103
  t51 := Tryz.underlying180
  a51 := Tryz.isAgg180
  z51 := Tryz.sizeOf180
  v51 := Tryz.zeroValue180
  t53 := Tryz.underlying183
  a53 := Tryz.isAgg183
  z53 := Tryz.sizeOf183
  v53 := Tryz.zeroValue183
  t171 := Tryz.underlying346
  a171 := Tryz.isAgg346
  z171 := Tryz.sizeOf346
  v171 := Tryz.zeroValue346
  t173 := Tryz.underlying348
  a173 := Tryz.isAgg348
  z173 := Tryz.sizeOf348
  v173 := Tryz.zeroValue348
  t212 := Tryz.underlying384
  a212 := Tryz.isAgg384
  z212 := Tryz.sizeOf384
  v212 := Tryz.zeroValue384
  t213 := Tryz.underlying385
  a213 := Tryz.isAgg385
  z213 := Tryz.sizeOf385
  t232 := Tryz.underlying402
  a232 := Tryz.isAgg402
  z232 := Tryz.sizeOf402
  v232 := Tryz.zeroValue402
  t233 := Tryz.underlying403
  a233 := Tryz.isAgg403
  z233 := Tryz.sizeOf403
  v233 := Tryz.zeroValue403
  g17 := by kernel_rfl
  g18 := by kernel_rfl
  g19 := by kernel_rfl
  i0 := by kernel_rfl
  i2 := by kernel_rfl
  i3 := by kernel_rfl
  i4 := by kernel_rfl
  i5 := by kernel_rfl
  i9 := by kernel_rfl
  i20 := by kernel_rfl
  i37 := by kernel_rfl
  i46 := by kernel_rfl
  i51 := by kernel_rfl
  i53 := by kernel_rfl
  i171 := by kernel_rfl
  i173 := by kernel_rfl
  i212 := by kernel_rfl
  i232 := by kernel_rfl
  i233 := by kernel_rfl
  m17 := by kernel_rfl
  m18 := by kernel_rfl
  m19 := by kernel_rfl }
open Go.RowKit Go.Sort Go.Lib in
/-- strconv.Itoa: "Itoa is equivalent to FormatInt(int64(i), 10).": i's DECIMAL NUMERAL ('Lib.itoa': a '-' where i is negative, then the digits), FOR EVERY int. The world behind the call: the world before it, new blocks behind the heap (the library's 'var a [24]byte'), draws. (LAID: no walk: one application.) -/
theorem Tryz.strconv_Itoa (n : Int) (h0 : -9223372036854775808 ≤ n) (h1 : n ≤ 9223372036854775807) (w : World) (htab : Lib.TabIs Tryz.prog w "internal/strconv.uint64pow10" .u64 Lib.pow10Tab) :
    Calls Tryz.prog 89 #[.int .i64 n] w fun e w' => e = .returned (.string ⟨(Lib.itoa n).toArray⟩) ∧ ∃ k os, w' = grow (w.drewN k) os := Any.strconv_Itoa Tryz.laysM171 n h0 h1 w htab
def Tryz.laysC172_ren : Go.Shelf.Ren := ⟨fun | 172 => 95 | 244 => 179 | 245 => 180 | 247 => 248 | 279 => 249 | 280 => 250 | 281 => 251 | 282 => 252 | 287 => 305 | 316 => 306 | 171 => 89 | 205 => 307 | 321 => 334 | 322 => 335 | 243 => 171 | 246 => 238 | 283 => 291 | 284 => 292 | 285 => 293 | 286 => 294 | 129 => 272 | 317 => 327 | 318 => 328 | 319 => 329 | 320 => 330 | 337 => 342 | 338 => 343 | n => n, fun | 9 => 9 | 3 => 3 | 75 => 156 | 76 => 157 | 4 => 4 | 5 => 5 | 167 => 311 | 37 => 92 | 0 => 0 | 85 => 272 | 2 => 2 | 168 => 312 | 53 => 183 | 175 => 360 | 46 => 103 | 210 => 364 | 127 => 303 | 145 => 389 | 143 => 387 | 21 => 21 | 171 => 346 | 173 => 348 | 212 => 384 | 51 => 180 | 20 => 20 | 213 => 385 | 232 => 402 | 233 => 403 | 80 => 243 | n => n, fun | 15 => 0 | 16 => 1 | 17 => 2 | 18 => 6 | 19 => 7 | n => n⟩
theorem Tryz.laysC172 : Go.Proofs.LaysC.n172 Tryz.prog Tryz.laysC172_ren := {
  mixed := by kernel_rfl
  f129 := Tryz.func272.trans (congrArg some (by kernel_rfl))
  f171 := Tryz.func89.trans (congrArg some (by kernel_rfl))
  f172 := Tryz.func95.trans (congrArg some (by kernel_rfl))
  f205 := Tryz.func307.trans (congrArg some (by kernel_rfl))
  f243 := Tryz.func171.trans (congrArg some (by kernel_rfl))
  f244 := Tryz.func179.trans (congrArg some (by kernel_rfl))
  f245 := Tryz.func180.trans (congrArg some (by kernel_rfl))
  f246 := Tryz.func238.trans (congrArg some (by kernel_rfl))
  f247 := Tryz.func248.trans (congrArg some (by kernel_rfl))
  f279 := Tryz.func249.trans (congrArg some (by kernel_rfl))
  f280 := Tryz.func250.trans (congrArg some (by kernel_rfl))
  f281 := Tryz.func251.trans (congrArg some (by kernel_rfl))
  f282 := Tryz.func252.trans (congrArg some (by kernel_rfl))
  f283 := Tryz.func291.trans (congrArg some (by kernel_rfl))
  f284 := Tryz.func292.trans (congrArg some (by kernel_rfl))
  f285 := Tryz.func293.trans (congrArg some (by kernel_rfl))
  f286 := Tryz.func294.trans (congrArg some (by kernel_rfl))
  f287 := Tryz.func305.trans (congrArg some (by kernel_rfl))
  f316 := Tryz.func306.trans (congrArg some (by kernel_rfl))
  f317 := Tryz.func327.trans (congrArg some (by kernel_rfl))
  f318 := Tryz.func328.trans (congrArg some (by kernel_rfl))
  f319 := Tryz.func329.trans (congrArg some (by kernel_rfl))
  f320 := Tryz.func330.trans (congrArg some (by kernel_rfl))
  f321 := Tryz.func334.trans (congrArg some (by kernel_rfl))
  f322 := Tryz.func335.trans (congrArg some (by kernel_rfl))
  f337 := Tryz.func342.trans (congrArg some (by kernel_rfl))
  f338 := Tryz.func343.trans (congrArg some (by kernel_rfl))
  t0 := Tryz.underlying0
  a0 := Tryz.isAgg0
  z0 := Tryz.sizeOf0
  v0 := Tryz.zeroValue0
  t2 := Tryz.underlying2
  a2 := Tryz.isAgg2
  z2 := Tryz.sizeOf2
  v2 := Tryz.zeroValue2
  t3 := Tryz.underlying3
  a3 := Tryz.isAgg3
  z3 := Tryz.sizeOf3
  v3 := Tryz.zeroValue3
  t4 := Tryz.underlying4
  a4 := Tryz.isAgg4
  z4 := Tryz.sizeOf4
  v4 := Tryz.zeroValue4
  t5 := Tryz.underlying5
  a5 := Tryz.isAgg5
  z5 := Tryz.sizeOf5
  v5 := Tryz.zeroValue5
  t9 := Tryz.underlying9
  a9 := Tryz.isAgg9
  z9 := Tryz.sizeOf9
  v9 := Tryz.zeroValue9
  t20 := Tryz.underlying20
  a20 := Tryz.isAgg20
  z20 := Tryz.sizeOf20
  v20 := Tryz.zeroValue20
  t21 := Tryz.underlying21
  a21 := Tryz.isAgg21
  z21 := Tryz.sizeOf21
  v21 := Tryz.zeroValue21
  t37 := Tryz.underlying92
  a37 := Tryz.isAgg92
  z37 := Tryz.sizeOf92
  v37 := Tryz.zeroValue92
  t46 := Tryz.underlying103
  a46 := Tryz.isAgg103
  z46 := Tryz.sizeOf103
  v46 := Tryz.zeroValue103
  t51 := Tryz.underlying180
  a51 := Tryz.isAgg180
  z51 := Tryz.sizeOf180
  v51 := Tryz.zeroValue180
  t53 := Tryz.underlying183
  a53 := Tryz.isAgg183
  z53 := Tryz.sizeOf183
  v53 := Tryz.zeroValue183
  t75 := Tryz.underlying156
  a75 := Tryz.isAgg156
  z75 := Tryz.sizeOf156
  v75 := Tryz.zeroValue156
  t76 := Tryz.underlying157
  a76 := Tryz.isAgg157
  z76 := Tryz.sizeOf157
  v76 := Tryz.zeroValue157
  t85 := Tryz.underlying272
  a85 := Tryz.isAgg272
  z85 := Tryz.sizeOf272
  v85 := Tryz.zeroValue272
  t127 := Tryz.underlying303
  a127 := Tryz.isAgg303
  z127 := Tryz.sizeOf303
  v127 := Tryz.zeroValue303
  t143 := Tryz.underlying387
  a143 := Tryz.isAgg387
  z143 := Tryz.sizeOf387
  v143 := Tryz.zeroValue387
  t145 := Tryz.underlying389
  a145 := Tryz.isAgg389
  z145 := Tryz.sizeOf389
  v145 := Tryz.zeroValue389
  t167 := Tryz.underlying311
  a167 := Tryz.isAgg311
  z167 := Tryz.sizeOf311
  v167 := Tryz.zeroValue311
  t168 := Tryz.underlying312
  a168 := Tryz.isAgg312
  z168 := Tryz.sizeOf312
  v168 := Tryz.zeroValue312
  t171 := Tryz.underlying346
  a171 := Tryz.isAgg346
  z171 := Tryz.sizeOf346
  v171 := Tryz.zeroValue346
  t173 := Tryz.underlying348
  a173 := Tryz.isAgg348
  z173 := Tryz.sizeOf348
  v173 := Tryz.zeroValue348
  t175 := Tryz.underlying360
  a175 := Tryz.isAgg360
  z175 := Tryz.sizeOf360
  v175 := Tryz.zeroValue360
  t210 := Tryz.underlying364
  a210 := Tryz.isAgg364
  z210 := Tryz.sizeOf364
  v210 := Tryz.zeroValue364
  t212 := Tryz.underlying384
  a212 := Tryz.isAgg384
  z212 := Tryz.sizeOf384
  v212 := Tryz.zeroValue384
  t213 := Tryz.underlying385
  a213 := Tryz.isAgg385
  z213 := Tryz.sizeOf385
  t232 := Tryz.underlying402
  a232 := Tryz.isAgg402
  z232 := Tryz.sizeOf402
  v232 := Tryz.zeroValue402
  t233 := Tryz.underlying403
  a233 := Tryz.isAgg403
  z233 := Tryz.sizeOf403
  v233 := Tryz.zeroValue403
  g15 := by kernel_rfl
  g16 := by kernel_rfl
  g17 := by kernel_rfl
  g18 := by kernel_rfl
  g19 := by kernel_rfl
  t80 := Tryz.underlying243
  a80 := Tryz.isAgg243
  z80 := Tryz.sizeOf243
  v80 := Tryz.zeroValue243
  i0 := by kernel_rfl
  i2 := by kernel_rfl
  i3 := by kernel_rfl
  i4 := by kernel_rfl
  i5 := by kernel_rfl
  i9 := by kernel_rfl
  i20 := by kernel_rfl
  i21 := by kernel_rfl
  i37 := by kernel_rfl
  i46 := by kernel_rfl
  i51 := by kernel_rfl
  i53 := by kernel_rfl
  i75 := by kernel_rfl
  i76 := by kernel_rfl
  i80 := by kernel_rfl
  i85 := by kernel_rfl
  i127 := by kernel_rfl
  i143 := by kernel_rfl
  i145 := by kernel_rfl
  i167 := by kernel_rfl
  i168 := by kernel_rfl
  i171 := by kernel_rfl
  i173 := by kernel_rfl
  i175 := by kernel_rfl
  i210 := by kernel_rfl
  i212 := by kernel_rfl
  i232 := by kernel_rfl
  i233 := by kernel_rfl
  m15 := by kernel_rfl
  m16 := by kernel_rfl
  m17 := by kernel_rfl
  m18 := by kernel_rfl
  m19 := by kernel_rfl
  c0 := by kernel_rfl
  c2 := by kernel_rfl
  c3 := by kernel_rfl
  c4 := by kernel_rfl
  c5 := by kernel_rfl
  c9 := by kernel_rfl
  c20 := by kernel_rfl
  c21 := by kernel_rfl
  c37 := by kernel_rfl
  c46 := by kernel_rfl
  c51 := by kernel_rfl
  c53 := by kernel_rfl
  c75 := by kernel_rfl
  c76 := by kernel_rfl
  c80 := by kernel_rfl
  c85 := by kernel_rfl
  c127 := by kernel_rfl
  c143 := by kernel_rfl
  c145 := by kernel_rfl
  c167 := by kernel_rfl
  c168 := by kernel_rfl
  c171 := by kernel_rfl
  c173 := by kernel_rfl
  c175 := by kernel_rfl
  c210 := by kernel_rfl
  c212 := by kernel_rfl
  c213 := by kernel_rfl
  c232 := by kernel_rfl
  c233 := by kernel_rfl }
open Go.RowKit in
/-- strconv.Atoi, AT EVERY STRING THAT SPELLS AN int ('Lib.atoiAll .. = .ok v'; of whatever length: leading zeros count): v, AND NO ERROR. The world: as it was, or with the one new row that '[]byte(..)' lays. (LAID: no walk: one application.) -/
theorem Tryz.strconv_Atoi_ok (s : ByteArray) (hmax : s.size ≤ 9223372036854775806) (v : Int) (h : Lib.atoiAll s.data.toList = .ok v) (w : World) :
    Calls Tryz.prog 95 #[.string s] w fun e w' => e = .returned (.tuple #[.int .i64 v, .nilIface]) ∧ (w' = w ∨ ∃ t, w' = Lib.bytesWorld w 5 t) := Any.strconv_Atoi_ok Tryz.laysC172 s hmax v h w
def Tryz.laysC174_ren : Go.Shelf.Ren := ⟨fun | 174 => 214 | 247 => 248 | 245 => 180 | 287 => 305 | 279 => 249 | 280 => 250 | 281 => 251 | 282 => 252 | 321 => 334 | 322 => 335 | 316 => 306 | 171 => 89 | 205 => 307 | 243 => 171 | 246 => 238 | 283 => 291 | 284 => 292 | 285 => 293 | 286 => 294 | 129 => 272 | 317 => 327 | 318 => 328 | 319 => 329 | 320 => 330 | 337 => 342 | 338 => 343 | n => n, fun | 9 => 9 | 3 => 3 | 2 => 2 | 75 => 156 | 85 => 272 | 4 => 4 | 167 => 311 | 5 => 5 | 53 => 183 | 175 => 360 | 46 => 103 | 168 => 312 | 37 => 92 | 0 => 0 | 210 => 364 | 21 => 21 | 127 => 303 | 145 => 389 | 143 => 387 | 171 => 346 | 173 => 348 | 212 => 384 | 51 => 180 | 20 => 20 | 213 => 385 | 232 => 402 | 233 => 403 | 80 => 243 | n => n, fun | 15 => 0 | 16 => 1 | 17 => 2 | 18 => 6 | 19 => 7 | n => n⟩
theorem Tryz.laysC174 : Go.Proofs.LaysC.n174 Tryz.prog Tryz.laysC174_ren := {
  mixed := by kernel_rfl
  f129 := Tryz.func272.trans (congrArg some (by kernel_rfl))
  f171 := Tryz.func89.trans (congrArg some (by kernel_rfl))
  f174 := Tryz.func214.trans (congrArg some (by kernel_rfl))
  f205 := Tryz.func307.trans (congrArg some (by kernel_rfl))
  f243 := Tryz.func171.trans (congrArg some (by kernel_rfl))
  f245 := Tryz.func180.trans (congrArg some (by kernel_rfl))
  f246 := Tryz.func238.trans (congrArg some (by kernel_rfl))
  f247 := Tryz.func248.trans (congrArg some (by kernel_rfl))
  f279 := Tryz.func249.trans (congrArg some (by kernel_rfl))
  f280 := Tryz.func250.trans (congrArg some (by kernel_rfl))
  f281 := Tryz.func251.trans (congrArg some (by kernel_rfl))
  f282 := Tryz.func252.trans (congrArg some (by kernel_rfl))
  f283 := Tryz.func291.trans (congrArg some (by kernel_rfl))
  f284 := Tryz.func292.trans (congrArg some (by kernel_rfl))
  f285 := Tryz.func293.trans (congrArg some (by kernel_rfl))
  f286 := Tryz.func294.trans (congrArg some (by kernel_rfl))
  f287 := Tryz.func305.trans (congrArg some (by kernel_rfl))
  f316 := Tryz.func306.trans (congrArg some (by kernel_rfl))
  f317 := Tryz.func327.trans (congrArg some (by kernel_rfl))
  f318 := Tryz.func328.trans (congrArg some (by kernel_rfl))
  f319 := Tryz.func329.trans (congrArg some (by kernel_rfl))
  f320 := Tryz.func330.trans (congrArg some (by kernel_rfl))
  f321 := Tryz.func334.trans (congrArg some (by kernel_rfl))
  f322 := Tryz.func335.trans (congrArg some (by kernel_rfl))
  f337 := Tryz.func342.trans (congrArg some (by kernel_rfl))
  f338 := Tryz.func343.trans (congrArg some (by kernel_rfl))
  t0 := Tryz.underlying0
  a0 := Tryz.isAgg0
  z0 := Tryz.sizeOf0
  v0 := Tryz.zeroValue0
  t2 := Tryz.underlying2
  a2 := Tryz.isAgg2
  z2 := Tryz.sizeOf2
  v2 := Tryz.zeroValue2
  t3 := Tryz.underlying3
  a3 := Tryz.isAgg3
  z3 := Tryz.sizeOf3
  v3 := Tryz.zeroValue3
  t4 := Tryz.underlying4
  a4 := Tryz.isAgg4
  z4 := Tryz.sizeOf4
  v4 := Tryz.zeroValue4
  t5 := Tryz.underlying5
  a5 := Tryz.isAgg5
  z5 := Tryz.sizeOf5
  v5 := Tryz.zeroValue5
  t9 := Tryz.underlying9
  a9 := Tryz.isAgg9
  z9 := Tryz.sizeOf9
  v9 := Tryz.zeroValue9
  t20 := Tryz.underlying20
  a20 := Tryz.isAgg20
  z20 := Tryz.sizeOf20
  v20 := Tryz.zeroValue20
  t21 := Tryz.underlying21
  a21 := Tryz.isAgg21
  z21 := Tryz.sizeOf21
  v21 := Tryz.zeroValue21
  t37 := Tryz.underlying92
  a37 := Tryz.isAgg92
  z37 := Tryz.sizeOf92
  v37 := Tryz.zeroValue92
  t46 := Tryz.underlying103
  a46 := Tryz.isAgg103
  z46 := Tryz.sizeOf103
  v46 := Tryz.zeroValue103
  t51 := Tryz.underlying180
  a51 := Tryz.isAgg180
  z51 := Tryz.sizeOf180
  v51 := Tryz.zeroValue180
  t53 := Tryz.underlying183
  a53 := Tryz.isAgg183
  z53 := Tryz.sizeOf183
  v53 := Tryz.zeroValue183
  t75 := Tryz.underlying156
  a75 := Tryz.isAgg156
  z75 := Tryz.sizeOf156
  v75 := Tryz.zeroValue156
  t85 := Tryz.underlying272
  a85 := Tryz.isAgg272
  z85 := Tryz.sizeOf272
  v85 := Tryz.zeroValue272
  t127 := Tryz.underlying303
  a127 := Tryz.isAgg303
  z127 := Tryz.sizeOf303
  v127 := Tryz.zeroValue303
  t143 := Tryz.underlying387
  a143 := Tryz.isAgg387
  z143 := Tryz.sizeOf387
  v143 := Tryz.zeroValue387
  t145 := Tryz.underlying389
  a145 := Tryz.isAgg389
  z145 := Tryz.sizeOf389
  v145 := Tryz.zeroValue389
  t167 := Tryz.underlying311
  a167 := Tryz.isAgg311
  z167 := Tryz.sizeOf311
  v167 := Tryz.zeroValue311
  t168 := Tryz.underlying312
  a168 := Tryz.isAgg312
  z168 := Tryz.sizeOf312
  v168 := Tryz.zeroValue312
  t171 := Tryz.underlying346
  a171 := Tryz.isAgg346
  z171 := Tryz.sizeOf346
  v171 := Tryz.zeroValue346
  t173 := Tryz.underlying348
  a173 := Tryz.isAgg348
  z173 := Tryz.sizeOf348
  v173 := Tryz.zeroValue348
  t175 := Tryz.underlying360
  a175 := Tryz.isAgg360
  z175 := Tryz.sizeOf360
  v175 := Tryz.zeroValue360
  t210 := Tryz.underlying364
  a210 := Tryz.isAgg364
  z210 := Tryz.sizeOf364
  v210 := Tryz.zeroValue364
  t212 := Tryz.underlying384
  a212 := Tryz.isAgg384
  z212 := Tryz.sizeOf384
  v212 := Tryz.zeroValue384
  t213 := Tryz.underlying385
  a213 := Tryz.isAgg385
  z213 := Tryz.sizeOf385
  t232 := Tryz.underlying402
  a232 := Tryz.isAgg402
  z232 := Tryz.sizeOf402
  v232 := Tryz.zeroValue402
  t233 := Tryz.underlying403
  a233 := Tryz.isAgg403
  z233 := Tryz.sizeOf403
  v233 := Tryz.zeroValue403
  g15 := by kernel_rfl
  g16 := by kernel_rfl
  g17 := by kernel_rfl
  g18 := by kernel_rfl
  g19 := by kernel_rfl
  t80 := Tryz.underlying243
  a80 := Tryz.isAgg243
  z80 := Tryz.sizeOf243
  v80 := Tryz.zeroValue243
  i0 := by kernel_rfl
  i2 := by kernel_rfl
  i3 := by kernel_rfl
  i4 := by kernel_rfl
  i5 := by kernel_rfl
  i9 := by kernel_rfl
  i20 := by kernel_rfl
  i21 := by kernel_rfl
  i37 := by kernel_rfl
  i46 := by kernel_rfl
  i51 := by kernel_rfl
  i53 := by kernel_rfl
  i75 := by kernel_rfl
  i80 := by kernel_rfl
  i85 := by kernel_rfl
  i127 := by kernel_rfl
  i143 := by kernel_rfl
  i145 := by kernel_rfl
  i167 := by kernel_rfl
  i168 := by kernel_rfl
  i171 := by kernel_rfl
  i173 := by kernel_rfl
  i175 := by kernel_rfl
  i210 := by kernel_rfl
  i212 := by kernel_rfl
  i232 := by kernel_rfl
  i233 := by kernel_rfl
  m15 := by kernel_rfl
  m16 := by kernel_rfl
  m17 := by kernel_rfl
  m18 := by kernel_rfl
  m19 := by kernel_rfl
  c0 := by kernel_rfl
  c2 := by kernel_rfl
  c3 := by kernel_rfl
  c4 := by kernel_rfl
  c5 := by kernel_rfl
  c9 := by kernel_rfl
  c20 := by kernel_rfl
  c21 := by kernel_rfl
  c37 := by kernel_rfl
  c46 := by kernel_rfl
  c51 := by kernel_rfl
  c53 := by kernel_rfl
  c75 := by kernel_rfl
  c80 := by kernel_rfl
  c85 := by kernel_rfl
  c127 := by kernel_rfl
  c143 := by kernel_rfl
  c145 := by kernel_rfl
  c167 := by kernel_rfl
  c168 := by kernel_rfl
  c171 := by kernel_rfl
  c173 := by kernel_rfl
  c175 := by kernel_rfl
  c210 := by kernel_rfl
  c212 := by kernel_rfl
  c213 := by kernel_rfl
  c232 := by kernel_rfl
  c233 := by kernel_rfl }
open Go.RowKit in
/-- strconv.ParseInt(s, 10, 64), AT EVERY STRING THAT SPELLS AN int64 ('Lib.parseIntB 64 s.data.toList = .ok v'): v, AND NO ERROR. (LAID: no walk: one application.) -/
theorem Tryz.strconv_ParseInt_10_at64_ok (s : ByteArray) (hmax : s.size ≤ 9223372036854775806) (v : Int) (h : Lib.parseIntB 64 s.data.toList = .ok v) (w : World) :
    Calls Tryz.prog 214 #[.string s, .int .i64 10, .int .i64 64] w fun e w' => e = .returned (.tuple #[.int .i64 v, .nilIface]) ∧ (w' = w ∨ ∃ t, w' = Lib.bytesWorld w 5 t) := Any.strconv_ParseInt_10_at64_ok Tryz.laysC174 s hmax v h w
def Tryz.lays212_ren : Go.Shelf.Ren := ⟨fun | 212 => 48 | 263 => 113 | 264 => 114 | n => n, fun | 46 => 103 | 51 => 180 | 146 => 181 | 53 => 183 | 148 => 184 | n => n, fun | n => n⟩
theorem Tryz.lays212 : Go.Proofs.Lays.n212 Tryz.prog Tryz.lays212_ren := {
  mixed := by kernel_rfl
  f212 := Tryz.func48.trans (congrArg some (by kernel_rfl))
  f263 := Tryz.func113.trans (congrArg some (by kernel_rfl))
  f264 := Tryz.func114.trans (congrArg some (by kernel_rfl))
  t46 := Tryz.underlying103
  a46 := Tryz.isAgg103
  z46 := Tryz.sizeOf103
  v46 := Tryz.zeroValue103
  t51 := Tryz.underlying180
  a51 := Tryz.isAgg180
  z51 := Tryz.sizeOf180
  v51 := Tryz.zeroValue180
  t53 := Tryz.underlying183
  a53 := Tryz.isAgg183
  z53 := Tryz.sizeOf183
  v53 := Tryz.zeroValue183
  t146 := Tryz.underlying181
  a146 := Tryz.isAgg181
  z146 := Tryz.sizeOf181
  v146 := Tryz.zeroValue181
  t148 := Tryz.underlying184
  a148 := Tryz.isAgg184
  z148 := Tryz.sizeOf184
  v148 := Tryz.zeroValue184 }
open Go.RowKit Go.Lib in
/-- math/bits.Mul: "Mul returns the full-width product of x and y": on a machine of 64 bits: Mul64's. (LAID: no walk: one application.) -/
theorem Tryz.bits_Mul (x y : Nat) (hx : x < 18446744073709551616) (hy : y < 18446744073709551616) (w : World) :
    Calls Tryz.prog 48 #[.int .u64 x, .int .u64 y] w fun e w' => e = .returned (.tuple #[.int .u64 ((x * y / 18446744073709551616 : Nat) : Int), .int .u64 ((x * y % 18446744073709551616 : Nat) : Int)]) ∧ w' = w := Any.bits_Mul Tryz.lays212 x y hx hy w
end Go.Proofs
