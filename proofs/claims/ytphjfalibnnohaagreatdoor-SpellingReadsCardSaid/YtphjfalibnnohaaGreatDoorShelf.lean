/-
  DERIVED: THE SHELF's CONTRACTS AT THIS DUMP, IN PLAIN WORDS (tools/lay-plain.mjs out of 'TryzShelf.lean', which tools/lay-shelf.mjs wrote): THE SAME DECLARATIONS UNDER THE SAME NAMES: 'import', 'namespace', 'open', 'def', 'theorem' AND NOTHING ELSE: no command of the shelf's: FOR A HAND-IN. Each laying: the table of numbers ('.._ren') and one theorem, a field a fact of the dump's own or the kernel's comparison; each contract: ONE APPLICATION.
-/
import Derived.Shelf.Strings.Builder1
import Derived.Shelf.Strings.Builder2
import Derived.Shelf.Small.Bits
import Derived.Shelf.Small.Wraps
import Derived.Shelf.Strings.BuilderF
import Derived.Shelf.Strconv.Atoi
import Derived.Shelf.Strconv.Itoa0
import Derived.Shelf.Strconv.Itoa1
import Derived.Shelf.LaysM
import Derived.Shelf.Strconv.Itoa2
import Derived.Shelf.Strconv.Itoa3
import Derived.Shelf.Strconv.AtoiErrFast
import Derived.Shelf.Strconv.ParseIntEmpty
import Derived.Shelf.Strconv.AtoiFail
import Derived.Shelf.Strconv.Clone
import Derived.Shelf.Strconv.SyntaxError
import Derived.Shelf.LaysC
import Derived.Shelf.Strconv.ToError
import Derived.Shelf.Strconv.Lower
import Derived.Shelf.Strconv.ParseUint10
import Derived.Shelf.Strconv.ParseUint10Empty
import Derived.Shelf.Strconv.ParseUint10Any
import Derived.Shelf.Strconv.ParseInt10
import Derived.Shelf.Strconv.AtoiLong
import Derived.Shelf.Strconv.AtoiInnerAll
import Derived.Shelf.Strconv.RangeError
import Derived.Shelf.Strconv.ToErrorRange
import Derived.Shelf.Strconv.AtoiAll
import Derived.Shelf.Strconv.ErrVarAll
import Derived.Shelf.Strconv.ParseUintEmpty
import Derived.Shelf.Strconv.ParseUint10b64
import Derived.Shelf.Strconv.ParseUint10b32
import Derived.Shelf.Strconv.ParseUint10b16
import Derived.Shelf.Strconv.ParseUint10b8
import Derived.Shelf.Strconv.ParseUint10At
import Derived.Shelf.Strconv.ParseInt10At64
import Derived.Shelf.Strconv.ParseInt10At32
import Derived.Shelf.Strconv.ParseInt10At16
import Derived.Shelf.Strconv.ParseInt10At8
import Derived.Shelf.Strconv.ParseInt10All
import Derived.Shelf.Strconv.ParseIntPublic10
import Derived.Shelf.Strconv.ErrVarParseInt
import Derived.Shelf.Strings.Prefix
import Derived.Shelf.Bits.Mul64
import Derived.Shelf.Slices.Equal
import Derived.Ground.Names2Prog
import Derived.Shelf.Slices.Clone
import Derived.Shelf.Slices.SearchI
import Derived.Shelf.Slices.Empties2
import Derived.Ground.SlgnProg
import Derived.Shelf.SlicesE.Equal
import Derived.Shelf.SlicesE.Clone
import Derived.Test.YtphjfalibnnohaaGreatDoorProg
namespace Go.Proofs
def Tryz.lays122_ren : Go.Shelf.Ren := ⟨fun | 122 => 50 | 215 => 78 | n => n, fun | 3 => 3 | 4 => 4 | n => n, fun | n => n⟩
theorem Tryz.lays122 : Go.Proofs.Lays.n122 Tryz.prog Tryz.lays122_ren := {
  mixed := by kernel_rfl
  f122 := Tryz.func50.trans (congrArg some (by kernel_rfl))
  f215 := Tryz.func78.trans (congrArg some (by kernel_rfl))
  t3 := Tryz.underlying3
  a3 := Tryz.isAgg3
  z3 := Tryz.sizeOf3
  v3 := Tryz.zeroValue3
  t4 := Tryz.underlying4
  a4 := Tryz.isAgg4
  z4 := Tryz.sizeOf4
  v4 := Tryz.zeroValue4 }
open Go.RowKit in
/-- cmp.Compare at int: "Compare returns -1 if x is less than y, 0 if x equals y, +1 if x is greater than y.": IT RETURNS 'Lib.compareInt x y'; the world is as it was. (LAID: no walk: one application.) -/
theorem Tryz.cmp_Compare_int (x y : Int) (w : World) :
    Calls Tryz.prog 50 #[.int .i64 x, .int .i64 y] w fun e w' => e = .returned (.int .i64 (Lib.compareInt x y)) ∧ w' = w := Any.cmp_Compare_int Tryz.lays122 x y w
def Tryz.laysM171_ren : Go.Shelf.Ren := ⟨fun | 171 => 61 | 243 => 84 | 246 => 116 | 283 => 145 | 284 => 146 | 285 => 147 | 286 => 148 | 129 => 110 | 317 => 172 | 318 => 173 | 319 => 174 | 320 => 175 | 337 => 192 | 338 => 193 | n => n, fun | 3 => 3 | 9 => 9 | 2 => 2 | 4 => 4 | 171 => 197 | 0 => 0 | 53 => 160 | 37 => 164 | 5 => 5 | 173 => 199 | 212 => 224 | 51 => 158 | 20 => 20 | 213 => 225 | 46 => 121 | 232 => 258 | 233 => 259 | n => n, fun | 17 => 0 | 18 => 4 | 19 => 5 | n => n⟩
theorem Tryz.laysM171 : Go.Proofs.LaysM.n171 Tryz.prog Tryz.laysM171_ren := {
  mixed := by kernel_rfl
  f129 := Tryz.func110.trans (congrArg some (by kernel_rfl))
  f171 := Tryz.func61.trans (congrArg some (by kernel_rfl))
  f243 := Tryz.func84.trans (congrArg some (by kernel_rfl))
  f246 := Tryz.func116.trans (congrArg some (by kernel_rfl))
  f283 := Tryz.func145.trans (congrArg some (by kernel_rfl))
  f284 := Tryz.func146.trans (congrArg some (by kernel_rfl))
  f285 := Tryz.func147.trans (congrArg some (by kernel_rfl))
  f286 := Tryz.func148.trans (congrArg some (by kernel_rfl))
  f317 := Tryz.func172.trans (congrArg some (by kernel_rfl))
  f318 := Tryz.func173.trans (congrArg some (by kernel_rfl))
  f319 := Tryz.func174.trans (congrArg some (by kernel_rfl))
  f320 := Tryz.func175.trans (congrArg some (by kernel_rfl))
  f337 := Tryz.func192.trans (congrArg some (by kernel_rfl))
  f338 := Tryz.func193.trans (congrArg some (by kernel_rfl))
  t0 := Tryz.underlying0
  a0 := Tryz.isAgg0
  z0 := Tryz.sizeOf0
  v0 := Tryz.zeroValue0
  t2 := Tryz.underlying2
  a2 := Tryz.isAgg2
  z2 := Tryz.sizeOf2
  v2 := Tryz.zeroValue2
  t3 := Tryz.underlying3
  a3 := Tryz.isAgg3
  z3 := Tryz.sizeOf3
  v3 := Tryz.zeroValue3
  t4 := Tryz.underlying4
  a4 := Tryz.isAgg4
  z4 := Tryz.sizeOf4
  v4 := Tryz.zeroValue4
  t5 := Tryz.underlying5
  a5 := Tryz.isAgg5
  z5 := Tryz.sizeOf5
  v5 := Tryz.zeroValue5
  t9 := Tryz.underlying9
  a9 := Tryz.isAgg9
  z9 := Tryz.sizeOf9
  v9 := Tryz.zeroValue9
  t20 := Tryz.underlying20
  a20 := Tryz.isAgg20
  z20 := Tryz.sizeOf20
  v20 := Tryz.zeroValue20
  t37 := Tryz.underlying164
  a37 := Tryz.isAgg164
  z37 := Tryz.sizeOf164
  v37 := Tryz.zeroValue164
  t46 := Tryz.underlying121
  a46 := Tryz.isAgg121
  z46 := Tryz.sizeOf121
  v46 := Tryz.zeroValue121
  t51 := Tryz.underlying158
  a51 := Tryz.isAgg158
  z51 := Tryz.sizeOf158
  v51 := Tryz.zeroValue158
  t53 := Tryz.underlying160
  a53 := Tryz.isAgg160
  z53 := Tryz.sizeOf160
  v53 := Tryz.zeroValue160
  t171 := Tryz.underlying197
  a171 := Tryz.isAgg197
  z171 := Tryz.sizeOf197
  v171 := Tryz.zeroValue197
  t173 := Tryz.underlying199
  a173 := Tryz.isAgg199
  z173 := Tryz.sizeOf199
  v173 := Tryz.zeroValue199
  t212 := Tryz.underlying224
  a212 := Tryz.isAgg224
  z212 := Tryz.sizeOf224
  v212 := Tryz.zeroValue224
  t213 := Tryz.underlying225
  a213 := Tryz.isAgg225
  z213 := Tryz.sizeOf225
  t232 := Tryz.underlying258
  a232 := Tryz.isAgg258
  z232 := Tryz.sizeOf258
  v232 := Tryz.zeroValue258
  t233 := Tryz.underlying259
  a233 := Tryz.isAgg259
  z233 := Tryz.sizeOf259
  v233 := Tryz.zeroValue259
  g17 := by kernel_rfl
  g18 := by kernel_rfl
  g19 := by kernel_rfl
  i0 := by kernel_rfl
  i2 := by kernel_rfl
  i3 := by kernel_rfl
  i4 := by kernel_rfl
  i5 := by kernel_rfl
  i9 := by kernel_rfl
  i20 := by kernel_rfl
  i37 := by kernel_rfl
  i46 := by kernel_rfl
  i51 := by kernel_rfl
  i53 := by kernel_rfl
  i171 := by kernel_rfl
  i173 := by kernel_rfl
  i212 := by kernel_rfl
  i232 := by kernel_rfl
  i233 := by kernel_rfl
  m17 := by kernel_rfl
  m18 := by kernel_rfl
  m19 := by kernel_rfl }
open Go.RowKit Go.Sort Go.Lib in
/-- strconv.Itoa: "Itoa is equivalent to FormatInt(int64(i), 10).": i's DECIMAL NUMERAL ('Lib.itoa': a '-' where i is negative, then the digits), FOR EVERY int. The world behind the call: the world before it, new blocks behind the heap (the library's 'var a [24]byte'), draws. (LAID: no walk: one application.) -/
theorem Tryz.strconv_Itoa (n : Int) (h0 : -9223372036854775808 ≤ n) (h1 : n ≤ 9223372036854775807) (w : World) (htab : Lib.TabIs Tryz.prog w "internal/strconv.uint64pow10" .u64 Lib.pow10Tab) :
    Calls Tryz.prog 61 #[.int .i64 n] w fun e w' => e = .returned (.string ⟨(Lib.itoa n).toArray⟩) ∧ ∃ k os, w' = grow (w.drewN k) os := Any.strconv_Itoa Tryz.laysM171 n h0 h1 w htab
def Tryz.laysC172_ren : Go.Shelf.Ren := ⟨fun | 172 => 87 | 244 => 118 | 245 => 119 | 247 => 149 | 279 => 150 | 280 => 151 | 281 => 152 | 282 => 153 | 287 => 176 | 316 => 177 | 171 => 61 | 205 => 178 | 321 => 194 | 322 => 195 | 243 => 84 | 246 => 116 | 283 => 145 | 284 => 146 | 285 => 147 | 286 => 148 | 129 => 110 | 317 => 172 | 318 => 173 | 319 => 174 | 320 => 175 | 337 => 192 | 338 => 193 | n => n, fun | 9 => 9 | 3 => 3 | 75 => 129 | 76 => 130 | 4 => 4 | 5 => 5 | 167 => 201 | 37 => 164 | 0 => 0 | 85 => 202 | 2 => 2 | 168 => 204 | 53 => 160 | 175 => 226 | 46 => 121 | 210 => 230 | 127 => 196 | 145 => 251 | 143 => 249 | 21 => 21 | 171 => 197 | 173 => 199 | 212 => 224 | 51 => 158 | 20 => 20 | 213 => 225 | 232 => 258 | 233 => 259 | 80 => 169 | n => n, fun | 15 => 1 | 16 => 2 | 17 => 0 | 18 => 4 | 19 => 5 | n => n⟩
theorem Tryz.laysC172 : Go.Proofs.LaysC.n172 Tryz.prog Tryz.laysC172_ren := {
  mixed := by kernel_rfl
  f129 := Tryz.func110.trans (congrArg some (by kernel_rfl))
  f171 := Tryz.func61.trans (congrArg some (by kernel_rfl))
  f172 := Tryz.func87.trans (congrArg some (by kernel_rfl))
  f205 := Tryz.func178.trans (congrArg some (by kernel_rfl))
  f243 := Tryz.func84.trans (congrArg some (by kernel_rfl))
  f244 := Tryz.func118.trans (congrArg some (by kernel_rfl))
  f245 := Tryz.func119.trans (congrArg some (by kernel_rfl))
  f246 := Tryz.func116.trans (congrArg some (by kernel_rfl))
  f247 := Tryz.func149.trans (congrArg some (by kernel_rfl))
  f279 := Tryz.func150.trans (congrArg some (by kernel_rfl))
  f280 := Tryz.func151.trans (congrArg some (by kernel_rfl))
  f281 := Tryz.func152.trans (congrArg some (by kernel_rfl))
  f282 := Tryz.func153.trans (congrArg some (by kernel_rfl))
  f283 := Tryz.func145.trans (congrArg some (by kernel_rfl))
  f284 := Tryz.func146.trans (congrArg some (by kernel_rfl))
  f285 := Tryz.func147.trans (congrArg some (by kernel_rfl))
  f286 := Tryz.func148.trans (congrArg some (by kernel_rfl))
  f287 := Tryz.func176.trans (congrArg some (by kernel_rfl))
  f316 := Tryz.func177.trans (congrArg some (by kernel_rfl))
  f317 := Tryz.func172.trans (congrArg some (by kernel_rfl))
  f318 := Tryz.func173.trans (congrArg some (by kernel_rfl))
  f319 := Tryz.func174.trans (congrArg some (by kernel_rfl))
  f320 := Tryz.func175.trans (congrArg some (by kernel_rfl))
  f321 := Tryz.func194.trans (congrArg some (by kernel_rfl))
  f322 := Tryz.func195.trans (congrArg some (by kernel_rfl))
  f337 := Tryz.func192.trans (congrArg some (by kernel_rfl))
  f338 := Tryz.func193.trans (congrArg some (by kernel_rfl))
  t0 := Tryz.underlying0
  a0 := Tryz.isAgg0
  z0 := Tryz.sizeOf0
  v0 := Tryz.zeroValue0
  t2 := Tryz.underlying2
  a2 := Tryz.isAgg2
  z2 := Tryz.sizeOf2
  v2 := Tryz.zeroValue2
  t3 := Tryz.underlying3
  a3 := Tryz.isAgg3
  z3 := Tryz.sizeOf3
  v3 := Tryz.zeroValue3
  t4 := Tryz.underlying4
  a4 := Tryz.isAgg4
  z4 := Tryz.sizeOf4
  v4 := Tryz.zeroValue4
  t5 := Tryz.underlying5
  a5 := Tryz.isAgg5
  z5 := Tryz.sizeOf5
  v5 := Tryz.zeroValue5
  t9 := Tryz.underlying9
  a9 := Tryz.isAgg9
  z9 := Tryz.sizeOf9
  v9 := Tryz.zeroValue9
  t20 := Tryz.underlying20
  a20 := Tryz.isAgg20
  z20 := Tryz.sizeOf20
  v20 := Tryz.zeroValue20
  t21 := Tryz.underlying21
  a21 := Tryz.isAgg21
  z21 := Tryz.sizeOf21
  v21 := Tryz.zeroValue21
  t37 := Tryz.underlying164
  a37 := Tryz.isAgg164
  z37 := Tryz.sizeOf164
  v37 := Tryz.zeroValue164
  t46 := Tryz.underlying121
  a46 := Tryz.isAgg121
  z46 := Tryz.sizeOf121
  v46 := Tryz.zeroValue121
  t51 := Tryz.underlying158
  a51 := Tryz.isAgg158
  z51 := Tryz.sizeOf158
  v51 := Tryz.zeroValue158
  t53 := Tryz.underlying160
  a53 := Tryz.isAgg160
  z53 := Tryz.sizeOf160
  v53 := Tryz.zeroValue160
  t75 := Tryz.underlying129
  a75 := Tryz.isAgg129
  z75 := Tryz.sizeOf129
  v75 := Tryz.zeroValue129
  t76 := Tryz.underlying130
  a76 := Tryz.isAgg130
  z76 := Tryz.sizeOf130
  v76 := Tryz.zeroValue130
  t85 := Tryz.underlying202
  a85 := Tryz.isAgg202
  z85 := Tryz.sizeOf202
  v85 := Tryz.zeroValue202
  t127 := Tryz.underlying196
  a127 := Tryz.isAgg196
  z127 := Tryz.sizeOf196
  v127 := Tryz.zeroValue196
  t143 := Tryz.underlying249
  a143 := Tryz.isAgg249
  z143 := Tryz.sizeOf249
  v143 := Tryz.zeroValue249
  t145 := Tryz.underlying251
  a145 := Tryz.isAgg251
  z145 := Tryz.sizeOf251
  v145 := Tryz.zeroValue251
  t167 := Tryz.underlying201
  a167 := Tryz.isAgg201
  z167 := Tryz.sizeOf201
  v167 := Tryz.zeroValue201
  t168 := Tryz.underlying204
  a168 := Tryz.isAgg204
  z168 := Tryz.sizeOf204
  v168 := Tryz.zeroValue204
  t171 := Tryz.underlying197
  a171 := Tryz.isAgg197
  z171 := Tryz.sizeOf197
  v171 := Tryz.zeroValue197
  t173 := Tryz.underlying199
  a173 := Tryz.isAgg199
  z173 := Tryz.sizeOf199
  v173 := Tryz.zeroValue199
  t175 := Tryz.underlying226
  a175 := Tryz.isAgg226
  z175 := Tryz.sizeOf226
  v175 := Tryz.zeroValue226
  t210 := Tryz.underlying230
  a210 := Tryz.isAgg230
  z210 := Tryz.sizeOf230
  v210 := Tryz.zeroValue230
  t212 := Tryz.underlying224
  a212 := Tryz.isAgg224
  z212 := Tryz.sizeOf224
  v212 := Tryz.zeroValue224
  t213 := Tryz.underlying225
  a213 := Tryz.isAgg225
  z213 := Tryz.sizeOf225
  t232 := Tryz.underlying258
  a232 := Tryz.isAgg258
  z232 := Tryz.sizeOf258
  v232 := Tryz.zeroValue258
  t233 := Tryz.underlying259
  a233 := Tryz.isAgg259
  z233 := Tryz.sizeOf259
  v233 := Tryz.zeroValue259
  g15 := by kernel_rfl
  g16 := by kernel_rfl
  g17 := by kernel_rfl
  g18 := by kernel_rfl
  g19 := by kernel_rfl
  t80 := Tryz.underlying169
  a80 := Tryz.isAgg169
  z80 := Tryz.sizeOf169
  v80 := Tryz.zeroValue169
  i0 := by kernel_rfl
  i2 := by kernel_rfl
  i3 := by kernel_rfl
  i4 := by kernel_rfl
  i5 := by kernel_rfl
  i9 := by kernel_rfl
  i20 := by kernel_rfl
  i21 := by kernel_rfl
  i37 := by kernel_rfl
  i46 := by kernel_rfl
  i51 := by kernel_rfl
  i53 := by kernel_rfl
  i75 := by kernel_rfl
  i76 := by kernel_rfl
  i80 := by kernel_rfl
  i85 := by kernel_rfl
  i127 := by kernel_rfl
  i143 := by kernel_rfl
  i145 := by kernel_rfl
  i167 := by kernel_rfl
  i168 := by kernel_rfl
  i171 := by kernel_rfl
  i173 := by kernel_rfl
  i175 := by kernel_rfl
  i210 := by kernel_rfl
  i212 := by kernel_rfl
  i232 := by kernel_rfl
  i233 := by kernel_rfl
  m15 := by kernel_rfl
  m16 := by kernel_rfl
  m17 := by kernel_rfl
  m18 := by kernel_rfl
  m19 := by kernel_rfl
  c0 := by kernel_rfl
  c2 := by kernel_rfl
  c3 := by kernel_rfl
  c4 := by kernel_rfl
  c5 := by kernel_rfl
  c9 := by kernel_rfl
  c20 := by kernel_rfl
  c21 := by kernel_rfl
  c37 := by kernel_rfl
  c46 := by kernel_rfl
  c51 := by kernel_rfl
  c53 := by kernel_rfl
  c75 := by kernel_rfl
  c76 := by kernel_rfl
  c80 := by kernel_rfl
  c85 := by kernel_rfl
  c127 := by kernel_rfl
  c143 := by kernel_rfl
  c145 := by kernel_rfl
  c167 := by kernel_rfl
  c168 := by kernel_rfl
  c171 := by kernel_rfl
  c173 := by kernel_rfl
  c175 := by kernel_rfl
  c210 := by kernel_rfl
  c212 := by kernel_rfl
  c213 := by kernel_rfl
  c232 := by kernel_rfl
  c233 := by kernel_rfl }
open Go.RowKit in
/-- strconv.Atoi, AT EVERY STRING THAT SPELLS AN int ('Lib.atoiAll .. = .ok v'; of whatever length: leading zeros count): v, AND NO ERROR. The world: as it was, or with the one new row that '[]byte(..)' lays. (LAID: no walk: one application.) -/
theorem Tryz.strconv_Atoi_ok (s : ByteArray) (hmax : s.size ≤ 9223372036854775806) (v : Int) (h : Lib.atoiAll s.data.toList = .ok v) (w : World) :
    Calls Tryz.prog 87 #[.string s] w fun e w' => e = .returned (.tuple #[.int .i64 v, .nilIface]) ∧ (w' = w ∨ ∃ t, w' = Lib.bytesWorld w 5 t) := Any.strconv_Atoi_ok Tryz.laysC172 s hmax v h w
def Tryz.laysC174_ren : Go.Shelf.Ren := ⟨fun | 174 => 154 | 247 => 149 | 245 => 119 | 287 => 176 | 279 => 150 | 280 => 151 | 281 => 152 | 282 => 153 | 321 => 194 | 322 => 195 | 316 => 177 | 171 => 61 | 205 => 178 | 243 => 84 | 246 => 116 | 283 => 145 | 284 => 146 | 285 => 147 | 286 => 148 | 129 => 110 | 317 => 172 | 318 => 173 | 319 => 174 | 320 => 175 | 337 => 192 | 338 => 193 | n => n, fun | 9 => 9 | 3 => 3 | 2 => 2 | 75 => 129 | 85 => 202 | 4 => 4 | 167 => 201 | 5 => 5 | 53 => 160 | 175 => 226 | 46 => 121 | 168 => 204 | 37 => 164 | 0 => 0 | 210 => 230 | 21 => 21 | 127 => 196 | 145 => 251 | 143 => 249 | 171 => 197 | 173 => 199 | 212 => 224 | 51 => 158 | 20 => 20 | 213 => 225 | 232 => 258 | 233 => 259 | 80 => 169 | n => n, fun | 15 => 1 | 16 => 2 | 17 => 0 | 18 => 4 | 19 => 5 | n => n⟩
theorem Tryz.laysC174 : Go.Proofs.LaysC.n174 Tryz.prog Tryz.laysC174_ren := {
  mixed := by kernel_rfl
  f129 := Tryz.func110.trans (congrArg some (by kernel_rfl))
  f171 := Tryz.func61.trans (congrArg some (by kernel_rfl))
  f174 := Tryz.func154.trans (congrArg some (by kernel_rfl))
  f205 := Tryz.func178.trans (congrArg some (by kernel_rfl))
  f243 := Tryz.func84.trans (congrArg some (by kernel_rfl))
  f245 := Tryz.func119.trans (congrArg some (by kernel_rfl))
  f246 := Tryz.func116.trans (congrArg some (by kernel_rfl))
  f247 := Tryz.func149.trans (congrArg some (by kernel_rfl))
  f279 := Tryz.func150.trans (congrArg some (by kernel_rfl))
  f280 := Tryz.func151.trans (congrArg some (by kernel_rfl))
  f281 := Tryz.func152.trans (congrArg some (by kernel_rfl))
  f282 := Tryz.func153.trans (congrArg some (by kernel_rfl))
  f283 := Tryz.func145.trans (congrArg some (by kernel_rfl))
  f284 := Tryz.func146.trans (congrArg some (by kernel_rfl))
  f285 := Tryz.func147.trans (congrArg some (by kernel_rfl))
  f286 := Tryz.func148.trans (congrArg some (by kernel_rfl))
  f287 := Tryz.func176.trans (congrArg some (by kernel_rfl))
  f316 := Tryz.func177.trans (congrArg some (by kernel_rfl))
  f317 := Tryz.func172.trans (congrArg some (by kernel_rfl))
  f318 := Tryz.func173.trans (congrArg some (by kernel_rfl))
  f319 := Tryz.func174.trans (congrArg some (by kernel_rfl))
  f320 := Tryz.func175.trans (congrArg some (by kernel_rfl))
  f321 := Tryz.func194.trans (congrArg some (by kernel_rfl))
  f322 := Tryz.func195.trans (congrArg some (by kernel_rfl))
  f337 := Tryz.func192.trans (congrArg some (by kernel_rfl))
  f338 := Tryz.func193.trans (congrArg some (by kernel_rfl))
  t0 := Tryz.underlying0
  a0 := Tryz.isAgg0
  z0 := Tryz.sizeOf0
  v0 := Tryz.zeroValue0
  t2 := Tryz.underlying2
  a2 := Tryz.isAgg2
  z2 := Tryz.sizeOf2
  v2 := Tryz.zeroValue2
  t3 := Tryz.underlying3
  a3 := Tryz.isAgg3
  z3 := Tryz.sizeOf3
  v3 := Tryz.zeroValue3
  t4 := Tryz.underlying4
  a4 := Tryz.isAgg4
  z4 := Tryz.sizeOf4
  v4 := Tryz.zeroValue4
  t5 := Tryz.underlying5
  a5 := Tryz.isAgg5
  z5 := Tryz.sizeOf5
  v5 := Tryz.zeroValue5
  t9 := Tryz.underlying9
  a9 := Tryz.isAgg9
  z9 := Tryz.sizeOf9
  v9 := Tryz.zeroValue9
  t20 := Tryz.underlying20
  a20 := Tryz.isAgg20
  z20 := Tryz.sizeOf20
  v20 := Tryz.zeroValue20
  t21 := Tryz.underlying21
  a21 := Tryz.isAgg21
  z21 := Tryz.sizeOf21
  v21 := Tryz.zeroValue21
  t37 := Tryz.underlying164
  a37 := Tryz.isAgg164
  z37 := Tryz.sizeOf164
  v37 := Tryz.zeroValue164
  t46 := Tryz.underlying121
  a46 := Tryz.isAgg121
  z46 := Tryz.sizeOf121
  v46 := Tryz.zeroValue121
  t51 := Tryz.underlying158
  a51 := Tryz.isAgg158
  z51 := Tryz.sizeOf158
  v51 := Tryz.zeroValue158
  t53 := Tryz.underlying160
  a53 := Tryz.isAgg160
  z53 := Tryz.sizeOf160
  v53 := Tryz.zeroValue160
  t75 := Tryz.underlying129
  a75 := Tryz.isAgg129
  z75 := Tryz.sizeOf129
  v75 := Tryz.zeroValue129
  t85 := Tryz.underlying202
  a85 := Tryz.isAgg202
  z85 := Tryz.sizeOf202
  v85 := Tryz.zeroValue202
  t127 := Tryz.underlying196
  a127 := Tryz.isAgg196
  z127 := Tryz.sizeOf196
  v127 := Tryz.zeroValue196
  t143 := Tryz.underlying249
  a143 := Tryz.isAgg249
  z143 := Tryz.sizeOf249
  v143 := Tryz.zeroValue249
  t145 := Tryz.underlying251
  a145 := Tryz.isAgg251
  z145 := Tryz.sizeOf251
  v145 := Tryz.zeroValue251
  t167 := Tryz.underlying201
  a167 := Tryz.isAgg201
  z167 := Tryz.sizeOf201
  v167 := Tryz.zeroValue201
  t168 := Tryz.underlying204
  a168 := Tryz.isAgg204
  z168 := Tryz.sizeOf204
  v168 := Tryz.zeroValue204
  t171 := Tryz.underlying197
  a171 := Tryz.isAgg197
  z171 := Tryz.sizeOf197
  v171 := Tryz.zeroValue197
  t173 := Tryz.underlying199
  a173 := Tryz.isAgg199
  z173 := Tryz.sizeOf199
  v173 := Tryz.zeroValue199
  t175 := Tryz.underlying226
  a175 := Tryz.isAgg226
  z175 := Tryz.sizeOf226
  v175 := Tryz.zeroValue226
  t210 := Tryz.underlying230
  a210 := Tryz.isAgg230
  z210 := Tryz.sizeOf230
  v210 := Tryz.zeroValue230
  t212 := Tryz.underlying224
  a212 := Tryz.isAgg224
  z212 := Tryz.sizeOf224
  v212 := Tryz.zeroValue224
  t213 := Tryz.underlying225
  a213 := Tryz.isAgg225
  z213 := Tryz.sizeOf225
  t232 := Tryz.underlying258
  a232 := Tryz.isAgg258
  z232 := Tryz.sizeOf258
  v232 := Tryz.zeroValue258
  t233 := Tryz.underlying259
  a233 := Tryz.isAgg259
  z233 := Tryz.sizeOf259
  v233 := Tryz.zeroValue259
  g15 := by kernel_rfl
  g16 := by kernel_rfl
  g17 := by kernel_rfl
  g18 := by kernel_rfl
  g19 := by kernel_rfl
  t80 := Tryz.underlying169
  a80 := Tryz.isAgg169
  z80 := Tryz.sizeOf169
  v80 := Tryz.zeroValue169
  i0 := by kernel_rfl
  i2 := by kernel_rfl
  i3 := by kernel_rfl
  i4 := by kernel_rfl
  i5 := by kernel_rfl
  i9 := by kernel_rfl
  i20 := by kernel_rfl
  i21 := by kernel_rfl
  i37 := by kernel_rfl
  i46 := by kernel_rfl
  i51 := by kernel_rfl
  i53 := by kernel_rfl
  i75 := by kernel_rfl
  i80 := by kernel_rfl
  i85 := by kernel_rfl
  i127 := by kernel_rfl
  i143 := by kernel_rfl
  i145 := by kernel_rfl
  i167 := by kernel_rfl
  i168 := by kernel_rfl
  i171 := by kernel_rfl
  i173 := by kernel_rfl
  i175 := by kernel_rfl
  i210 := by kernel_rfl
  i212 := by kernel_rfl
  i232 := by kernel_rfl
  i233 := by kernel_rfl
  m15 := by kernel_rfl
  m16 := by kernel_rfl
  m17 := by kernel_rfl
  m18 := by kernel_rfl
  m19 := by kernel_rfl
  c0 := by kernel_rfl
  c2 := by kernel_rfl
  c3 := by kernel_rfl
  c4 := by kernel_rfl
  c5 := by kernel_rfl
  c9 := by kernel_rfl
  c20 := by kernel_rfl
  c21 := by kernel_rfl
  c37 := by kernel_rfl
  c46 := by kernel_rfl
  c51 := by kernel_rfl
  c53 := by kernel_rfl
  c75 := by kernel_rfl
  c80 := by kernel_rfl
  c85 := by kernel_rfl
  c127 := by kernel_rfl
  c143 := by kernel_rfl
  c145 := by kernel_rfl
  c167 := by kernel_rfl
  c168 := by kernel_rfl
  c171 := by kernel_rfl
  c173 := by kernel_rfl
  c175 := by kernel_rfl
  c210 := by kernel_rfl
  c212 := by kernel_rfl
  c213 := by kernel_rfl
  c232 := by kernel_rfl
  c233 := by kernel_rfl }
open Go.RowKit in
/-- strconv.ParseInt(s, 10, 64), AT EVERY STRING THAT SPELLS AN int64 ('Lib.parseIntB 64 s.data.toList = .ok v'): v, AND NO ERROR. (LAID: no walk: one application.) -/
theorem Tryz.strconv_ParseInt_10_at64_ok (s : ByteArray) (hmax : s.size ≤ 9223372036854775806) (v : Int) (h : Lib.parseIntB 64 s.data.toList = .ok v) (w : World) :
    Calls Tryz.prog 154 #[.string s, .int .i64 10, .int .i64 64] w fun e w' => e = .returned (.tuple #[.int .i64 v, .nilIface]) ∧ (w' = w ∨ ∃ t, w' = Lib.bytesWorld w 5 t) := Any.strconv_ParseInt_10_at64_ok Tryz.laysC174 s hmax v h w
def Tryz.lays212_ren : Go.Shelf.Ren := ⟨fun | 212 => 111 | 263 => 141 | 264 => 142 | n => n, fun | 46 => 121 | 51 => 158 | 146 => 192 | 53 => 160 | 148 => 194 | n => n, fun | n => n⟩
theorem Tryz.lays212 : Go.Proofs.Lays.n212 Tryz.prog Tryz.lays212_ren := {
  mixed := by kernel_rfl
  f212 := Tryz.func111.trans (congrArg some (by kernel_rfl))
  f263 := Tryz.func141.trans (congrArg some (by kernel_rfl))
  f264 := Tryz.func142.trans (congrArg some (by kernel_rfl))
  t46 := Tryz.underlying121
  a46 := Tryz.isAgg121
  z46 := Tryz.sizeOf121
  v46 := Tryz.zeroValue121
  t51 := Tryz.underlying158
  a51 := Tryz.isAgg158
  z51 := Tryz.sizeOf158
  v51 := Tryz.zeroValue158
  t53 := Tryz.underlying160
  a53 := Tryz.isAgg160
  z53 := Tryz.sizeOf160
  v53 := Tryz.zeroValue160
  t146 := Tryz.underlying192
  a146 := Tryz.isAgg192
  z146 := Tryz.sizeOf192
  v146 := Tryz.zeroValue192
  t148 := Tryz.underlying194
  a148 := Tryz.isAgg194
  z148 := Tryz.sizeOf194
  v148 := Tryz.zeroValue194 }
open Go.RowKit Go.Lib in
/-- math/bits.Mul: "Mul returns the full-width product of x and y": on a machine of 64 bits: Mul64's. (LAID: no walk: one application.) -/
theorem Tryz.bits_Mul (x y : Nat) (hx : x < 18446744073709551616) (hy : y < 18446744073709551616) (w : World) :
    Calls Tryz.prog 111 #[.int .u64 x, .int .u64 y] w fun e w' => e = .returned (.tuple #[.int .u64 ((x * y / 18446744073709551616 : Nat) : Int), .int .u64 ((x * y % 18446744073709551616 : Nat) : Int)]) ∧ w' = w := Any.bits_Mul Tryz.lays212 x y hx hy w
end Go.Proofs
