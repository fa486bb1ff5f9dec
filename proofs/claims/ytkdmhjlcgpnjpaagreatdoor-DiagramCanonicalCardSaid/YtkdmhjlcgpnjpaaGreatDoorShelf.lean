/- The library's contracts at this seat's translation, as the kit's own tool lays them. -/
import Derived.Shelf.Strings.Builder1
import Derived.Shelf.Strings.Builder2
import Derived.Shelf.Small.Bits
import Derived.Shelf.Small.Wraps
import Derived.Shelf.Strings.BuilderF
import Derived.Shelf.Strings.BuilderK
import Derived.Shelf.Strings.Builder2Cap
import Derived.Shelf.Strconv.Atoi
import Derived.Shelf.Strconv.Itoa0
import Derived.Shelf.Strconv.Itoa1
import Derived.Shelf.LaysM
import Derived.Shelf.Strconv.Itoa2
import Derived.Shelf.Strconv.Itoa3
import Derived.Shelf.Strconv.AtoiErrFast
import Derived.Shelf.Strconv.ParseIntEmpty
import Derived.Shelf.Strconv.AtoiFail
import Derived.Shelf.Strconv.Clone
import Derived.Shelf.Strconv.SyntaxError
import Derived.Shelf.LaysC
import Derived.Shelf.Strconv.ToError
import Derived.Shelf.Strconv.AtoiErr
import Derived.Shelf.Strconv.Lower
import Derived.Shelf.Strconv.ParseUint10
import Derived.Shelf.Strconv.ParseUint10Empty
import Derived.Shelf.Strconv.ParseUint10Any
import Derived.Shelf.Strconv.ParseInt10
import Derived.Shelf.Strconv.AtoiLong
import Derived.Shelf.Strconv.AtoiInnerAll
import Derived.Shelf.Strconv.RangeError
import Derived.Shelf.Strconv.ToErrorRange
import Derived.Shelf.Strconv.AtoiAll
import Derived.Shelf.Strconv.ParseUintEmpty
import Derived.Shelf.Strconv.ParseUint10b64
import Derived.Shelf.Strconv.ParseUint10b32
import Derived.Shelf.Strconv.ParseUint10b16
import Derived.Shelf.Strconv.ParseUint10b8
import Derived.Shelf.Strconv.ParseUint10At
import Derived.Shelf.Sort.Plain
import Derived.Shelf.Strings.Prefix
import Derived.Shelf.Bits.Mul64
import Derived.Shelf.Strings.Repeat
import Derived.Shelf.Strings.BuilderCap
import Derived.Ground.Names2Prog
import Derived.Shelf.Slices.CompactI
import Derived.Shelf.Slices.SearchI
import Derived.Shelf.Slices.Cells
import Derived.Shelf.Slices.In.SortNone
import Derived.Test.YtkdmhjlcgpnjpaaGreatDoorProg
namespace Go.Proofs
set_option linter.unusedVariables false
set_option linter.unusedSimpArgs false
open Go.Shelf
def Tryz.lays103_ren : Go.Shelf.Ren := ⟨fun | 103 => 99 | 210 => 122 | 206 => 138 | n => n, fun | 9 => 9 | 4 => 4 | 24 => 151 | 3 => 3 | n => n, fun | n => n⟩
theorem Tryz.lays103 : Go.Proofs.Lays.n103 Tryz.prog Tryz.lays103_ren := {
  mixed := by kernel_rfl
  f103 := Tryz.func99.trans (congrArg some (by kernel_rfl))
  f206 := Tryz.func138.trans (congrArg some (by kernel_rfl))
  f210 := Tryz.func122.trans (congrArg some (by kernel_rfl))
  t3 := Tryz.underlying3
  a3 := Tryz.isAgg3
  z3 := Tryz.sizeOf3
  v3 := Tryz.zeroValue3
  t4 := Tryz.underlying4
  a4 := Tryz.isAgg4
  z4 := Tryz.sizeOf4
  v4 := Tryz.zeroValue4
  t9 := Tryz.underlying9
  a9 := Tryz.isAgg9
  z9 := Tryz.sizeOf9
  v9 := Tryz.zeroValue9
  t24 := Tryz.underlying151
  a24 := Tryz.isAgg151
  z24 := Tryz.sizeOf151
  v24 := Tryz.zeroValue151 }
open Go.RowKit in
/-- strings.CutPrefix: "CutPrefix returns s without the provided leading prefix string and reports whether it found the prefix. If s doesn't start with prefix, CutPrefix returns s, false. If prefix is the empty string, CutPrefix returns s, true.": IT RETURNS '(Lib.trimPrefix s p, Lib.hasPrefix s p)'; the world is as it was. (LAID: no walk: one application.) -/
theorem Tryz.strings_CutPrefix (s p : ByteArray) (w : World) :
    Calls Tryz.prog 99 #[.string s, .string p] w fun e w' => e = .returned (.tuple #[.string ⟨(Lib.trimPrefix s.data.toList p.data.toList).toArray⟩, .bool (Lib.hasPrefix s.data.toList p.data.toList)]) ∧ w' = w := Any.strings_CutPrefix Tryz.lays103 s p w
def Tryz.laysM171_ren : Go.Shelf.Ren := ⟨fun | 171 => 56 | 243 => 94 | 246 => 121 | 283 => 134 | 284 => 135 | 285 => 136 | 286 => 137 | 129 => 149 | 317 => 156 | 318 => 157 | 319 => 158 | 320 => 159 | 337 => 172 | 338 => 173 | n => n, fun | 3 => 3 | 9 => 9 | 2 => 2 | 4 => 4 | 171 => 190 | 0 => 0 | 53 => 36 | 37 => 22 | 5 => 5 | 173 => 192 | 212 => 211 | 51 => 202 | 20 => 20 | 213 => 212 | 46 => 45 | 232 => 235 | 233 => 236 | n => n, fun | 17 => 0 | 18 => 4 | 19 => 5 | n => n⟩
theorem Tryz.laysM171 : Go.Proofs.LaysM.n171 Tryz.prog Tryz.laysM171_ren := {
  mixed := by kernel_rfl
  f129 := Tryz.func149.trans (congrArg some (by kernel_rfl))
  f171 := Tryz.func56.trans (congrArg some (by kernel_rfl))
  f243 := Tryz.func94.trans (congrArg some (by kernel_rfl))
  f246 := Tryz.func121.trans (congrArg some (by kernel_rfl))
  f283 := Tryz.func134.trans (congrArg some (by kernel_rfl))
  f284 := Tryz.func135.trans (congrArg some (by kernel_rfl))
  f285 := Tryz.func136.trans (congrArg some (by kernel_rfl))
  f286 := Tryz.func137.trans (congrArg some (by kernel_rfl))
  f317 := Tryz.func156.trans (congrArg some (by kernel_rfl))
  f318 := Tryz.func157.trans (congrArg some (by kernel_rfl))
  f319 := Tryz.func158.trans (congrArg some (by kernel_rfl))
  f320 := Tryz.func159.trans (congrArg some (by kernel_rfl))
  f337 := Tryz.func172.trans (congrArg some (by kernel_rfl))
  f338 := Tryz.func173.trans (congrArg some (by kernel_rfl))
  t0 := Tryz.underlying0
  a0 := Tryz.isAgg0
  z0 := Tryz.sizeOf0
  v0 := Tryz.zeroValue0
  t2 := Tryz.underlying2
  a2 := Tryz.isAgg2
  z2 := Tryz.sizeOf2
  v2 := Tryz.zeroValue2
  t3 := Tryz.underlying3
  a3 := Tryz.isAgg3
  z3 := Tryz.sizeOf3
  v3 := Tryz.zeroValue3
  t4 := Tryz.underlying4
  a4 := Tryz.isAgg4
  z4 := Tryz.sizeOf4
  v4 := Tryz.zeroValue4
  t5 := Tryz.underlying5
  a5 := Tryz.isAgg5
  z5 := Tryz.sizeOf5
  v5 := Tryz.zeroValue5
  t9 := Tryz.underlying9
  a9 := Tryz.isAgg9
  z9 := Tryz.sizeOf9
  v9 := Tryz.zeroValue9
  t20 := Tryz.underlying20
  a20 := Tryz.isAgg20
  z20 := Tryz.sizeOf20
  v20 := Tryz.zeroValue20
  t37 := Tryz.underlying22
  a37 := Tryz.isAgg22
  z37 := Tryz.sizeOf22
  v37 := Tryz.zeroValue22
  t46 := Tryz.underlying45
  a46 := Tryz.isAgg45
  z46 := Tryz.sizeOf45
  v46 := Tryz.zeroValue45
  t51 := Tryz.underlying202
  a51 := Tryz.isAgg202
  z51 := Tryz.sizeOf202
  v51 := Tryz.zeroValue202
  t53 := Tryz.underlying36
  a53 := Tryz.isAgg36
  z53 := Tryz.sizeOf36
  v53 := Tryz.zeroValue36
  t171 := Tryz.underlying190
  a171 := Tryz.isAgg190
  z171 := Tryz.sizeOf190
  v171 := Tryz.zeroValue190
  t173 := Tryz.underlying192
  a173 := Tryz.isAgg192
  z173 := Tryz.sizeOf192
  v173 := Tryz.zeroValue192
  t212 := Tryz.underlying211
  a212 := Tryz.isAgg211
  z212 := Tryz.sizeOf211
  v212 := Tryz.zeroValue211
  t213 := Tryz.underlying212
  a213 := Tryz.isAgg212
  z213 := Tryz.sizeOf212
  t232 := Tryz.underlying235
  a232 := Tryz.isAgg235
  z232 := Tryz.sizeOf235
  v232 := Tryz.zeroValue235
  t233 := Tryz.underlying236
  a233 := Tryz.isAgg236
  z233 := Tryz.sizeOf236
  v233 := Tryz.zeroValue236
  g17 := by kernel_rfl
  g18 := by kernel_rfl
  g19 := by kernel_rfl
  i0 := by kernel_rfl
  i2 := by kernel_rfl
  i3 := by kernel_rfl
  i4 := by kernel_rfl
  i5 := by kernel_rfl
  i9 := by kernel_rfl
  i20 := by kernel_rfl
  i37 := by kernel_rfl
  i46 := by kernel_rfl
  i51 := by kernel_rfl
  i53 := by kernel_rfl
  i171 := by kernel_rfl
  i173 := by kernel_rfl
  i212 := by kernel_rfl
  i232 := by kernel_rfl
  i233 := by kernel_rfl
  m17 := by kernel_rfl
  m18 := by kernel_rfl
  m19 := by kernel_rfl }
open Go.RowKit Go.Sort Go.Lib in
/-- strconv.Itoa: "Itoa is equivalent to FormatInt(int64(i), 10).": i's DECIMAL NUMERAL ('Lib.itoa': a '-' where i is negative, then the digits), FOR EVERY int. The world behind the call: the world before it, new blocks behind the heap (the library's 'var a [24]byte'), draws. (LAID: no walk: one application.) -/
theorem Tryz.strconv_Itoa (n : Int) (h0 : -9223372036854775808 ≤ n) (h1 : n ≤ 9223372036854775807) (w : World) (htab : Lib.TabIs Tryz.prog w "internal/strconv.uint64pow10" .u64 Lib.pow10Tab) :
    Calls Tryz.prog 56 #[.int .i64 n] w fun e w' => e = .returned (.string ⟨(Lib.itoa n).toArray⟩) ∧ ∃ k os, w' = grow (w.drewN k) os := Any.strconv_Itoa Tryz.laysM171 n h0 h1 w htab
def Tryz.laysC172_ren : Go.Shelf.Ren := ⟨fun | 172 => 126 | 244 => 150 | 245 => 151 | 247 => 166 | 279 => 167 | 280 => 168 | 281 => 169 | 282 => 170 | 287 => 175 | 316 => 176 | 171 => 56 | 205 => 177 | 321 => 178 | 322 => 179 | 243 => 94 | 246 => 121 | 283 => 134 | 284 => 135 | 285 => 136 | 286 => 137 | 129 => 149 | 317 => 156 | 318 => 157 | 319 => 158 | 320 => 159 | 337 => 172 | 338 => 173 | n => n, fun | 9 => 9 | 3 => 3 | 75 => 176 | 76 => 177 | 4 => 4 | 5 => 5 | 167 => 219 | 37 => 22 | 0 => 0 | 85 => 220 | 2 => 2 | 168 => 222 | 53 => 36 | 175 => 229 | 46 => 45 | 210 => 233 | 127 => 189 | 145 => 241 | 143 => 239 | 21 => 21 | 171 => 190 | 173 => 192 | 212 => 211 | 51 => 202 | 20 => 20 | 213 => 212 | 232 => 235 | 233 => 236 | 80 => 146 | n => n, fun | 15 => 1 | 16 => 2 | 17 => 0 | 18 => 4 | 19 => 5 | n => n⟩
theorem Tryz.laysC172 : Go.Proofs.LaysC.n172 Tryz.prog Tryz.laysC172_ren := {
  mixed := by kernel_rfl
  f129 := Tryz.func149.trans (congrArg some (by kernel_rfl))
  f171 := Tryz.func56.trans (congrArg some (by kernel_rfl))
  f172 := Tryz.func126.trans (congrArg some (by kernel_rfl))
  f205 := Tryz.func177.trans (congrArg some (by kernel_rfl))
  f243 := Tryz.func94.trans (congrArg some (by kernel_rfl))
  f244 := Tryz.func150.trans (congrArg some (by kernel_rfl))
  f245 := Tryz.func151.trans (congrArg some (by kernel_rfl))
  f246 := Tryz.func121.trans (congrArg some (by kernel_rfl))
  f247 := Tryz.func166.trans (congrArg some (by kernel_rfl))
  f279 := Tryz.func167.trans (congrArg some (by kernel_rfl))
  f280 := Tryz.func168.trans (congrArg some (by kernel_rfl))
  f281 := Tryz.func169.trans (congrArg some (by kernel_rfl))
  f282 := Tryz.func170.trans (congrArg some (by kernel_rfl))
  f283 := Tryz.func134.trans (congrArg some (by kernel_rfl))
  f284 := Tryz.func135.trans (congrArg some (by kernel_rfl))
  f285 := Tryz.func136.trans (congrArg some (by kernel_rfl))
  f286 := Tryz.func137.trans (congrArg some (by kernel_rfl))
  f287 := Tryz.func175.trans (congrArg some (by kernel_rfl))
  f316 := Tryz.func176.trans (congrArg some (by kernel_rfl))
  f317 := Tryz.func156.trans (congrArg some (by kernel_rfl))
  f318 := Tryz.func157.trans (congrArg some (by kernel_rfl))
  f319 := Tryz.func158.trans (congrArg some (by kernel_rfl))
  f320 := Tryz.func159.trans (congrArg some (by kernel_rfl))
  f321 := Tryz.func178.trans (congrArg some (by kernel_rfl))
  f322 := Tryz.func179.trans (congrArg some (by kernel_rfl))
  f337 := Tryz.func172.trans (congrArg some (by kernel_rfl))
  f338 := Tryz.func173.trans (congrArg some (by kernel_rfl))
  t0 := Tryz.underlying0
  a0 := Tryz.isAgg0
  z0 := Tryz.sizeOf0
  v0 := Tryz.zeroValue0
  t2 := Tryz.underlying2
  a2 := Tryz.isAgg2
  z2 := Tryz.sizeOf2
  v2 := Tryz.zeroValue2
  t3 := Tryz.underlying3
  a3 := Tryz.isAgg3
  z3 := Tryz.sizeOf3
  v3 := Tryz.zeroValue3
  t4 := Tryz.underlying4
  a4 := Tryz.isAgg4
  z4 := Tryz.sizeOf4
  v4 := Tryz.zeroValue4
  t5 := Tryz.underlying5
  a5 := Tryz.isAgg5
  z5 := Tryz.sizeOf5
  v5 := Tryz.zeroValue5
  t9 := Tryz.underlying9
  a9 := Tryz.isAgg9
  z9 := Tryz.sizeOf9
  v9 := Tryz.zeroValue9
  t20 := Tryz.underlying20
  a20 := Tryz.isAgg20
  z20 := Tryz.sizeOf20
  v20 := Tryz.zeroValue20
  t21 := Tryz.underlying21
  a21 := Tryz.isAgg21
  z21 := Tryz.sizeOf21
  v21 := Tryz.zeroValue21
  t37 := Tryz.underlying22
  a37 := Tryz.isAgg22
  z37 := Tryz.sizeOf22
  v37 := Tryz.zeroValue22
  t46 := Tryz.underlying45
  a46 := Tryz.isAgg45
  z46 := Tryz.sizeOf45
  v46 := Tryz.zeroValue45
  t51 := Tryz.underlying202
  a51 := Tryz.isAgg202
  z51 := Tryz.sizeOf202
  v51 := Tryz.zeroValue202
  t53 := Tryz.underlying36
  a53 := Tryz.isAgg36
  z53 := Tryz.sizeOf36
  v53 := Tryz.zeroValue36
  t75 := Tryz.underlying176
  a75 := Tryz.isAgg176
  z75 := Tryz.sizeOf176
  v75 := Tryz.zeroValue176
  t76 := Tryz.underlying177
  a76 := Tryz.isAgg177
  z76 := Tryz.sizeOf177
  v76 := Tryz.zeroValue177
  t85 := Tryz.underlying220
  a85 := Tryz.isAgg220
  z85 := Tryz.sizeOf220
  v85 := Tryz.zeroValue220
  t127 := Tryz.underlying189
  a127 := Tryz.isAgg189
  z127 := Tryz.sizeOf189
  v127 := Tryz.zeroValue189
  t143 := Tryz.underlying239
  a143 := Tryz.isAgg239
  z143 := Tryz.sizeOf239
  v143 := Tryz.zeroValue239
  t145 := Tryz.underlying241
  a145 := Tryz.isAgg241
  z145 := Tryz.sizeOf241
  v145 := Tryz.zeroValue241
  t167 := Tryz.underlying219
  a167 := Tryz.isAgg219
  z167 := Tryz.sizeOf219
  v167 := Tryz.zeroValue219
  t168 := Tryz.underlying222
  a168 := Tryz.isAgg222
  z168 := Tryz.sizeOf222
  v168 := Tryz.zeroValue222
  t171 := Tryz.underlying190
  a171 := Tryz.isAgg190
  z171 := Tryz.sizeOf190
  v171 := Tryz.zeroValue190
  t173 := Tryz.underlying192
  a173 := Tryz.isAgg192
  z173 := Tryz.sizeOf192
  v173 := Tryz.zeroValue192
  t175 := Tryz.underlying229
  a175 := Tryz.isAgg229
  z175 := Tryz.sizeOf229
  v175 := Tryz.zeroValue229
  t210 := Tryz.underlying233
  a210 := Tryz.isAgg233
  z210 := Tryz.sizeOf233
  v210 := Tryz.zeroValue233
  t212 := Tryz.underlying211
  a212 := Tryz.isAgg211
  z212 := Tryz.sizeOf211
  v212 := Tryz.zeroValue211
  t213 := Tryz.underlying212
  a213 := Tryz.isAgg212
  z213 := Tryz.sizeOf212
  t232 := Tryz.underlying235
  a232 := Tryz.isAgg235
  z232 := Tryz.sizeOf235
  v232 := Tryz.zeroValue235
  t233 := Tryz.underlying236
  a233 := Tryz.isAgg236
  z233 := Tryz.sizeOf236
  v233 := Tryz.zeroValue236
  g15 := by kernel_rfl
  g16 := by kernel_rfl
  g17 := by kernel_rfl
  g18 := by kernel_rfl
  g19 := by kernel_rfl
  t80 := Tryz.underlying146
  a80 := Tryz.isAgg146
  z80 := Tryz.sizeOf146
  v80 := Tryz.zeroValue146
  i0 := by kernel_rfl
  i2 := by kernel_rfl
  i3 := by kernel_rfl
  i4 := by kernel_rfl
  i5 := by kernel_rfl
  i9 := by kernel_rfl
  i20 := by kernel_rfl
  i21 := by kernel_rfl
  i37 := by kernel_rfl
  i46 := by kernel_rfl
  i51 := by kernel_rfl
  i53 := by kernel_rfl
  i75 := by kernel_rfl
  i76 := by kernel_rfl
  i80 := by kernel_rfl
  i85 := by kernel_rfl
  i127 := by kernel_rfl
  i143 := by kernel_rfl
  i145 := by kernel_rfl
  i167 := by kernel_rfl
  i168 := by kernel_rfl
  i171 := by kernel_rfl
  i173 := by kernel_rfl
  i175 := by kernel_rfl
  i210 := by kernel_rfl
  i212 := by kernel_rfl
  i232 := by kernel_rfl
  i233 := by kernel_rfl
  m15 := by kernel_rfl
  m16 := by kernel_rfl
  m17 := by kernel_rfl
  m18 := by kernel_rfl
  m19 := by kernel_rfl
  c0 := by kernel_rfl
  c2 := by kernel_rfl
  c3 := by kernel_rfl
  c4 := by kernel_rfl
  c5 := by kernel_rfl
  c9 := by kernel_rfl
  c20 := by kernel_rfl
  c21 := by kernel_rfl
  c37 := by kernel_rfl
  c46 := by kernel_rfl
  c51 := by kernel_rfl
  c53 := by kernel_rfl
  c75 := by kernel_rfl
  c76 := by kernel_rfl
  c80 := by kernel_rfl
  c85 := by kernel_rfl
  c127 := by kernel_rfl
  c143 := by kernel_rfl
  c145 := by kernel_rfl
  c167 := by kernel_rfl
  c168 := by kernel_rfl
  c171 := by kernel_rfl
  c173 := by kernel_rfl
  c175 := by kernel_rfl
  c210 := by kernel_rfl
  c212 := by kernel_rfl
  c213 := by kernel_rfl
  c232 := by kernel_rfl
  c233 := by kernel_rfl }
open Go.RowKit in
/-- strconv.Atoi, AT EVERY STRING THAT SPELLS AN int ('Lib.atoiAll .. = .ok v'; of whatever length: leading zeros count): v, AND NO ERROR. The world: as it was, or with the one new row that '[]byte(..)' lays. (LAID: no walk: one application.) -/
theorem Tryz.strconv_Atoi_ok (s : ByteArray) (hmax : s.size ≤ 9223372036854775806) (v : Int) (h : Lib.atoiAll s.data.toList = .ok v) (w : World) :
    Calls Tryz.prog 126 #[.string s] w fun e w' => e = .returned (.tuple #[.int .i64 v, .nilIface]) ∧ (w' = w ∨ ∃ t, w' = Lib.bytesWorld w 5 t) := Any.strconv_Atoi_ok Tryz.laysC172 s hmax v h w
def Tryz.lays189_ren : Go.Shelf.Ren := ⟨fun | 189 => 102 | 125 => 124 | 257 => 123 | 128 => 148 | 129 => 149 | 294 => 139 | 295 => 140 | 296 => 141 | 297 => 142 | 298 => 143 | 299 => 144 | 216 => 145 | 300 => 146 | 301 => 147 | 328 => 160 | 329 => 161 | 330 => 162 | 331 => 163 | 332 => 164 | 215 => 165 | 343 => 174 | n => n, fun | 28 => 71 | 3 => 3 | 46 => 45 | 0 => 0 | 51 => 202 | 53 => 36 | 4 => 4 | 183 => 196 | 182 => 195 | 131 => 107 | 5 => 5 | 9 => 9 | 218 => 213 | 222 => 217 | 228 => 226 | 229 => 227 | n => n, fun | n => n⟩
theorem Tryz.lays189 : Go.Proofs.Lays.n189 Tryz.prog Tryz.lays189_ren := {
  mixed := by kernel_rfl
  f125 := Tryz.func124.trans (congrArg some (by kernel_rfl))
  f128 := Tryz.func148.trans (congrArg some (by kernel_rfl))
  f129 := Tryz.func149.trans (congrArg some (by kernel_rfl))
  f189 := Tryz.func102.trans (congrArg some (by kernel_rfl))
  f215 := Tryz.func165.trans (congrArg some (by kernel_rfl))
  f216 := Tryz.func145.trans (congrArg some (by kernel_rfl))
  f257 := Tryz.func123.trans (congrArg some (by kernel_rfl))
  f294 := Tryz.func139.trans (congrArg some (by kernel_rfl))
  f295 := Tryz.func140.trans (congrArg some (by kernel_rfl))
  f296 := Tryz.func141.trans (congrArg some (by kernel_rfl))
  f297 := Tryz.func142.trans (congrArg some (by kernel_rfl))
  f298 := Tryz.func143.trans (congrArg some (by kernel_rfl))
  f299 := Tryz.func144.trans (congrArg some (by kernel_rfl))
  f300 := Tryz.func146.trans (congrArg some (by kernel_rfl))
  f301 := Tryz.func147.trans (congrArg some (by kernel_rfl))
  f328 := Tryz.func160.trans (congrArg some (by kernel_rfl))
  f329 := Tryz.func161.trans (congrArg some (by kernel_rfl))
  f330 := Tryz.func162.trans (congrArg some (by kernel_rfl))
  f331 := Tryz.func163.trans (congrArg some (by kernel_rfl))
  f332 := Tryz.func164.trans (congrArg some (by kernel_rfl))
  f343 := Tryz.func174.trans (congrArg some (by kernel_rfl))
  t0 := Tryz.underlying0
  a0 := Tryz.isAgg0
  z0 := Tryz.sizeOf0
  v0 := Tryz.zeroValue0
  t3 := Tryz.underlying3
  a3 := Tryz.isAgg3
  z3 := Tryz.sizeOf3
  v3 := Tryz.zeroValue3
  t4 := Tryz.underlying4
  a4 := Tryz.isAgg4
  z4 := Tryz.sizeOf4
  v4 := Tryz.zeroValue4
  t5 := Tryz.underlying5
  a5 := Tryz.isAgg5
  z5 := Tryz.sizeOf5
  v5 := Tryz.zeroValue5
  t9 := Tryz.underlying9
  a9 := Tryz.isAgg9
  z9 := Tryz.sizeOf9
  v9 := Tryz.zeroValue9
  t28 := Tryz.underlying71
  a28 := Tryz.isAgg71
  z28 := Tryz.sizeOf71
  v28 := Tryz.zeroValue71
  t46 := Tryz.underlying45
  a46 := Tryz.isAgg45
  z46 := Tryz.sizeOf45
  v46 := Tryz.zeroValue45
  t51 := Tryz.underlying202
  a51 := Tryz.isAgg202
  z51 := Tryz.sizeOf202
  v51 := Tryz.zeroValue202
  t53 := Tryz.underlying36
  a53 := Tryz.isAgg36
  z53 := Tryz.sizeOf36
  v53 := Tryz.zeroValue36
  t131 := Tryz.underlying107
  a131 := Tryz.isAgg107
  z131 := Tryz.sizeOf107
  v131 := Tryz.zeroValue107
  t182 := Tryz.underlying195
  a182 := Tryz.isAgg195
  z182 := Tryz.sizeOf195
  v182 := Tryz.zeroValue195
  t183 := Tryz.underlying196
  a183 := Tryz.isAgg196
  z183 := Tryz.sizeOf196
  v183 := Tryz.zeroValue196
  t218 := Tryz.underlying213
  a218 := Tryz.isAgg213
  z218 := Tryz.sizeOf213
  v218 := Tryz.zeroValue213
  t222 := Tryz.underlying217
  a222 := Tryz.isAgg217
  z222 := Tryz.sizeOf217
  v222 := Tryz.zeroValue217
  t228 := Tryz.underlying226
  a228 := Tryz.isAgg226
  z228 := Tryz.sizeOf226
  v228 := Tryz.zeroValue226
  t229 := Tryz.underlying227
  a229 := Tryz.isAgg227
  z229 := Tryz.sizeOf227
  v229 := Tryz.zeroValue227 }
open Go.Sort Go.RowKit in
theorem Tryz.slices_Sort_int (blk off cap : Nat) (zs : List Int) (w : World) (hH : Holds (Value.int .i64) w blk off zs.toArray) (hblk : blk < w.heap.size) (hsz : zs.length < 4611686018427387904) :
    Calls Tryz.prog 102 #[.slice (some ⟨blk, off, none⟩) zs.length cap] w fun e w' =>
      e = .returned (.tuple #[]) ∧ ∃ n os, w' = grow (putRow (Value.int .i64) (Sort.ahead w n) blk off (zs.mergeSort fun x y => decide (x ≤ y)).toArray) os := Any.slices_Sort_int Tryz.lays189 blk off cap zs w hH hblk hsz
def Tryz.lays105_ren : Go.Shelf.Ren := ⟨fun | 105 => 119 | 212 => 130 | 99 => 131 | 165 => 132 | 166 => 118 | 170 => 133 | 169 => 120 | 263 => 153 | 264 => 154 | 206 => 138 | 240 => 129 | 241 => 155 | 276 => 152 | 277 => 171 | n => n, fun | 9 => 9 | 3 => 3 | 4 => 4 | 20 => 20 | 0 => 0 | 46 => 45 | 109 => 185 | 5 => 5 | 72 => 170 | 76 => 177 | 51 => 202 | 146 => 206 | 53 => 36 | 148 => 208 | 70 => 168 | 37 => 22 | 75 => 176 | 127 => 189 | 164 => 204 | 80 => 146 | n => n, fun | n => n⟩
theorem Tryz.lays105 : Go.Proofs.Lays.n105 Tryz.prog Tryz.lays105_ren := {
  mixed := by kernel_rfl
  f99 := Tryz.func131.trans (congrArg some (by kernel_rfl))
  f105 := Tryz.func119.trans (congrArg some (by kernel_rfl))
  f165 := Tryz.func132.trans (congrArg some (by kernel_rfl))
  f166 := Tryz.func118.trans (congrArg some (by kernel_rfl))
  f169 := Tryz.func120.trans (congrArg some (by kernel_rfl))
  f170 := Tryz.func133.trans (congrArg some (by kernel_rfl))
  f206 := Tryz.func138.trans (congrArg some (by kernel_rfl))
  f212 := Tryz.func130.trans (congrArg some (by kernel_rfl))
  f240 := Tryz.func129.trans (congrArg some (by kernel_rfl))
  f241 := Tryz.func155.trans (congrArg some (by kernel_rfl))
  f263 := Tryz.func153.trans (congrArg some (by kernel_rfl))
  f264 := Tryz.func154.trans (congrArg some (by kernel_rfl))
  f276 := Tryz.func152.trans (congrArg some (by kernel_rfl))
  f277 := Tryz.func171.trans (congrArg some (by kernel_rfl))
  t0 := Tryz.underlying0
  a0 := Tryz.isAgg0
  z0 := Tryz.sizeOf0
  v0 := Tryz.zeroValue0
  t3 := Tryz.underlying3
  a3 := Tryz.isAgg3
  z3 := Tryz.sizeOf3
  v3 := Tryz.zeroValue3
  t4 := Tryz.underlying4
  a4 := Tryz.isAgg4
  z4 := Tryz.sizeOf4
  v4 := Tryz.zeroValue4
  t5 := Tryz.underlying5
  a5 := Tryz.isAgg5
  z5 := Tryz.sizeOf5
  v5 := Tryz.zeroValue5
  t9 := Tryz.underlying9
  a9 := Tryz.isAgg9
  z9 := Tryz.sizeOf9
  v9 := Tryz.zeroValue9
  t20 := Tryz.underlying20
  a20 := Tryz.isAgg20
  z20 := Tryz.sizeOf20
  v20 := Tryz.zeroValue20
  t37 := Tryz.underlying22
  a37 := Tryz.isAgg22
  z37 := Tryz.sizeOf22
  v37 := Tryz.zeroValue22
  t46 := Tryz.underlying45
  a46 := Tryz.isAgg45
  z46 := Tryz.sizeOf45
  v46 := Tryz.zeroValue45
  t51 := Tryz.underlying202
  a51 := Tryz.isAgg202
  z51 := Tryz.sizeOf202
  v51 := Tryz.zeroValue202
  t53 := Tryz.underlying36
  a53 := Tryz.isAgg36
  z53 := Tryz.sizeOf36
  v53 := Tryz.zeroValue36
  t70 := Tryz.underlying168
  a70 := Tryz.isAgg168
  z70 := Tryz.sizeOf168
  v70 := Tryz.zeroValue168
  t72 := Tryz.underlying170
  a72 := Tryz.isAgg170
  z72 := Tryz.sizeOf170
  v72 := Tryz.zeroValue170
  t75 := Tryz.underlying176
  a75 := Tryz.isAgg176
  z75 := Tryz.sizeOf176
  v75 := Tryz.zeroValue176
  t76 := Tryz.underlying177
  a76 := Tryz.isAgg177
  z76 := Tryz.sizeOf177
  v76 := Tryz.zeroValue177
  t109 := Tryz.underlying185
  a109 := Tryz.isAgg185
  z109 := Tryz.sizeOf185
  v109 := Tryz.zeroValue185
  t127 := Tryz.underlying189
  a127 := Tryz.isAgg189
  z127 := Tryz.sizeOf189
  v127 := Tryz.zeroValue189
  t146 := Tryz.underlying206
  a146 := Tryz.isAgg206
  z146 := Tryz.sizeOf206
  v146 := Tryz.zeroValue206
  t148 := Tryz.underlying208
  a148 := Tryz.isAgg208
  z148 := Tryz.sizeOf208
  v148 := Tryz.zeroValue208
  t164 := Tryz.underlying204
  a164 := Tryz.isAgg204
  z164 := Tryz.sizeOf204
  v164 := Tryz.zeroValue204 }
theorem Tryz.Builder_Extra_105 : Builder.Extra Tryz.prog Tryz.lays105_ren := {
  sizeBuilder := by kernel_rfl
  liesBuilder := by kernel_rfl
  t5 := Tryz.underlying5
  a5 := Tryz.isAgg5
  z5 := Tryz.sizeOf5
  v5 := Tryz.zeroValue5
  infoByte := by kernel_rfl
  cellsByte := by kernel_rfl
  sizeByte := by kernel_rfl
  neB5 := by decide }
open Go.RowKit Go.Lib in
/-- **strings.Repeat: count ≥ 0, the result within one allocation: count copies of s.** (LAID: no walk: one application.) -/
theorem Tryz.strings_Repeat (s : ByteArray) (c : Nat) (w : World) (hc : c ≤ 9223372036854775807) (hlen : s.size * c ≤ 140737488355328) :
    Calls Tryz.prog 119 #[.string s, .int .i64 c] w fun e w' => e = .returned (.string ⟨(Lib.repeatL s.data.toList c).toArray⟩) ∧ Below w.heap.size w w' := Any.strings_Repeat Tryz.lays105 Tryz.Builder_Extra_105 s c w hc hlen
def Tryz.laysNm220_ren : Go.Shelf.Ren := ⟨fun | 20 => 103 | n => n, fun | 22 => 71 | 3 => 3 | 4 => 4 | 0 => 0 | n => n, fun | n => n⟩
theorem Tryz.laysNm220 : Go.Proofs.Lays2.n20 Tryz.prog Tryz.laysNm220_ren := {
  mixed := by kernel_rfl
  f20 := Tryz.func103.trans (congrArg some (by kernel_rfl))
  t0 := Tryz.underlying0
  a0 := Tryz.isAgg0
  z0 := Tryz.sizeOf0
  v0 := Tryz.zeroValue0
  t3 := Tryz.underlying3
  a3 := Tryz.isAgg3
  z3 := Tryz.sizeOf3
  v3 := Tryz.zeroValue3
  t4 := Tryz.underlying4
  a4 := Tryz.isAgg4
  z4 := Tryz.sizeOf4
  v4 := Tryz.zeroValue4
  t22 := Tryz.underlying71
  a22 := Tryz.isAgg71
  z22 := Tryz.sizeOf71
  v22 := Tryz.zeroValue71
  i3 := by kernel_rfl }
open Go.RowKit Go.Lib Go.Sort in
/-- slices.Compact at []int: "Compact replaces consecutive runs of equal elements with a single copy. This is like the uniq command found on Unix. Compact modifies the contents of the slice s and returns the modified slice, which may have a smaller length. Compact zeroes the elements between the new length and the original length. The result preserves the nilness of s.": IT RETURNS THE SLICE CUT TO 'Lib.compact zs'; ITS CELLS HOLD 'Lib.compact zs', THEN ZERO VALUES up to the old length; all else is as it was, but for the count of draws. IN THE WORDS OF slices.Sort's CONTRACT ('Holds', 'putRow'): so the everyday 'slices.Sort(xs); xs = slices.Compact(xs)' goes from the one contract to the other. It asks 'zs.length ≤ cap' (every slice's: the reslicing 's[:k]' looks at it). Length 0, nil: '.._empty'. (LAID: no walk: one application.) -/
theorem Tryz.slices_Compact_int (blk off cap : Nat) (zs : List Int) (w : World) (hH : Holds (Value.int .i64) w blk off zs.toArray) (hsz : zs.length ≤ 9223372036854775807) (hcap : zs.length ≤ cap) :
    Calls Tryz.prog 103 #[.slice (some ⟨blk, off, none⟩) zs.length cap] w fun e w' => e = .returned (.slice (some ⟨blk, off, none⟩) (Lib.compact zs).length cap) ∧ ∃ q, w' = putRow (Value.int .i64) (Sort.ahead w q) blk off (Lib.compact zs ++ List.replicate (zs.length - (Lib.compact zs).length) 0).toArray := Any.slices_Compact_int Tryz.laysNm220 blk off cap zs w hH hsz hcap
open Go.RowKit Go.Lib Go.Sort in
/-- The same at a slice of length 0, a nil one too: it comes back as it is. (LAID: no walk: one application.) -/
theorem Tryz.slices_Compact_int_empty (a : Option Addr) (cap : Nat) (w : World) :
    Calls Tryz.prog 103 #[.slice a 0 cap] w fun e w' => e = .returned (.slice a 0 cap) ∧ w' = w := Any.slices_Compact_int_empty Tryz.laysNm220 a cap w
open Go.RowKit Go.Sort in
/-- .. and plain. (LAID: no walk: one application.) -/
theorem Tryz.slices_Sort_int_none (p : Option Addr) (cap : Nat) (w : World) :
    Calls Tryz.prog 102 #[.slice p 0 cap] w fun e w' => e = .returned (.tuple #[]) ∧ w' = w := Any.slices_Sort_int_none Tryz.lays189 p cap w
end Go.Proofs

