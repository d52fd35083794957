/-
  DERIVED: THE SHELF's CONTRACTS AT THIS DUMP, IN PLAIN WORDS (tools/lay-plain.mjs out of 'YteaahhokaffmdaaGreatDoorShelf2.lean', which tools/lay-shelf.mjs wrote): THE SAME DECLARATIONS UNDER THE SAME NAMES: 'import', 'namespace', 'open', 'def', 'theorem' AND NOTHING ELSE: no command of the shelf's: FOR A HAND-IN. Each laying: the table of numbers ('.._ren') and one theorem, a field a fact of the dump's own or the kernel's comparison; each contract: ONE APPLICATION.
-/
import Derived.Shelf.Strings.Builder1
import Derived.Shelf.Strings.Builder2
import Derived.Shelf.Strings.OnBuilder
import Derived.Shelf.Strings.Trim
import Derived.Shelf.Small.Utf8
import Derived.Shelf.Small.Bits
import Derived.Shelf.Small.Strs
import Derived.Shelf.Small.Wraps
import Derived.Shelf.Strings.BuilderF
import Derived.Shelf.Strconv.Atoi
import Derived.Shelf.Strconv.Itoa0
import Derived.Shelf.Strconv.Itoa1
import Derived.Shelf.LaysM
import Derived.Shelf.Strconv.Itoa2
import Derived.Shelf.Strconv.Itoa3
import Derived.Shelf.Strconv.AtoiErrFast
import Derived.Shelf.Strconv.ParseIntEmpty
import Derived.Shelf.Strconv.AtoiFail
import Derived.Shelf.Strconv.Clone
import Derived.Shelf.Strconv.SyntaxError
import Derived.Shelf.LaysC
import Derived.Shelf.Strconv.ToError
import Derived.Shelf.Strconv.Lower
import Derived.Shelf.Strconv.ParseUint10
import Derived.Shelf.Strconv.ParseUint10Empty
import Derived.Shelf.Strconv.ParseUint10Any
import Derived.Shelf.Strconv.ParseInt10
import Derived.Shelf.Strconv.AtoiLong
import Derived.Shelf.Strconv.AtoiInnerAll
import Derived.Shelf.Strconv.RangeError
import Derived.Shelf.Strconv.ToErrorRange
import Derived.Shelf.Strconv.AtoiAll
import Derived.Shelf.Strings.Search1
import Derived.Shelf.Strings.Search2
import Derived.Shelf.Strings.Cut
import Derived.Shelf.Strings.Shaped
import Derived.Shelf.Strings.Prefix
import Derived.Shelf.Strings.Runes
import Derived.Shelf.Strings.AsciiSet
import Derived.Shelf.Bits.Mul64
import Derived.Shelf.Strings.Repeat
import Derived.Shelf.Unicode.DecodeSlow
import Derived.Test.YteaahhokaffmdaaGreatDoorProg
namespace Go.Proofs
open Go.Shelf
def Tryz.lays162_ren : Go.Shelf.Ren := ⟨fun | 162 => 96 | 232 => 144 | 227 => 145 | 234 => 146 | 236 => 147 | 228 => 204 | 271 => 205 | 151 => 206 | 120 => 231 | 197 => 232 | 152 => 233 | 260 => 244 | 137 => 46 | 119 => 245 | 224 => 219 | 225 => 218 | 217 => 74 | 266 => 117 | n => n, fun | 9 => 9 | 4 => 4 | 3 => 3 | 5 => 5 | 117 => 163 | 116 => 162 | 0 => 0 | 124 => 166 | 21 => 21 | 105 => 211 | 46 => 139 | 119 => 252 | 139 => 255 | 138 => 254 | n => n, fun | 3 => 4 | 4 => 5 | n => n⟩
theorem Tryz.lays162 : Go.Proofs.Lays.n162 Tryz.prog Tryz.lays162_ren := {
  mixed := by kernel_rfl
  f119 := Tryz.func245.trans (congrArg some (by kernel_rfl))
  f120 := Tryz.func231.trans (congrArg some (by kernel_rfl))
  f137 := Tryz.func46.trans (congrArg some (by kernel_rfl))
  f151 := Tryz.func206.trans (congrArg some (by kernel_rfl))
  f152 := Tryz.func233.trans (congrArg some (by kernel_rfl))
  f162 := Tryz.func96.trans (congrArg some (by kernel_rfl))
  f197 := Tryz.func232.trans (congrArg some (by kernel_rfl))
  f217 := Tryz.func74.trans (congrArg some (by kernel_rfl))
  f224 := Tryz.func219.trans (congrArg some (by kernel_rfl))
  f225 := Tryz.func218.trans (congrArg some (by kernel_rfl))
  f227 := Tryz.func145.trans (congrArg some (by kernel_rfl))
  f228 := Tryz.func204.trans (congrArg some (by kernel_rfl))
  f232 := Tryz.func144.trans (congrArg some (by kernel_rfl))
  f234 := Tryz.func146.trans (congrArg some (by kernel_rfl))
  f236 := Tryz.func147.trans (congrArg some (by kernel_rfl))
  f260 := Tryz.func244.trans (congrArg some (by kernel_rfl))
  f266 := Tryz.func117.trans (congrArg some (by kernel_rfl))
  f271 := Tryz.func205.trans (congrArg some (by kernel_rfl))
  t0 := Tryz.underlying0
  a0 := Tryz.isAgg0
  z0 := Tryz.sizeOf0
  v0 := Tryz.zeroValue0
  t3 := Tryz.underlying3
  a3 := Tryz.isAgg3
  z3 := Tryz.sizeOf3
  v3 := Tryz.zeroValue3
  t4 := Tryz.underlying4
  a4 := Tryz.isAgg4
  z4 := Tryz.sizeOf4
  v4 := Tryz.zeroValue4
  t5 := Tryz.underlying5
  a5 := Tryz.isAgg5
  z5 := Tryz.sizeOf5
  v5 := Tryz.zeroValue5
  t9 := Tryz.underlying9
  a9 := Tryz.isAgg9
  z9 := Tryz.sizeOf9
  v9 := Tryz.zeroValue9
  t21 := Tryz.underlying21
  a21 := Tryz.isAgg21
  z21 := Tryz.sizeOf21
  v21 := Tryz.zeroValue21
  t46 := Tryz.underlying139
  a46 := Tryz.isAgg139
  z46 := Tryz.sizeOf139
  v46 := Tryz.zeroValue139
  t105 := Tryz.underlying211
  a105 := Tryz.isAgg211
  z105 := Tryz.sizeOf211
  v105 := Tryz.zeroValue211
  t116 := Tryz.underlying162
  a116 := Tryz.isAgg162
  z116 := Tryz.sizeOf162
  t117 := Tryz.underlying163
  a117 := Tryz.isAgg163
  z117 := Tryz.sizeOf163
  v117 := Tryz.zeroValue163
  t119 := Tryz.underlying252
  a119 := Tryz.isAgg252
  z119 := Tryz.sizeOf252
  t124 := Tryz.underlying166
  a124 := Tryz.isAgg166
  z124 := Tryz.sizeOf166
  v124 := Tryz.zeroValue166
  t138 := Tryz.underlying254
  a138 := Tryz.isAgg254
  z138 := Tryz.sizeOf254
  v138 := Tryz.zeroValue254
  t139 := Tryz.underlying255
  a139 := Tryz.isAgg255
  z139 := Tryz.sizeOf255
  v139 := Tryz.zeroValue255
  g3 := by kernel_rfl
  g4 := by kernel_rfl }
def Tryz.lays103_ren : Go.Shelf.Ren := ⟨fun | 103 => 77 | 210 => 121 | 206 => 175 | n => n, fun | 9 => 9 | 4 => 4 | 24 => 101 | 3 => 3 | n => n, fun | n => n⟩
theorem Tryz.lays103 : Go.Proofs.Lays.n103 Tryz.prog Tryz.lays103_ren := {
  mixed := by kernel_rfl
  f103 := Tryz.func77.trans (congrArg some (by kernel_rfl))
  f206 := Tryz.func175.trans (congrArg some (by kernel_rfl))
  f210 := Tryz.func121.trans (congrArg some (by kernel_rfl))
  t3 := Tryz.underlying3
  a3 := Tryz.isAgg3
  z3 := Tryz.sizeOf3
  v3 := Tryz.zeroValue3
  t4 := Tryz.underlying4
  a4 := Tryz.isAgg4
  z4 := Tryz.sizeOf4
  v4 := Tryz.zeroValue4
  t9 := Tryz.underlying9
  a9 := Tryz.isAgg9
  z9 := Tryz.sizeOf9
  v9 := Tryz.zeroValue9
  t24 := Tryz.underlying101
  a24 := Tryz.isAgg101
  z24 := Tryz.sizeOf101
  v24 := Tryz.zeroValue101 }
def Tryz.laysM171_ren : Go.Shelf.Ren := ⟨fun | 171 => 224 | 243 => 242 | 246 => 246 | 283 => 247 | 284 => 248 | 285 => 249 | 286 => 250 | 129 => 170 | 317 => 251 | 318 => 252 | 319 => 253 | 320 => 254 | 337 => 255 | 338 => 256 | n => n, fun | 3 => 3 | 9 => 9 | 2 => 2 | 4 => 4 | 171 => 256 | 0 => 0 | 53 => 171 | 37 => 74 | 5 => 5 | 173 => 258 | 212 => 261 | 51 => 26 | 20 => 20 | 213 => 262 | 46 => 139 | 232 => 263 | 233 => 264 | n => n, fun | 17 => 6 | 18 => 7 | 19 => 8 | n => n⟩
theorem Tryz.laysM171 : Go.Proofs.LaysM.n171 Tryz.prog Tryz.laysM171_ren := {
  mixed := by kernel_rfl
  f129 := Tryz.func170.trans (congrArg some (by kernel_rfl))
  f171 := Tryz.func224.trans (congrArg some (by kernel_rfl))
  f243 := Tryz.func242.trans (congrArg some (by kernel_rfl))
  f246 := Tryz.func246.trans (congrArg some (by kernel_rfl))
  f283 := Tryz.func247.trans (congrArg some (by kernel_rfl))
  f284 := Tryz.func248.trans (congrArg some (by kernel_rfl))
  f285 := Tryz.func249.trans (congrArg some (by kernel_rfl))
  f286 := Tryz.func250.trans (congrArg some (by kernel_rfl))
  f317 := Tryz.func251.trans (congrArg some (by kernel_rfl))
  f318 := Tryz.func252.trans (congrArg some (by kernel_rfl))
  f319 := Tryz.func253.trans (congrArg some (by kernel_rfl))
  f320 := Tryz.func254.trans (congrArg some (by kernel_rfl))
  f337 := Tryz.func255.trans (congrArg some (by kernel_rfl))
  f338 := Tryz.func256.trans (congrArg some (by kernel_rfl))
  t0 := Tryz.underlying0
  a0 := Tryz.isAgg0
  z0 := Tryz.sizeOf0
  v0 := Tryz.zeroValue0
  t2 := Tryz.underlying2
  a2 := Tryz.isAgg2
  z2 := Tryz.sizeOf2
  v2 := Tryz.zeroValue2
  t3 := Tryz.underlying3
  a3 := Tryz.isAgg3
  z3 := Tryz.sizeOf3
  v3 := Tryz.zeroValue3
  t4 := Tryz.underlying4
  a4 := Tryz.isAgg4
  z4 := Tryz.sizeOf4
  v4 := Tryz.zeroValue4
  t5 := Tryz.underlying5
  a5 := Tryz.isAgg5
  z5 := Tryz.sizeOf5
  v5 := Tryz.zeroValue5
  t9 := Tryz.underlying9
  a9 := Tryz.isAgg9
  z9 := Tryz.sizeOf9
  v9 := Tryz.zeroValue9
  t20 := Tryz.underlying20
  a20 := Tryz.isAgg20
  z20 := Tryz.sizeOf20
  v20 := Tryz.zeroValue20
  t37 := Tryz.underlying74
  a37 := Tryz.isAgg74
  z37 := Tryz.sizeOf74
  v37 := Tryz.zeroValue74
  t46 := Tryz.underlying139
  a46 := Tryz.isAgg139
  z46 := Tryz.sizeOf139
  v46 := Tryz.zeroValue139
  t51 := Tryz.underlying26
  a51 := Tryz.isAgg26
  z51 := Tryz.sizeOf26
  v51 := Tryz.zeroValue26
  t53 := Tryz.underlying171
  a53 := Tryz.isAgg171
  z53 := Tryz.sizeOf171
  v53 := Tryz.zeroValue171
  t171 := Tryz.underlying256
  a171 := Tryz.isAgg256
  z171 := Tryz.sizeOf256
  v171 := Tryz.zeroValue256
  t173 := Tryz.underlying258
  a173 := Tryz.isAgg258
  z173 := Tryz.sizeOf258
  v173 := Tryz.zeroValue258
  t212 := Tryz.underlying261
  a212 := Tryz.isAgg261
  z212 := Tryz.sizeOf261
  v212 := Tryz.zeroValue261
  t213 := Tryz.underlying262
  a213 := Tryz.isAgg262
  z213 := Tryz.sizeOf262
  t232 := Tryz.underlying263
  a232 := Tryz.isAgg263
  z232 := Tryz.sizeOf263
  v232 := Tryz.zeroValue263
  t233 := Tryz.underlying264
  a233 := Tryz.isAgg264
  z233 := Tryz.sizeOf264
  v233 := Tryz.zeroValue264
  g17 := by kernel_rfl
  g18 := by kernel_rfl
  g19 := by kernel_rfl
  i0 := by kernel_rfl
  i2 := by kernel_rfl
  i3 := by kernel_rfl
  i4 := by kernel_rfl
  i5 := by kernel_rfl
  i9 := by kernel_rfl
  i20 := by kernel_rfl
  i37 := by kernel_rfl
  i46 := by kernel_rfl
  i51 := by kernel_rfl
  i53 := by kernel_rfl
  i171 := by kernel_rfl
  i173 := by kernel_rfl
  i212 := by kernel_rfl
  i232 := by kernel_rfl
  i233 := by kernel_rfl
  m17 := by kernel_rfl
  m18 := by kernel_rfl
  m19 := by kernel_rfl }
def Tryz.laysC172_ren : Go.Shelf.Ren := ⟨fun | 172 => 80 | 244 => 123 | 245 => 124 | 247 => 177 | 279 => 178 | 280 => 179 | 281 => 180 | 282 => 181 | 287 => 221 | 316 => 222 | 171 => 224 | 205 => 223 | 321 => 240 | 322 => 241 | 243 => 242 | 246 => 246 | 283 => 247 | 284 => 248 | 285 => 249 | 286 => 250 | 129 => 170 | 317 => 251 | 318 => 252 | 319 => 253 | 320 => 254 | 337 => 255 | 338 => 256 | n => n, fun | 9 => 9 | 3 => 3 | 75 => 107 | 76 => 108 | 4 => 4 | 5 => 5 | 167 => 184 | 37 => 74 | 0 => 0 | 85 => 185 | 2 => 2 | 168 => 187 | 53 => 171 | 175 => 226 | 46 => 139 | 210 => 230 | 127 => 167 | 145 => 249 | 143 => 247 | 21 => 21 | 171 => 256 | 173 => 258 | 212 => 261 | 51 => 26 | 20 => 20 | 213 => 262 | 232 => 263 | 233 => 264 | 80 => 129 | n => n, fun | 15 => 1 | 16 => 2 | 17 => 6 | 18 => 7 | 19 => 8 | n => n⟩
theorem Tryz.laysC172 : Go.Proofs.LaysC.n172 Tryz.prog Tryz.laysC172_ren := {
  mixed := by kernel_rfl
  f129 := Tryz.func170.trans (congrArg some (by kernel_rfl))
  f171 := Tryz.func224.trans (congrArg some (by kernel_rfl))
  f172 := Tryz.func80.trans (congrArg some (by kernel_rfl))
  f205 := Tryz.func223.trans (congrArg some (by kernel_rfl))
  f243 := Tryz.func242.trans (congrArg some (by kernel_rfl))
  f244 := Tryz.func123.trans (congrArg some (by kernel_rfl))
  f245 := Tryz.func124.trans (congrArg some (by kernel_rfl))
  f246 := Tryz.func246.trans (congrArg some (by kernel_rfl))
  f247 := Tryz.func177.trans (congrArg some (by kernel_rfl))
  f279 := Tryz.func178.trans (congrArg some (by kernel_rfl))
  f280 := Tryz.func179.trans (congrArg some (by kernel_rfl))
  f281 := Tryz.func180.trans (congrArg some (by kernel_rfl))
  f282 := Tryz.func181.trans (congrArg some (by kernel_rfl))
  f283 := Tryz.func247.trans (congrArg some (by kernel_rfl))
  f284 := Tryz.func248.trans (congrArg some (by kernel_rfl))
  f285 := Tryz.func249.trans (congrArg some (by kernel_rfl))
  f286 := Tryz.func250.trans (congrArg some (by kernel_rfl))
  f287 := Tryz.func221.trans (congrArg some (by kernel_rfl))
  f316 := Tryz.func222.trans (congrArg some (by kernel_rfl))
  f317 := Tryz.func251.trans (congrArg some (by kernel_rfl))
  f318 := Tryz.func252.trans (congrArg some (by kernel_rfl))
  f319 := Tryz.func253.trans (congrArg some (by kernel_rfl))
  f320 := Tryz.func254.trans (congrArg some (by kernel_rfl))
  f321 := Tryz.func240.trans (congrArg some (by kernel_rfl))
  f322 := Tryz.func241.trans (congrArg some (by kernel_rfl))
  f337 := Tryz.func255.trans (congrArg some (by kernel_rfl))
  f338 := Tryz.func256.trans (congrArg some (by kernel_rfl))
  t0 := Tryz.underlying0
  a0 := Tryz.isAgg0
  z0 := Tryz.sizeOf0
  v0 := Tryz.zeroValue0
  t2 := Tryz.underlying2
  a2 := Tryz.isAgg2
  z2 := Tryz.sizeOf2
  v2 := Tryz.zeroValue2
  t3 := Tryz.underlying3
  a3 := Tryz.isAgg3
  z3 := Tryz.sizeOf3
  v3 := Tryz.zeroValue3
  t4 := Tryz.underlying4
  a4 := Tryz.isAgg4
  z4 := Tryz.sizeOf4
  v4 := Tryz.zeroValue4
  t5 := Tryz.underlying5
  a5 := Tryz.isAgg5
  z5 := Tryz.sizeOf5
  v5 := Tryz.zeroValue5
  t9 := Tryz.underlying9
  a9 := Tryz.isAgg9
  z9 := Tryz.sizeOf9
  v9 := Tryz.zeroValue9
  t20 := Tryz.underlying20
  a20 := Tryz.isAgg20
  z20 := Tryz.sizeOf20
  v20 := Tryz.zeroValue20
  t21 := Tryz.underlying21
  a21 := Tryz.isAgg21
  z21 := Tryz.sizeOf21
  v21 := Tryz.zeroValue21
  t37 := Tryz.underlying74
  a37 := Tryz.isAgg74
  z37 := Tryz.sizeOf74
  v37 := Tryz.zeroValue74
  t46 := Tryz.underlying139
  a46 := Tryz.isAgg139
  z46 := Tryz.sizeOf139
  v46 := Tryz.zeroValue139
  t51 := Tryz.underlying26
  a51 := Tryz.isAgg26
  z51 := Tryz.sizeOf26
  v51 := Tryz.zeroValue26
  t53 := Tryz.underlying171
  a53 := Tryz.isAgg171
  z53 := Tryz.sizeOf171
  v53 := Tryz.zeroValue171
  t75 := Tryz.underlying107
  a75 := Tryz.isAgg107
  z75 := Tryz.sizeOf107
  v75 := Tryz.zeroValue107
  t76 := Tryz.underlying108
  a76 := Tryz.isAgg108
  z76 := Tryz.sizeOf108
  v76 := Tryz.zeroValue108
  t85 := Tryz.underlying185
  a85 := Tryz.isAgg185
  z85 := Tryz.sizeOf185
  v85 := Tryz.zeroValue185
  t127 := Tryz.underlying167
  a127 := Tryz.isAgg167
  z127 := Tryz.sizeOf167
  v127 := Tryz.zeroValue167
  t143 := Tryz.underlying247
  a143 := Tryz.isAgg247
  z143 := Tryz.sizeOf247
  v143 := Tryz.zeroValue247
  t145 := Tryz.underlying249
  a145 := Tryz.isAgg249
  z145 := Tryz.sizeOf249
  v145 := Tryz.zeroValue249
  t167 := Tryz.underlying184
  a167 := Tryz.isAgg184
  z167 := Tryz.sizeOf184
  v167 := Tryz.zeroValue184
  t168 := Tryz.underlying187
  a168 := Tryz.isAgg187
  z168 := Tryz.sizeOf187
  v168 := Tryz.zeroValue187
  t171 := Tryz.underlying256
  a171 := Tryz.isAgg256
  z171 := Tryz.sizeOf256
  v171 := Tryz.zeroValue256
  t173 := Tryz.underlying258
  a173 := Tryz.isAgg258
  z173 := Tryz.sizeOf258
  v173 := Tryz.zeroValue258
  t175 := Tryz.underlying226
  a175 := Tryz.isAgg226
  z175 := Tryz.sizeOf226
  v175 := Tryz.zeroValue226
  t210 := Tryz.underlying230
  a210 := Tryz.isAgg230
  z210 := Tryz.sizeOf230
  v210 := Tryz.zeroValue230
  t212 := Tryz.underlying261
  a212 := Tryz.isAgg261
  z212 := Tryz.sizeOf261
  v212 := Tryz.zeroValue261
  t213 := Tryz.underlying262
  a213 := Tryz.isAgg262
  z213 := Tryz.sizeOf262
  t232 := Tryz.underlying263
  a232 := Tryz.isAgg263
  z232 := Tryz.sizeOf263
  v232 := Tryz.zeroValue263
  t233 := Tryz.underlying264
  a233 := Tryz.isAgg264
  z233 := Tryz.sizeOf264
  v233 := Tryz.zeroValue264
  g15 := by kernel_rfl
  g16 := by kernel_rfl
  g17 := by kernel_rfl
  g18 := by kernel_rfl
  g19 := by kernel_rfl
  t80 := Tryz.underlying129
  a80 := Tryz.isAgg129
  z80 := Tryz.sizeOf129
  v80 := Tryz.zeroValue129
  i0 := by kernel_rfl
  i2 := by kernel_rfl
  i3 := by kernel_rfl
  i4 := by kernel_rfl
  i5 := by kernel_rfl
  i9 := by kernel_rfl
  i20 := by kernel_rfl
  i21 := by kernel_rfl
  i37 := by kernel_rfl
  i46 := by kernel_rfl
  i51 := by kernel_rfl
  i53 := by kernel_rfl
  i75 := by kernel_rfl
  i76 := by kernel_rfl
  i80 := by kernel_rfl
  i85 := by kernel_rfl
  i127 := by kernel_rfl
  i143 := by kernel_rfl
  i145 := by kernel_rfl
  i167 := by kernel_rfl
  i168 := by kernel_rfl
  i171 := by kernel_rfl
  i173 := by kernel_rfl
  i175 := by kernel_rfl
  i210 := by kernel_rfl
  i212 := by kernel_rfl
  i232 := by kernel_rfl
  i233 := by kernel_rfl
  m15 := by kernel_rfl
  m16 := by kernel_rfl
  m17 := by kernel_rfl
  m18 := by kernel_rfl
  m19 := by kernel_rfl
  c0 := by kernel_rfl
  c2 := by kernel_rfl
  c3 := by kernel_rfl
  c4 := by kernel_rfl
  c5 := by kernel_rfl
  c9 := by kernel_rfl
  c20 := by kernel_rfl
  c21 := by kernel_rfl
  c37 := by kernel_rfl
  c46 := by kernel_rfl
  c51 := by kernel_rfl
  c53 := by kernel_rfl
  c75 := by kernel_rfl
  c76 := by kernel_rfl
  c80 := by kernel_rfl
  c85 := by kernel_rfl
  c127 := by kernel_rfl
  c143 := by kernel_rfl
  c145 := by kernel_rfl
  c167 := by kernel_rfl
  c168 := by kernel_rfl
  c171 := by kernel_rfl
  c173 := by kernel_rfl
  c175 := by kernel_rfl
  c210 := by kernel_rfl
  c212 := by kernel_rfl
  c213 := by kernel_rfl
  c232 := by kernel_rfl
  c233 := by kernel_rfl }
def Tryz.lays217_ren : Go.Shelf.Ren := ⟨fun | 217 => 74 | 266 => 117 | n => n, fun | 9 => 9 | 5 => 5 | 3 => 3 | n => n, fun | n => n⟩
theorem Tryz.lays217 : Go.Proofs.Lays.n217 Tryz.prog Tryz.lays217_ren := {
  mixed := by kernel_rfl
  f217 := Tryz.func74.trans (congrArg some (by kernel_rfl))
  f266 := Tryz.func117.trans (congrArg some (by kernel_rfl))
  t3 := Tryz.underlying3
  a3 := Tryz.isAgg3
  z3 := Tryz.sizeOf3
  v3 := Tryz.zeroValue3
  t5 := Tryz.underlying5
  a5 := Tryz.isAgg5
  z5 := Tryz.sizeOf5
  v5 := Tryz.zeroValue5
  t9 := Tryz.underlying9
  a9 := Tryz.isAgg9
  z9 := Tryz.sizeOf9
  v9 := Tryz.zeroValue9 }
open Go.RowKit in
/-- strings.TrimRight: "TrimRight returns a slice of the string s, with all trailing Unicode code points contained in cutset removed.": AT A cutset OF ONE ASCII BYTE. The world is as it was. (LAID: no walk: one application.) -/
theorem Tryz.strings_TrimRight_one (s : ByteArray) (c : UInt8) (hc : c.toNat < 128) (w : World) (hs : s.size ≤ 9223372036854775807) :
    Calls Tryz.prog 96 #[.string s, .string ⟨#[c]⟩] w fun e w' => e = .returned (.string ⟨(Lib.trimRightB s.data.toList c).toArray⟩) ∧ w' = w := Any.strings_TrimRight_one Tryz.lays162 s c hc w hs
open Go.RowKit in
/-- strings.CutPrefix: "CutPrefix returns s without the provided leading prefix string and reports whether it found the prefix. If s doesn't start with prefix, CutPrefix returns s, false. If prefix is the empty string, CutPrefix returns s, true.": IT RETURNS '(Lib.trimPrefix s p, Lib.hasPrefix s p)'; the world is as it was. (LAID: no walk: one application.) -/
theorem Tryz.strings_CutPrefix (s p : ByteArray) (w : World) :
    Calls Tryz.prog 77 #[.string s, .string p] w fun e w' => e = .returned (.tuple #[.string ⟨(Lib.trimPrefix s.data.toList p.data.toList).toArray⟩, .bool (Lib.hasPrefix s.data.toList p.data.toList)]) ∧ w' = w := Any.strings_CutPrefix Tryz.lays103 s p w
open Go.RowKit Go.Sort Go.Lib in
/-- strconv.Itoa: "Itoa is equivalent to FormatInt(int64(i), 10).": i's DECIMAL NUMERAL ('Lib.itoa': a '-' where i is negative, then the digits), FOR EVERY int. The world behind the call: the world before it, new blocks behind the heap (the library's 'var a [24]byte'), draws. (LAID: no walk: one application.) -/
theorem Tryz.strconv_Itoa (n : Int) (h0 : -9223372036854775808 ≤ n) (h1 : n ≤ 9223372036854775807) (w : World) (htab : Lib.TabIs Tryz.prog w "internal/strconv.uint64pow10" .u64 Lib.pow10Tab) :
    Calls Tryz.prog 224 #[.int .i64 n] w fun e w' => e = .returned (.string ⟨(Lib.itoa n).toArray⟩) ∧ ∃ k os, w' = grow (w.drewN k) os := Any.strconv_Itoa Tryz.laysM171 n h0 h1 w htab
open Go.RowKit in
/-- strconv.Atoi, AT EVERY STRING THAT SPELLS AN int ('Lib.atoiAll .. = .ok v'; of whatever length: leading zeros count): v, AND NO ERROR. The world: as it was, or with the one new row that '[]byte(..)' lays. (LAID: no walk: one application.) -/
theorem Tryz.strconv_Atoi_ok (s : ByteArray) (hmax : s.size ≤ 9223372036854775806) (v : Int) (h : Lib.atoiAll s.data.toList = .ok v) (w : World) :
    Calls Tryz.prog 80 #[.string s] w fun e w' => e = .returned (.tuple #[.int .i64 v, .nilIface]) ∧ (w' = w ∨ ∃ t, w' = Lib.bytesWorld w 5 t) := Any.strconv_Atoi_ok Tryz.laysC172 s hmax v h w
open Go.RowKit Go.Lib in
/-- internal/stringslite.IndexByte (what strings.IndexByte calls): IT RETURNS 'Lib.indexByte s c'; the world is as it was. (LAID: no walk: one application.) -/
theorem Tryz.stringslite_IndexByte (s : ByteArray) (c : Int) (w : World) :
    Calls Tryz.prog 74 #[.string s, .int .u8 c] w fun e w' => e = .returned (.int .i64 (Lib.indexByte s.data.toList c.toNat.toUInt8)) ∧ w' = w := Any.stringslite_IndexByte Tryz.lays217 s c w
end Go.Proofs
