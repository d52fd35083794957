/-
  DERIVED: THE SHELF's CONTRACTS AT THIS DUMP, IN PLAIN WORDS (tools/lay-plain.mjs out of 'YteaahhokaffmdaaGreatDoorShelf3.lean', which tools/lay-shelf.mjs wrote): THE SAME DECLARATIONS UNDER THE SAME NAMES: 'import', 'namespace', 'open', 'def', 'theorem' AND NOTHING ELSE: no command of the shelf's: FOR A HAND-IN. Each laying: the table of numbers ('.._ren') and one theorem, a field a fact of the dump's own or the kernel's comparison; each contract: ONE APPLICATION.
-/
import Derived.Shelf.Strings.Builder1
import Derived.Shelf.Strings.Builder2
import Derived.Shelf.Strings.OnBuilder
import Derived.Shelf.Strings.Trim
import Derived.Shelf.Small.Utf8
import Derived.Shelf.Small.Bits
import Derived.Shelf.Small.Strs
import Derived.Shelf.Small.Wraps
import Derived.Shelf.Strings.BuilderF
import Derived.Shelf.Strconv.Atoi
import Derived.Shelf.Strconv.Itoa0
import Derived.Shelf.Strconv.Itoa1
import Derived.Shelf.LaysM
import Derived.Shelf.Strconv.Itoa2
import Derived.Shelf.Strconv.Itoa3
import Derived.Shelf.Strconv.AtoiErrFast
import Derived.Shelf.Strconv.ParseIntEmpty
import Derived.Shelf.Strconv.AtoiFail
import Derived.Shelf.Strconv.Clone
import Derived.Shelf.Strconv.SyntaxError
import Derived.Shelf.LaysC
import Derived.Shelf.Strconv.ToError
import Derived.Shelf.Strconv.Lower
import Derived.Shelf.Strconv.ParseUint10
import Derived.Shelf.Strconv.ParseUint10Empty
import Derived.Shelf.Strconv.ParseUint10Any
import Derived.Shelf.Strconv.ParseInt10
import Derived.Shelf.Strconv.AtoiLong
import Derived.Shelf.Strconv.AtoiInnerAll
import Derived.Shelf.Strconv.RangeError
import Derived.Shelf.Strconv.ToErrorRange
import Derived.Shelf.Strconv.AtoiAll
import Derived.Shelf.Strings.Search1
import Derived.Shelf.Strings.Search2
import Derived.Shelf.Strings.Cut
import Derived.Shelf.Strings.Shaped
import Derived.Shelf.Strings.Prefix
import Derived.Shelf.Strings.Runes
import Derived.Shelf.Strings.AsciiSet
import Derived.Shelf.Bits.Mul64
import Derived.Shelf.Strings.Repeat
import Derived.Shelf.Unicode.DecodeSlow
import Derived.Test.YteaahhokaffmdaaGreatDoorProg
namespace Go.Proofs
open Go.Shelf
def Tryz.lays105_ren : Go.Shelf.Ren := ⟨fun | 105 => 143 | 212 => 201 | 99 => 202 | 165 => 97 | 166 => 98 | 170 => 203 | 169 => 99 | 263 => 229 | 264 => 230 | 206 => 175 | 240 => 148 | 241 => 149 | 276 => 207 | 277 => 208 | n => n, fun | 9 => 9 | 3 => 3 | 4 => 4 | 20 => 20 | 0 => 0 | 46 => 139 | 109 => 209 | 5 => 5 | 72 => 127 | 76 => 108 | 51 => 26 | 146 => 207 | 53 => 171 | 148 => 235 | 70 => 125 | 37 => 74 | 75 => 107 | 127 => 167 | 164 => 214 | 80 => 129 | n => n, fun | n => n⟩
theorem Tryz.lays105 : Go.Proofs.Lays.n105 Tryz.prog Tryz.lays105_ren := {
  mixed := by kernel_rfl
  f99 := Tryz.func202.trans (congrArg some (by kernel_rfl))
  f105 := Tryz.func143.trans (congrArg some (by kernel_rfl))
  f165 := Tryz.func97.trans (congrArg some (by kernel_rfl))
  f166 := Tryz.func98.trans (congrArg some (by kernel_rfl))
  f169 := Tryz.func99.trans (congrArg some (by kernel_rfl))
  f170 := Tryz.func203.trans (congrArg some (by kernel_rfl))
  f206 := Tryz.func175.trans (congrArg some (by kernel_rfl))
  f212 := Tryz.func201.trans (congrArg some (by kernel_rfl))
  f240 := Tryz.func148.trans (congrArg some (by kernel_rfl))
  f241 := Tryz.func149.trans (congrArg some (by kernel_rfl))
  f263 := Tryz.func229.trans (congrArg some (by kernel_rfl))
  f264 := Tryz.func230.trans (congrArg some (by kernel_rfl))
  f276 := Tryz.func207.trans (congrArg some (by kernel_rfl))
  f277 := Tryz.func208.trans (congrArg some (by kernel_rfl))
  t0 := Tryz.underlying0
  a0 := Tryz.isAgg0
  z0 := Tryz.sizeOf0
  v0 := Tryz.zeroValue0
  t3 := Tryz.underlying3
  a3 := Tryz.isAgg3
  z3 := Tryz.sizeOf3
  v3 := Tryz.zeroValue3
  t4 := Tryz.underlying4
  a4 := Tryz.isAgg4
  z4 := Tryz.sizeOf4
  v4 := Tryz.zeroValue4
  t5 := Tryz.underlying5
  a5 := Tryz.isAgg5
  z5 := Tryz.sizeOf5
  v5 := Tryz.zeroValue5
  t9 := Tryz.underlying9
  a9 := Tryz.isAgg9
  z9 := Tryz.sizeOf9
  v9 := Tryz.zeroValue9
  t20 := Tryz.underlying20
  a20 := Tryz.isAgg20
  z20 := Tryz.sizeOf20
  v20 := Tryz.zeroValue20
  t37 := Tryz.underlying74
  a37 := Tryz.isAgg74
  z37 := Tryz.sizeOf74
  v37 := Tryz.zeroValue74
  t46 := Tryz.underlying139
  a46 := Tryz.isAgg139
  z46 := Tryz.sizeOf139
  v46 := Tryz.zeroValue139
  t51 := Tryz.underlying26
  a51 := Tryz.isAgg26
  z51 := Tryz.sizeOf26
  v51 := Tryz.zeroValue26
  t53 := Tryz.underlying171
  a53 := Tryz.isAgg171
  z53 := Tryz.sizeOf171
  v53 := Tryz.zeroValue171
  t70 := Tryz.underlying125
  a70 := Tryz.isAgg125
  z70 := Tryz.sizeOf125
  v70 := Tryz.zeroValue125
  t72 := Tryz.underlying127
  a72 := Tryz.isAgg127
  z72 := Tryz.sizeOf127
  v72 := Tryz.zeroValue127
  t75 := Tryz.underlying107
  a75 := Tryz.isAgg107
  z75 := Tryz.sizeOf107
  v75 := Tryz.zeroValue107
  t76 := Tryz.underlying108
  a76 := Tryz.isAgg108
  z76 := Tryz.sizeOf108
  v76 := Tryz.zeroValue108
  t109 := Tryz.underlying209
  a109 := Tryz.isAgg209
  z109 := Tryz.sizeOf209
  v109 := Tryz.zeroValue209
  t127 := Tryz.underlying167
  a127 := Tryz.isAgg167
  z127 := Tryz.sizeOf167
  v127 := Tryz.zeroValue167
  t146 := Tryz.underlying207
  a146 := Tryz.isAgg207
  z146 := Tryz.sizeOf207
  v146 := Tryz.zeroValue207
  t148 := Tryz.underlying235
  a148 := Tryz.isAgg235
  z148 := Tryz.sizeOf235
  v148 := Tryz.zeroValue235
  t164 := Tryz.underlying214
  a164 := Tryz.isAgg214
  z164 := Tryz.sizeOf214
  v164 := Tryz.zeroValue214 }
theorem Tryz.Builder_Extra_105 : Builder.Extra Tryz.prog Tryz.lays105_ren := {
  sizeBuilder := by kernel_rfl
  liesBuilder := by kernel_rfl
  t5 := Tryz.underlying5
  a5 := Tryz.isAgg5
  z5 := Tryz.sizeOf5
  v5 := Tryz.zeroValue5
  infoByte := by kernel_rfl
  cellsByte := by kernel_rfl
  sizeByte := by kernel_rfl
  neB5 := by decide }
open Go.RowKit Go.Lib in
/-- **strings.Repeat: count ≥ 0, the result within one allocation: count copies of s.** (LAID: no walk: one application.) -/
theorem Tryz.strings_Repeat (s : ByteArray) (c : Nat) (w : World) (hc : c ≤ 9223372036854775807) (hlen : s.size * c ≤ 140737488355328) :
    Calls Tryz.prog 143 #[.string s, .int .i64 c] w fun e w' => e = .returned (.string ⟨(Lib.repeatL s.data.toList c).toArray⟩) ∧ Below w.heap.size w w' := Any.strings_Repeat Tryz.lays105 Tryz.Builder_Extra_105 s c w hc hlen
end Go.Proofs
