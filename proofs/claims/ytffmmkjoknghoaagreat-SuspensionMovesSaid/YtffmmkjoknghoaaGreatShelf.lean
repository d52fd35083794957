/-
  DERIVED: THE SHELF's CONTRACTS AT THIS DUMP, IN PLAIN WORDS (tools/lay-plain.mjs out of 'YtffmmkjoknghoaaGreatShelf.lean', which tools/lay-shelf.mjs wrote): THE SAME DECLARATIONS UNDER THE SAME NAMES: 'import', 'namespace', 'open', 'def', 'theorem' AND NOTHING ELSE: no command of the shelf's: FOR A HAND-IN. Each laying: the table of numbers ('.._ren') and one theorem, a field a fact of the dump's own or the kernel's comparison; each contract: ONE APPLICATION.
-/
import Derived.Shelf.Small.Bits
import Derived.Shelf.Small.Wraps
import Derived.Shelf.Strconv.Itoa0
import Derived.Shelf.Sort.Plain
import Derived.Shelf.GgClosure.StringsIndexFunc
import Derived.Ground.GgwProg
import Derived.Shelf.GgClosure.StringsIndexFuncTop
import Derived.Shelf.GgClosure.StringsRunes
import Derived.Shelf.Strings.FuncGrows
import Derived.Ground.Names2Prog
import Derived.Shelf.Slices.SearchI
import Derived.Shelf.Slices.In.SortNone
import Derived.Test.YtffmmkjoknghoaaGreatProg
namespace Go.Proofs
open Go.Shelf
def Tryz.lays122_ren : Go.Shelf.Ren := ⟨fun | 122 => 53 | 215 => 84 | n => n, fun | 3 => 3 | 4 => 4 | n => n, fun | n => n⟩
theorem Tryz.lays122 : Go.Proofs.Lays.n122 Tryz.prog Tryz.lays122_ren := {
  mixed := by kernel_rfl
  f122 := Tryz.func53.trans (congrArg some (by kernel_rfl))
  f215 := Tryz.func84.trans (congrArg some (by kernel_rfl))
  t3 := Tryz.underlying3
  a3 := Tryz.isAgg3
  z3 := Tryz.sizeOf3
  v3 := Tryz.zeroValue3
  t4 := Tryz.underlying4
  a4 := Tryz.isAgg4
  z4 := Tryz.sizeOf4
  v4 := Tryz.zeroValue4 }
def Tryz.lays189_ren : Go.Shelf.Ren := ⟨fun | 189 => 96 | 125 => 83 | 257 => 127 | 128 => 119 | 129 => 120 | 294 => 146 | 295 => 147 | 296 => 148 | 297 => 149 | 298 => 150 | 299 => 151 | 216 => 152 | 300 => 153 | 301 => 154 | 328 => 159 | 329 => 138 | 330 => 139 | 331 => 160 | 332 => 161 | 215 => 84 | 343 => 164 | n => n, fun | 28 => 22 | 3 => 3 | 46 => 136 | 0 => 0 | 51 => 166 | 53 => 168 | 4 => 4 | 183 => 160 | 182 => 159 | 131 => 128 | 5 => 5 | 9 => 9 | 218 => 181 | 222 => 185 | 228 => 194 | 229 => 102 | n => n, fun | n => n⟩
theorem Tryz.lays189 : Go.Proofs.Lays.n189 Tryz.prog Tryz.lays189_ren := {
  mixed := by kernel_rfl
  f125 := Tryz.func83.trans (congrArg some (by kernel_rfl))
  f128 := Tryz.func119.trans (congrArg some (by kernel_rfl))
  f129 := Tryz.func120.trans (congrArg some (by kernel_rfl))
  f189 := Tryz.func96.trans (congrArg some (by kernel_rfl))
  f215 := Tryz.func84.trans (congrArg some (by kernel_rfl))
  f216 := Tryz.func152.trans (congrArg some (by kernel_rfl))
  f257 := Tryz.func127.trans (congrArg some (by kernel_rfl))
  f294 := Tryz.func146.trans (congrArg some (by kernel_rfl))
  f295 := Tryz.func147.trans (congrArg some (by kernel_rfl))
  f296 := Tryz.func148.trans (congrArg some (by kernel_rfl))
  f297 := Tryz.func149.trans (congrArg some (by kernel_rfl))
  f298 := Tryz.func150.trans (congrArg some (by kernel_rfl))
  f299 := Tryz.func151.trans (congrArg some (by kernel_rfl))
  f300 := Tryz.func153.trans (congrArg some (by kernel_rfl))
  f301 := Tryz.func154.trans (congrArg some (by kernel_rfl))
  f328 := Tryz.func159.trans (congrArg some (by kernel_rfl))
  f329 := Tryz.func138.trans (congrArg some (by kernel_rfl))
  f330 := Tryz.func139.trans (congrArg some (by kernel_rfl))
  f331 := Tryz.func160.trans (congrArg some (by kernel_rfl))
  f332 := Tryz.func161.trans (congrArg some (by kernel_rfl))
  f343 := Tryz.func164.trans (congrArg some (by kernel_rfl))
  t0 := Tryz.underlying0
  a0 := Tryz.isAgg0
  z0 := Tryz.sizeOf0
  v0 := Tryz.zeroValue0
  t3 := Tryz.underlying3
  a3 := Tryz.isAgg3
  z3 := Tryz.sizeOf3
  v3 := Tryz.zeroValue3
  t4 := Tryz.underlying4
  a4 := Tryz.isAgg4
  z4 := Tryz.sizeOf4
  v4 := Tryz.zeroValue4
  t5 := Tryz.underlying5
  a5 := Tryz.isAgg5
  z5 := Tryz.sizeOf5
  v5 := Tryz.zeroValue5
  t9 := Tryz.underlying9
  a9 := Tryz.isAgg9
  z9 := Tryz.sizeOf9
  v9 := Tryz.zeroValue9
  t28 := Tryz.underlying22
  a28 := Tryz.isAgg22
  z28 := Tryz.sizeOf22
  v28 := Tryz.zeroValue22
  t46 := Tryz.underlying136
  a46 := Tryz.isAgg136
  z46 := Tryz.sizeOf136
  v46 := Tryz.zeroValue136
  t51 := Tryz.underlying166
  a51 := Tryz.isAgg166
  z51 := Tryz.sizeOf166
  v51 := Tryz.zeroValue166
  t53 := Tryz.underlying168
  a53 := Tryz.isAgg168
  z53 := Tryz.sizeOf168
  v53 := Tryz.zeroValue168
  t131 := Tryz.underlying128
  a131 := Tryz.isAgg128
  z131 := Tryz.sizeOf128
  v131 := Tryz.zeroValue128
  t182 := Tryz.underlying159
  a182 := Tryz.isAgg159
  z182 := Tryz.sizeOf159
  v182 := Tryz.zeroValue159
  t183 := Tryz.underlying160
  a183 := Tryz.isAgg160
  z183 := Tryz.sizeOf160
  v183 := Tryz.zeroValue160
  t218 := Tryz.underlying181
  a218 := Tryz.isAgg181
  z218 := Tryz.sizeOf181
  v218 := Tryz.zeroValue181
  t222 := Tryz.underlying185
  a222 := Tryz.isAgg185
  z222 := Tryz.sizeOf185
  v222 := Tryz.zeroValue185
  t228 := Tryz.underlying194
  a228 := Tryz.isAgg194
  z228 := Tryz.sizeOf194
  v228 := Tryz.zeroValue194
  t229 := Tryz.underlying102
  a229 := Tryz.isAgg102
  z229 := Tryz.sizeOf102
  v229 := Tryz.zeroValue102 }
def Tryz.laysGw17_ren : Go.Shelf.Ren := ⟨fun | 17 => 92 | 15 => 126 | 20 => 145 | n => n, fun | 9 => 9 | 23 => 149 | 4 => 4 | 3 => 3 | 0 => 0 | 21 => 21 | n => n, fun | n => n⟩
theorem Tryz.laysGw17 : Go.Proofs.LaysGw.n17 Tryz.prog Tryz.laysGw17_ren := {
  mixed := by kernel_rfl
  f15 := Tryz.func126.trans (congrArg some (by kernel_rfl))
  f17 := Tryz.func92.trans (congrArg some (by kernel_rfl))
  f20 := Tryz.func145.trans (congrArg some (by kernel_rfl))
  t0 := Tryz.underlying0
  a0 := Tryz.isAgg0
  z0 := Tryz.sizeOf0
  v0 := Tryz.zeroValue0
  i0 := by kernel_rfl
  t3 := Tryz.underlying3
  a3 := Tryz.isAgg3
  z3 := Tryz.sizeOf3
  v3 := Tryz.zeroValue3
  i3 := by kernel_rfl
  t4 := Tryz.underlying4
  a4 := Tryz.isAgg4
  z4 := Tryz.sizeOf4
  v4 := Tryz.zeroValue4
  i4 := by kernel_rfl
  t9 := Tryz.underlying9
  a9 := Tryz.isAgg9
  z9 := Tryz.sizeOf9
  v9 := Tryz.zeroValue9
  i9 := by kernel_rfl
  t21 := Tryz.underlying21
  a21 := Tryz.isAgg21
  z21 := Tryz.sizeOf21
  v21 := Tryz.zeroValue21
  i21 := by kernel_rfl
  t23 := Tryz.underlying149
  a23 := Tryz.isAgg149
  z23 := Tryz.sizeOf149
  v23 := Tryz.zeroValue149
  i23 := by kernel_rfl }
open Go.RowKit in
/-- cmp.Compare at int: "Compare returns -1 if x is less than y, 0 if x equals y, +1 if x is greater than y.": IT RETURNS 'Lib.compareInt x y'; the world is as it was. (LAID: no walk: one application.) -/
theorem Tryz.cmp_Compare_int (x y : Int) (w : World) :
    Calls Tryz.prog 53 #[.int .i64 x, .int .i64 y] w fun e w' => e = .returned (.int .i64 (Lib.compareInt x y)) ∧ w' = w := Any.cmp_Compare_int Tryz.lays122 x y w
open Go.Sort Go.RowKit in
theorem Tryz.slices_Sort_int (blk off cap : Nat) (zs : List Int) (w : World) (hH : Holds (Value.int .i64) w blk off zs.toArray) (hblk : blk < w.heap.size) (hsz : zs.length < 4611686018427387904) :
    Calls Tryz.prog 96 #[.slice (some ⟨blk, off, none⟩) zs.length cap] w fun e w' =>
      e = .returned (.tuple #[]) ∧ ∃ n os, w' = grow (putRow (Value.int .i64) (Sort.ahead w n) blk off (zs.mergeSort fun x y => decide (x ≤ y)).toArray) os := Any.slices_Sort_int Tryz.lays189 blk off cap zs w hH hblk hsz
open Go.RowKit Go.Lib in
theorem Tryz.strings_ContainsFunc (g : Nat) (lb : Array Value) (eg : ∀ args w, (callFunc g args).run Tryz.prog w = .ok (.enter g args) w) (p : Nat → Bool) (s : ByteArray) (w : World) (hp : PredAt Tryz.prog g lb encR p w) :
    Calls Tryz.prog 92 #[.string s, .func (.func g) #[] lb] w fun e w' => e = .returned (.bool (decide (0 ≤ Lib.idxFunc p true s))) ∧ Below w.heap.size w w' := Any.strings_ContainsFunc Tryz.laysGw17 g lb eg p s w hp
open Go.RowKit Go.Sort in
/-- .. and plain. (LAID: no walk: one application.) -/
theorem Tryz.slices_Sort_int_none (p : Option Addr) (cap : Nat) (w : World) :
    Calls Tryz.prog 96 #[.slice p 0 cap] w fun e w' => e = .returned (.tuple #[]) ∧ w' = w := Any.slices_Sort_int_none Tryz.lays189 p cap w
end Go.Proofs
