/-
  DERIVED: THE SHELF's CONTRACTS AT THIS DUMP, IN PLAIN WORDS (tools/lay-plain.mjs out of 'YtffmmkjoknghoaaShelf.lean', which tools/lay-shelf.mjs wrote): THE SAME DECLARATIONS UNDER THE SAME NAMES: 'import', 'namespace', 'open', 'def', 'theorem' AND NOTHING ELSE: no command of the shelf's: FOR A HAND-IN. Each laying: the table of numbers ('.._ren') and one theorem, a field a fact of the dump's own or the kernel's comparison; each contract: ONE APPLICATION.
-/
import Derived.Shelf.Small.Bits
import Derived.Shelf.Small.Wraps
import Derived.Shelf.Strconv.Itoa0
import Derived.Shelf.Sort.Plain
import Derived.Shelf.GgClosure.StringsIndexFunc
import Derived.Ground.GgwProg
import Derived.Shelf.GgClosure.StringsIndexFuncTop
import Derived.Shelf.GgClosure.StringsRunes
import Derived.Shelf.Strings.FuncGrows
import Derived.Ground.Names2Prog
import Derived.Shelf.Slices.SearchI
import Derived.Shelf.Slices.In.SortNone
import Derived.Test.YtffmmkjoknghoaaProg
namespace Go.Proofs
open Go.Shelf
def Try.lays122_ren : Go.Shelf.Ren := ⟨fun | 122 => 64 | 215 => 93 | n => n, fun | 3 => 3 | 4 => 4 | n => n, fun | n => n⟩
theorem Try.lays122 : Go.Proofs.Lays.n122 Try.prog Try.lays122_ren := {
  mixed := by kernel_rfl
  f122 := Try.func64.trans (congrArg some (by kernel_rfl))
  f215 := Try.func93.trans (congrArg some (by kernel_rfl))
  t3 := Try.underlying3
  a3 := Try.isAgg3
  z3 := Try.sizeOf3
  v3 := Try.zeroValue3
  t4 := Try.underlying4
  a4 := Try.isAgg4
  z4 := Try.sizeOf4
  v4 := Try.zeroValue4 }
def Try.lays189_ren : Go.Shelf.Ren := ⟨fun | 189 => 102 | 125 => 92 | 257 => 121 | 128 => 117 | 129 => 118 | 294 => 132 | 295 => 133 | 296 => 134 | 297 => 135 | 298 => 136 | 299 => 137 | 216 => 138 | 300 => 139 | 301 => 140 | 328 => 142 | 329 => 126 | 330 => 127 | 331 => 143 | 332 => 144 | 215 => 93 | 343 => 145 | n => n, fun | 28 => 22 | 3 => 3 | 46 => 141 | 0 => 0 | 51 => 164 | 53 => 166 | 4 => 4 | 183 => 158 | 182 => 157 | 131 => 124 | 5 => 5 | 9 => 9 | 218 => 177 | 222 => 181 | 228 => 189 | 229 => 190 | n => n, fun | n => n⟩
theorem Try.lays189 : Go.Proofs.Lays.n189 Try.prog Try.lays189_ren := {
  mixed := by kernel_rfl
  f125 := Try.func92.trans (congrArg some (by kernel_rfl))
  f128 := Try.func117.trans (congrArg some (by kernel_rfl))
  f129 := Try.func118.trans (congrArg some (by kernel_rfl))
  f189 := Try.func102.trans (congrArg some (by kernel_rfl))
  f215 := Try.func93.trans (congrArg some (by kernel_rfl))
  f216 := Try.func138.trans (congrArg some (by kernel_rfl))
  f257 := Try.func121.trans (congrArg some (by kernel_rfl))
  f294 := Try.func132.trans (congrArg some (by kernel_rfl))
  f295 := Try.func133.trans (congrArg some (by kernel_rfl))
  f296 := Try.func134.trans (congrArg some (by kernel_rfl))
  f297 := Try.func135.trans (congrArg some (by kernel_rfl))
  f298 := Try.func136.trans (congrArg some (by kernel_rfl))
  f299 := Try.func137.trans (congrArg some (by kernel_rfl))
  f300 := Try.func139.trans (congrArg some (by kernel_rfl))
  f301 := Try.func140.trans (congrArg some (by kernel_rfl))
  f328 := Try.func142.trans (congrArg some (by kernel_rfl))
  f329 := Try.func126.trans (congrArg some (by kernel_rfl))
  f330 := Try.func127.trans (congrArg some (by kernel_rfl))
  f331 := Try.func143.trans (congrArg some (by kernel_rfl))
  f332 := Try.func144.trans (congrArg some (by kernel_rfl))
  f343 := Try.func145.trans (congrArg some (by kernel_rfl))
  t0 := Try.underlying0
  a0 := Try.isAgg0
  z0 := Try.sizeOf0
  v0 := Try.zeroValue0
  t3 := Try.underlying3
  a3 := Try.isAgg3
  z3 := Try.sizeOf3
  v3 := Try.zeroValue3
  t4 := Try.underlying4
  a4 := Try.isAgg4
  z4 := Try.sizeOf4
  v4 := Try.zeroValue4
  t5 := Try.underlying5
  a5 := Try.isAgg5
  z5 := Try.sizeOf5
  v5 := Try.zeroValue5
  t9 := Try.underlying9
  a9 := Try.isAgg9
  z9 := Try.sizeOf9
  v9 := Try.zeroValue9
  t28 := Try.underlying22
  a28 := Try.isAgg22
  z28 := Try.sizeOf22
  v28 := Try.zeroValue22
  t46 := Try.underlying141
  a46 := Try.isAgg141
  z46 := Try.sizeOf141
  v46 := Try.zeroValue141
  t51 := Try.underlying164
  a51 := Try.isAgg164
  z51 := Try.sizeOf164
  v51 := Try.zeroValue164
  t53 := Try.underlying166
  a53 := Try.isAgg166
  z53 := Try.sizeOf166
  v53 := Try.zeroValue166
  t131 := Try.underlying124
  a131 := Try.isAgg124
  z131 := Try.sizeOf124
  v131 := Try.zeroValue124
  t182 := Try.underlying157
  a182 := Try.isAgg157
  z182 := Try.sizeOf157
  v182 := Try.zeroValue157
  t183 := Try.underlying158
  a183 := Try.isAgg158
  z183 := Try.sizeOf158
  v183 := Try.zeroValue158
  t218 := Try.underlying177
  a218 := Try.isAgg177
  z218 := Try.sizeOf177
  v218 := Try.zeroValue177
  t222 := Try.underlying181
  a222 := Try.isAgg181
  z222 := Try.sizeOf181
  v222 := Try.zeroValue181
  t228 := Try.underlying189
  a228 := Try.isAgg189
  z228 := Try.sizeOf189
  v228 := Try.zeroValue189
  t229 := Try.underlying190
  a229 := Try.isAgg190
  z229 := Try.sizeOf190
  v229 := Try.zeroValue190 }
def Try.laysGw17_ren : Go.Shelf.Ren := ⟨fun | 17 => 98 | 15 => 120 | 20 => 131 | n => n, fun | 9 => 9 | 23 => 149 | 4 => 4 | 3 => 3 | 0 => 0 | 21 => 21 | n => n, fun | n => n⟩
theorem Try.laysGw17 : Go.Proofs.LaysGw.n17 Try.prog Try.laysGw17_ren := {
  mixed := by kernel_rfl
  f15 := Try.func120.trans (congrArg some (by kernel_rfl))
  f17 := Try.func98.trans (congrArg some (by kernel_rfl))
  f20 := Try.func131.trans (congrArg some (by kernel_rfl))
  t0 := Try.underlying0
  a0 := Try.isAgg0
  z0 := Try.sizeOf0
  v0 := Try.zeroValue0
  i0 := by kernel_rfl
  t3 := Try.underlying3
  a3 := Try.isAgg3
  z3 := Try.sizeOf3
  v3 := Try.zeroValue3
  i3 := by kernel_rfl
  t4 := Try.underlying4
  a4 := Try.isAgg4
  z4 := Try.sizeOf4
  v4 := Try.zeroValue4
  i4 := by kernel_rfl
  t9 := Try.underlying9
  a9 := Try.isAgg9
  z9 := Try.sizeOf9
  v9 := Try.zeroValue9
  i9 := by kernel_rfl
  t21 := Try.underlying21
  a21 := Try.isAgg21
  z21 := Try.sizeOf21
  v21 := Try.zeroValue21
  i21 := by kernel_rfl
  t23 := Try.underlying149
  a23 := Try.isAgg149
  z23 := Try.sizeOf149
  v23 := Try.zeroValue149
  i23 := by kernel_rfl }
open Go.RowKit in
/-- cmp.Compare at int: "Compare returns -1 if x is less than y, 0 if x equals y, +1 if x is greater than y.": IT RETURNS 'Lib.compareInt x y'; the world is as it was. (LAID: no walk: one application.) -/
theorem Try.cmp_Compare_int (x y : Int) (w : World) :
    Calls Try.prog 64 #[.int .i64 x, .int .i64 y] w fun e w' => e = .returned (.int .i64 (Lib.compareInt x y)) ∧ w' = w := Any.cmp_Compare_int Try.lays122 x y w
open Go.Sort Go.RowKit in
theorem Try.slices_Sort_int (blk off cap : Nat) (zs : List Int) (w : World) (hH : Holds (Value.int .i64) w blk off zs.toArray) (hblk : blk < w.heap.size) (hsz : zs.length < 4611686018427387904) :
    Calls Try.prog 102 #[.slice (some ⟨blk, off, none⟩) zs.length cap] w fun e w' =>
      e = .returned (.tuple #[]) ∧ ∃ n os, w' = grow (putRow (Value.int .i64) (Sort.ahead w n) blk off (zs.mergeSort fun x y => decide (x ≤ y)).toArray) os := Any.slices_Sort_int Try.lays189 blk off cap zs w hH hblk hsz
open Go.RowKit Go.Lib in
theorem Try.strings_ContainsFunc (g : Nat) (lb : Array Value) (eg : ∀ args w, (callFunc g args).run Try.prog w = .ok (.enter g args) w) (p : Nat → Bool) (s : ByteArray) (w : World) (hp : PredAt Try.prog g lb encR p w) :
    Calls Try.prog 98 #[.string s, .func (.func g) #[] lb] w fun e w' => e = .returned (.bool (decide (0 ≤ Lib.idxFunc p true s))) ∧ Below w.heap.size w w' := Any.strings_ContainsFunc Try.laysGw17 g lb eg p s w hp
open Go.RowKit Go.Sort in
/-- .. and plain. (LAID: no walk: one application.) -/
theorem Try.slices_Sort_int_none (p : Option Addr) (cap : Nat) (w : World) :
    Calls Try.prog 102 #[.slice p 0 cap] w fun e w' => e = .returned (.tuple #[]) ∧ w' = w := Any.slices_Sort_int_none Try.lays189 p cap w
end Go.Proofs
